/-
  The laws DominanceWalks, DominanceChecked: walks. Nothing here is a claim.
-/
import Derived.Test.YteilalejfphkgaaT21
namespace Go.Proofs.Yteilalejfphkgaa
open Go.GL Go.GL.Dom Go.GL.Dfs

theorem lawWalks_ok (l : List Int) (a b : Int) (v : Value) (D : Nat → Prop) (w : World) (hv : SlR 1 RInt D w v l) : Calls Try.prog 6 #[v, .int .i64 a, .int .i64 b] w (Ret fun r w' => r = .bool true ∧ Ext w w') := by
  have hv' := hv
  obtain ⟨ao, cap, rfl, hlc, hcm, hel⟩ := hv'
  refine calls Try.func6 rfl [(0, .slice ao l.length cap), (1, .int .i64 a), (2, .int .i64 b)] 42 ⟨Nat.le_of_ble_eq_true rfl, Try.ntmps6⟩ (argsOk (Sub.cons rfl (Sub.cons rfl (Sub.cons rfl Sub.nil)))) ?_
  refine WC.seq (WC.region ?_)
  refine WO.op rfl rfl rfl (R.assign rfl) ?_
  refine WO.nil (WX.next (WC.seq (WC.seq (WC.region ?_))))
  refine WO.call rfl rfl rfl (F.call (vs := []) Try.call10 rfl) (known_ok w) ?_
  rintro _ w1 ⟨rfl, hk1⟩
  refine WO.op rfl rfl rfl (R.not rfl) ?_
  refine WO.nil (WX.next ?_)
  refine WC.ff rfl (rfl) ?_
  refine WC.skip (WX.next (WC.seq (WC.seq (WC.region ?_))))
  refine WO.op rfl rfl rfl (R.move rfl) ?_
  refine WO.op rfl rfl rfl (R.lenS rfl Try.runUnderlying27 rfl) ?_
  refine WO.op rfl rfl rfl (R.gtr rfl rfl) ?_
  refine WO.nil (WX.next ?_)
  refine WC.ite rfl (fun h40 => ?_) (fun h40 => ?_)
  ·
    refine WC.seq (WC.region ?_)
    refine WO.op rfl rfl rfl (R.assign rfl) ?_
    refine WO.nil (WX.next (WC.ret (WX.thenR ?_)))
    refine WX.ret1 Try.results6 rfl ⟨_, rfl, rfl, hk1⟩
  refine WC.skip (WX.next (WC.seq (WC.region ?_)))
  refine WO.op rfl rfl rfl (R.assign rfl) ?_
  refine WO.nil (WX.next (WC.seq (WC.region ?_)))
  refine WO.op rfl rfl rfl (R.move rfl) ?_
  refine WO.op rfl rfl rfl (R.assign rfl) ?_
  refine WO.nil (WX.next (WC.seq (WC.seq (WC.region ?_))))
  refine WO.op rfl rfl rfl (R.move rfl) ?_
  refine WO.op rfl rfl rfl (R.lenS rfl Try.runUnderlying27 rfl) ?_
  refine WO.op rfl rfl rfl (R.add rfl rfl (wrap_i64_in (by omega))) ?_
  refine WO.op rfl rfl rfl (R.move rfl) ?_
  refine WO.nil (WX.next ?_)
  refine WC.cut (σ := Bool) (fun p => [(0, .slice ao l.length cap), (1, .int .i64 a), (2, .int .i64 b), (7, .bool p)]) (fun p => fun w' => p = hits l a (l.length + 1) b ∧ w' = w1) ?_ ?_
  ·
    refine WC.block ?_
    refine WC.loop (σ := Nat × Int × Bool) (fun ⟨k, x, p⟩ => [(0, .slice ao l.length cap), (1, .int .i64 a), (2, .int .i64 b), (7, .bool p), (8, .int .i64 x), (17, .int .i64 ((l.length : Int) + 1)), (18, .int .i64 k)]) (fun ⟨k, x, p⟩ => fun w' => k ≤ l.length + 1 ∧ (p || hits l a (l.length + 1 - k) x) = hits l a (l.length + 1) b ∧ w' = w1) (fun ⟨k, x, p⟩ => l.length + 1 - k) ((0, b, false)) (Sub.cons rfl (Sub.cons rfl (Sub.cons rfl (Sub.cons rfl (Sub.cons rfl (Sub.cons rfl (Sub.cons rfl Sub.nil))))))) (⟨Nat.zero_le _, rfl, rfl⟩) ?_
    rintro ⟨k, x, p⟩ w2 ⟨hk, hh, hw2⟩
    show WC _ _ _ _ [(0, .slice ao l.length cap), (1, .int .i64 a), (2, .int .i64 b), (7, .bool p), (8, .int .i64 x), (17, .int .i64 ((l.length : Int) + 1)), (18, .int .i64 k)] _
    subst hw2
    refine WC.seq (WC.region ?_)
    refine WO.op rfl rfl rfl (R.lss rfl rfl) ?_
    refine WO.nil (WX.next (WC.seq ?_))
    refine WC.ite rfl (fun hlt => ?_) (fun hge => ?_)
    · have hlen : l.length + 1 - k = (l.length + 1 - (k + 1)) + 1 := by omega
      rw [hlen] at hh
      refine WC.skip (WX.next (WC.seq (WC.block (WC.seq (WC.seq (WC.region ?_))))))
      refine WO.op rfl rfl rfl (R.move rfl) ?_
      refine WO.op rfl rfl rfl (R.lss rfl rfl) ?_
      refine WO.op rfl rfl rfl (R.move rfl) ?_
      refine WO.cases (p := x < 0) (fun hx0 => ?_) (fun hx0 => ?_)
      · rw [hits, if_neg (by omega), Bool.or_false] at hh
        refine WO.no rfl rfl (decide_eq_true hx0) rfl ?_
        refine WO.no rfl rfl (decide_eq_true hx0) rfl ?_
        refine WO.no rfl rfl (decide_eq_true hx0) rfl ?_
        refine WO.no rfl rfl (decide_eq_true hx0) rfl ?_
        refine WO.op rfl rfl rfl (R.pickT rfl (decide_eq_true hx0) rfl) ?_
        refine WO.nil (WX.next ?_)
        refine WC.tt rfl (rfl) ?_
        refine WC.exit (WX.thenE (WX.miss rfl (WX.thenE (WX.thenE (WX.hit ?_)))))
        refine WX.meet (p) (Sub.cons rfl (Sub.cons rfl (Sub.cons rfl (Sub.cons rfl Sub.nil)))) (⟨hh, rfl⟩)
      ·
        refine WO.yes rfl rfl (decide_eq_false hx0) ?_
        refine WO.op rfl rfl rfl (R.move rfl) ?_
        refine WO.yes rfl rfl (decide_eq_false hx0) ?_
        refine WO.op rfl rfl rfl (R.move rfl) ?_
        refine WO.yes rfl rfl (decide_eq_false hx0) ?_
        refine WO.op rfl rfl rfl (R.lenS rfl Try.runUnderlying27 rfl) ?_
        refine WO.yes rfl rfl (decide_eq_false hx0) ?_
        refine WO.op rfl rfl rfl (R.geq rfl rfl) ?_
        refine WO.op rfl rfl rfl (R.pickF rfl (decide_eq_false hx0) rfl) ?_
        refine WO.nil (WX.next ?_)
        refine WC.ite rfl (fun hxl => ?_) (fun hxl => ?_)
        · rw [hits, if_neg (by omega), Bool.or_false] at hh
          refine WC.exit (WX.thenE (WX.miss rfl (WX.thenE (WX.thenE (WX.hit ?_)))))
          refine WX.meet (p) (Sub.cons rfl (Sub.cons rfl (Sub.cons rfl (Sub.cons rfl Sub.nil)))) (⟨hh, rfl⟩)
        · obtain ⟨y, rfl⟩ := Int.eq_ofNat_of_zero_le (show 0 ≤ x by omega)
          rw [hits, if_pos (by omega), Int.toNat_natCast] at hh
          obtain ⟨b1, o1, c1, hao, _, hcl1, hcs1, rfl⟩ := hel y _ (lk_lt (by omega))
          have hcs2 := hk1.cells hcs1 (fun h => h)
          refine WC.skip (WX.next (WC.seq (WC.seq (WC.region ?_))))
          refine WO.op rfl rfl rfl (R.move rfl) ?_
          refine WO.op rfl rfl rfl (R.move rfl) ?_
          refine WO.op rfl rfl rfl (R.eql rfl rfl) ?_
          refine WO.nil (WX.next ?_)
          refine WC.ite rfl (fun hab => ?_) (fun hab => ?_)
          ·
            refine WC.region ?_
            refine WO.op rfl rfl rfl (R.assign rfl) ?_
            refine WO.nil (WX.next (WC.region ?_))
            refine WO.op rfl rfl rfl (R.move rfl) ?_
            refine WO.op rfl rfl rfl (R.move rfl) ?_
            refine WO.op rfl rfl rfl (R.indexS Try.runUnderlying27 Try.sizeOf3 rfl rfl hao (by omega)) ?_
            refine WO.op rfl rfl rfl (R.load Try.isAgg3 rfl (hcs2 0 _ rfl)) ?_
            refine WO.op rfl rfl rfl (R.assign rfl) ?_
            refine WO.nil (WX.blockN (WX.next (WC.region ?_)))
            refine WO.op rfl rfl rfl (R.add rfl rfl (wrap_i64_in (by omega))) ?_
            refine WO.op rfl rfl rfl (R.move rfl) ?_
            refine WO.nil ?_
            refine WX.back ((k + 1, lk l y, true)) (Sub.cons rfl (Sub.cons rfl (Sub.cons rfl (Sub.cons rfl (Sub.cons rfl (Sub.cons rfl (Sub.cons rfl Sub.nil))))))) (⟨by omega, by rw [← hh, decide_eq_true hab.symm]; simp, rfl⟩) (by first | omega | (dsimp only; omega))
          ·
            refine WC.skip (WX.next (WC.region ?_))
            refine WO.op rfl rfl rfl (R.move rfl) ?_
            refine WO.op rfl rfl rfl (R.move rfl) ?_
            refine WO.op rfl rfl rfl (R.indexS Try.runUnderlying27 Try.sizeOf3 rfl rfl hao (by omega)) ?_
            refine WO.op rfl rfl rfl (R.load Try.isAgg3 rfl (hcs2 0 _ rfl)) ?_
            refine WO.op rfl rfl rfl (R.assign rfl) ?_
            refine WO.nil (WX.blockN (WX.next (WC.region ?_)))
            refine WO.op rfl rfl rfl (R.add rfl rfl (wrap_i64_in (by omega))) ?_
            refine WO.op rfl rfl rfl (R.move rfl) ?_
            refine WO.nil ?_
            refine WX.back ((k + 1, lk l y, p)) (Sub.cons rfl (Sub.cons rfl (Sub.cons rfl (Sub.cons rfl (Sub.cons rfl (Sub.cons rfl (Sub.cons rfl Sub.nil))))))) (⟨by omega, by rw [← hh, decide_eq_false (fun h => hab h.symm)]; simp, rfl⟩) (by first | omega | (dsimp only; omega))
    · have hz : l.length + 1 - k = 0 := by omega
      rw [hz, hits, Bool.or_false] at hh
      refine WC.exit (WX.thenE (WX.thenE (WX.hit ?_)))
      refine WX.meet (p) (Sub.cons rfl (Sub.cons rfl (Sub.cons rfl (Sub.cons rfl Sub.nil)))) (⟨hh, rfl⟩)
  ·
    rintro p w2 ⟨hp, hw2⟩
    show WX _ _ _ [(0, .slice ao l.length cap), (1, .int .i64 a), (2, .int .i64 b), (7, .bool p)] _
    subst hw2
    refine WX.next (WC.seq (WC.region ?_))
    refine WO.op rfl rfl rfl (R.move rfl) ?_
    refine WO.op rfl rfl rfl (R.move rfl) ?_
    refine WO.op rfl rfl rfl (R.move rfl) ?_
    refine WO.call rfl rfl rfl (F.call (vs := [_, _, _]) Try.call23 rfl) (dominates_ok l a b _ D w2 (hv.ext stable_int hk1)) ?_
    rintro _ w3 ⟨rfl, hk3⟩
    refine WO.op rfl rfl rfl (R.move rfl) ?_
    refine WO.op rfl rfl rfl (R.eqlB Try.underlying4 rfl rfl) ?_
    refine WO.op rfl rfl rfl (R.assign rfl) ?_
    refine WO.nil (WX.next (WC.ret ?_))
    refine WX.ret1 Try.results6 rfl ⟨_, rfl, by simp [hp], hk1.ext hk3⟩

theorem lawChecked_ok (n root : Int) (es : List (Int × Int)) (l : List Int) (ev v : Value) (D D' : Nat → Prop) (w : World) (hes : SlR 2 RPair D w ev es) (hv : SlR 1 RInt D' w v l) : Calls Try.prog 7 #[.agg #[.int .i64 n, ev], .int .i64 root, v] w (Ret fun r w' => r = .bool true ∧ Ext w w') := by
  have hes' := hes
  obtain ⟨ao, cap, rfl, _⟩ := hes'
  have hv' := hv
  obtain ⟨al, cl, rfl, _⟩ := hv'
  refine calls Try.func7 rfl [(0, .agg #[.int .i64 n, .slice ao es.length cap]), (1, .int .i64 root), (2, .slice al l.length cl)] 40 ⟨Nat.le_of_ble_eq_true rfl, Try.ntmps7⟩ (argsOk (Sub.cons rfl (Sub.cons rfl (Sub.cons rfl Sub.nil)))) ?_
  refine WC.seq (WC.region ?_)
  refine WO.mem rfl rfl rfl (M.box rfl rfl) ?_
  rintro _ w1 ⟨b, rfl, hb, hs1, hB1, hk1⟩
  refine WO.op rfl rfl rfl (R.assign rfl) ?_
  refine WO.nil (WX.next (WC.seq (WC.seq (WC.region ?_))))
  refine WO.call rfl rfl rfl (F.call (vs := []) Try.call10 rfl) (known_ok w1) ?_
  rintro _ w2 ⟨rfl, hk2⟩
  have hB2 := hk2.blk hB1 (fun h => h)
  have hes2 := (hes.ext stable_pair hk1).ext stable_pair hk2
  refine WO.op rfl rfl rfl (R.not rfl) ?_
  refine WO.nil (WX.next ?_)
  refine WC.ff rfl (rfl) ?_
  refine WC.skip (WX.next (WC.seq (WC.seq (WC.region ?_))))
  refine WO.op rfl rfl rfl (R.loadK Try.isAgg24 Try.sizeOf24 rfl (by rfl) hB2.cells) ?_
  refine WO.call rfl rfl rfl (F.call (vs := [_]) Try.call11 rfl) (few_ok n es _ D w2 hes2) ?_
  rintro _ w3 ⟨rfl, hk3⟩
  have hB3 := hk3.blk hB2 (fun h => h)
  have hes3 := hes2.ext stable_pair hk3
  have hE3 := (hk1.ext hk2).ext hk3
  refine WO.op rfl rfl rfl (R.notD rfl) ?_
  refine WO.op rfl rfl rfl (R.move rfl) ?_
  refine WO.cases (p := (n ≤ 12 ∧ es.length ≤ 40)) (fun hf => ?_) (fun hf => ?_)
  ·
    refine WO.yes rfl rfl (decide_eq_false (by simpa using hf)) ?_
    refine WO.op rfl rfl rfl (R.move rfl) ?_
    refine WO.yes rfl rfl (decide_eq_false (by simpa using hf)) ?_
    refine WO.op rfl rfl rfl (R.lenS rfl Try.runUnderlying27 rfl) ?_
    refine WO.yes rfl rfl (decide_eq_false (by simpa using hf)) ?_
    refine WO.op rfl rfl rfl (R.gtr rfl rfl) ?_
    refine WO.op rfl rfl rfl (R.pickF rfl (decide_eq_false (by simpa using hf)) rfl) ?_
    refine WO.nil (WX.next ?_)
    refine WC.ite rfl (fun hl => ?_) (fun hl => ?_)
    ·
      refine WC.seq (WC.region ?_)
      refine WO.op rfl rfl rfl (R.assign rfl) ?_
      refine WO.nil (WX.next (WC.ret (WX.thenR ?_)))
      refine WX.ret1 Try.results7 rfl ⟨_, rfl, rfl, hE3⟩
    ·
      refine WC.skip (WX.next (WC.seq (WC.region ?_)))
      refine WO.op rfl rfl rfl (R.loadK Try.isAgg24 Try.sizeOf24 rfl (by rfl) hB3.cells) ?_
      refine WO.op rfl rfl rfl (R.move rfl) ?_
      refine WO.op rfl rfl rfl (R.move rfl) ?_
      refine WO.call rfl rfl rfl (F.call (vs := [_, _, _]) Try.call24 rfl) (checkT_ok n root es l _ _ D D' w3 hes3 (hv.ext stable_int hE3)) ?_
      rintro _ w4 ⟨hr0, hr1, hk4⟩
      have hB4 := hk4.blk hB3 (fun h => h)
      have hes4 := hes3.ext stable_pair hk4
      refine WO.op rfl rfl rfl (R.assign rfl) ?_
      refine WO.nil (WX.next (WC.seq (WC.seq (WC.region ?_))))
      refine WO.op rfl rfl rfl (R.loadK Try.isAgg24 Try.sizeOf24 rfl (by rfl) hB4.cells) ?_
      refine WO.op rfl rfl rfl (R.move rfl) ?_
      refine WO.call rfl rfl rfl (F.call (vs := [_, _]) Try.call13 rfl) (code_ok n root es _ D w4 hes4) ?_
      rintro _ w5 ⟨rfl, hk5⟩
      have hE5 := (hE3.ext hk4).ext hk5
      have hB5 := hk5.blk hB4 (fun h => h)
      have hes5 := hes4.ext stable_pair hk5
      refine WO.op rfl rfl rfl (R.assign rfl) ?_
      refine WO.nil (WX.next (WC.seq (WC.region ?_)))
      refine WO.op rfl rfl rfl (R.move rfl) ?_
      refine WO.op rfl rfl rfl (R.neq rfl rfl) ?_
      refine WO.nil (WX.next ?_)
      refine WC.ite rfl (fun hc => ?_) (fun hc => ?_)
      · have hu := hr0 hc
        subst hu
        refine WC.seq (WC.region ?_)
        refine WO.op rfl rfl rfl (R.move rfl) ?_
        refine WO.op rfl rfl rfl (R.move rfl) ?_
        refine WO.op rfl rfl rfl (R.eql rfl rfl) ?_
        refine WO.op rfl rfl rfl (R.assign rfl) ?_
        refine WO.nil (WX.next (WC.ret (WX.thenR ?_)))
        refine WX.ret1 Try.results7 rfl ⟨_, rfl, by simp, hE5⟩
      · have hc0 : codeOf n es root = 0 := by simpa using hc
        obtain ⟨Rw, order, pl, T, hK, rfl⟩ := hr1 hc0
        have hz := code_zero hc0
        obtain ⟨m, rfl⟩ := Int.eq_ofNat_of_zero_le (show 0 ≤ n by omega)
        obtain ⟨rt, rfl⟩ := Int.eq_ofNat_of_zero_le hz.2.1
        simp only [Int.toNat_natCast] at hK
        have hall := (Gr.check_zero hz.1).2.2.2
        refine WC.skip (WX.next (WC.seq (WC.seq (WC.region ?_))))
        refine WO.op rfl rfl rfl (R.move rfl) ?_
        refine WO.op rfl rfl rfl (R.loadK Try.isAgg24 Try.sizeOf24 rfl (by rfl) hB5.cells) ?_
        refine WO.op rfl rfl rfl (R.move rfl) ?_
        refine WO.call rfl rfl rfl (F.call (vs := [_, _]) Try.call15 rfl) (refTree_ok m rt es _ D w5 hes5 (by omega) hall (by omega)) ?_
        rintro u' w6 ⟨M', T', hM, hT', hsl, hk6⟩
        have hTe := tree_unique hK hall hM hT'
        subst hTe
        refine WO.call rfl rfl rfl (F.call (vs := [_, _]) Try.call14 rfl) (same_ok l T _ u' _ _ w6 ((hv.ext stable_int hE5).ext stable_int hk6) hsl) ?_
        rintro _ w7 ⟨rfl, hk7⟩
        have hE7 := (hE5.ext hk6).ext hk7
        refine WO.nil (WX.next ?_)
        refine WC.ite rfl (fun hd => ?_) (fun hd => ?_)
        · rw [if_pos hd]
          refine WC.seq (WC.region ?_)
          refine WO.op rfl rfl rfl (R.move rfl) ?_
          refine WO.op rfl rfl rfl (R.eql rfl rfl) ?_
          refine WO.op rfl rfl rfl (R.assign rfl) ?_
          refine WO.nil (WX.next (WC.ret (WX.thenR ?_)))
          refine WX.ret1 Try.results7 rfl ⟨_, rfl, by simp, hE7⟩
        · rw [if_neg hd]
          refine WC.skip (WX.next (WC.seq (WC.region ?_)))
          refine WO.op rfl rfl rfl (R.move rfl) ?_
          refine WO.op rfl rfl rfl (R.eql rfl rfl) ?_
          refine WO.op rfl rfl rfl (R.assign rfl) ?_
          refine WO.nil (WX.next (WC.ret ?_))
          refine WX.ret1 Try.results7 rfl ⟨_, rfl, by simp, hE7⟩
  ·
    refine WO.no rfl rfl (decide_eq_true (by simpa using hf)) rfl ?_
    refine WO.no rfl rfl (decide_eq_true (by simpa using hf)) rfl ?_
    refine WO.no rfl rfl (decide_eq_true (by simpa using hf)) rfl ?_
    refine WO.op rfl rfl rfl (R.pickT rfl (decide_eq_true (by simpa using hf)) rfl) ?_
    refine WO.nil (WX.next ?_)
    refine WC.tt rfl (rfl) ?_
    refine WC.seq (WC.region ?_)
    refine WO.op rfl rfl rfl (R.assign rfl) ?_
    refine WO.nil (WX.next (WC.ret (WX.thenR ?_)))
    refine WX.ret1 Try.results7 rfl ⟨_, rfl, rfl, hE3⟩
end Go.Proofs.Yteilalejfphkgaa
