/-
  dominance: Dominates, Check. Contracts; nothing here is a claim.
-/
import Derived.Test.YteilalejfphkgaaT12
namespace Go.Proofs.Yteilalejfphkgaa
open Go.GL Go.GL.Dom Go.GL.Dfs

/-- a is met within so many steps up from b. -/
def hits (l : List Int) (a : Int) : Nat → Int → Bool
  | 0, _ => false
  | f + 1, b => if 0 ≤ b ∧ b < l.length then decide (a = b) || hits l a f (lk l b.toNat) else false

theorem dominates_ok (l : List Int) (a b : Int) (v : Value) (D : Nat → Prop) (w : World) (hv : SlR 1 RInt D w v l) : Calls Try.prog 23 #[v, .int .i64 a, .int .i64 b] w (Ret fun r w' => r = .bool (hits l a (l.length + 1) b) ∧ Ext w w') := by
  obtain ⟨ao, cap, rfl, hlc, hcm, hel⟩ := hv
  refine calls Try.func23 rfl [(0, .slice ao l.length cap), (1, .int .i64 a), (2, .int .i64 b)] 29 ⟨Nat.le_of_ble_eq_true rfl, Try.ntmps23⟩ (argsOk (Sub.cons rfl (Sub.cons rfl (Sub.cons rfl Sub.nil)))) ?_
  refine WC.seq (WC.region ?_)
  refine WO.op rfl rfl rfl (R.assign rfl) ?_
  refine WO.nil (WX.next (WC.seq (WC.seq (WC.region ?_))))
  refine WO.op rfl rfl rfl (R.move rfl) ?_
  refine WO.op rfl rfl rfl (R.lenS rfl Try.runUnderlying27 rfl) ?_
  refine WO.op rfl rfl rfl (R.assign rfl) ?_
  refine WO.nil (WX.next (WC.block ?_))
  refine WC.loop (σ := Nat × Int) (fun ⟨f, x⟩ => [(0, .slice ao l.length cap), (1, .int .i64 a), (2, .int .i64 x), (7, .int .i64 f)]) (fun ⟨f, x⟩ => fun w' => f ≤ l.length ∧ hits l a (f + 1) x = hits l a (l.length + 1) b ∧ Ext w w') (fun ⟨f, x⟩ => f) ((l.length, b)) (Sub.cons rfl (Sub.cons rfl (Sub.cons rfl (Sub.cons rfl Sub.nil)))) (⟨Nat.le_refl _, rfl, Keep.refl _ _⟩) ?_
  rintro ⟨f, x⟩ w1 ⟨hf, hh, hk1⟩
  show WC _ _ _ _ [(0, .slice ao l.length cap), (1, .int .i64 a), (2, .int .i64 x), (7, .int .i64 f)] _
  refine WC.seq (WC.seq (WC.region ?_))
  refine WO.op rfl rfl rfl (R.move rfl) ?_
  refine WO.op rfl rfl rfl (R.geq rfl rfl) ?_
  refine WO.op rfl rfl rfl (R.move rfl) ?_
  refine WO.cases (p := 0 ≤ x) (fun hx0 => ?_) (fun hx0 => ?_)
  ·
    refine WO.yes rfl rfl (decide_eq_true hx0) ?_
    refine WO.op rfl rfl rfl (R.move rfl) ?_
    refine WO.yes rfl rfl (decide_eq_true hx0) ?_
    refine WO.op rfl rfl rfl (R.move rfl) ?_
    refine WO.yes rfl rfl (decide_eq_true hx0) ?_
    refine WO.op rfl rfl rfl (R.lenS rfl Try.runUnderlying27 rfl) ?_
    refine WO.yes rfl rfl (decide_eq_true hx0) ?_
    refine WO.op rfl rfl rfl (R.lss rfl rfl) ?_
    refine WO.op rfl rfl rfl (R.pickT rfl (decide_eq_true hx0) rfl) ?_
    refine WO.nil (WX.next ?_)
    refine WC.ite rfl (fun hlt => ?_) (fun hge => ?_)
    · obtain ⟨y, rfl⟩ := Int.eq_ofNat_of_zero_le hx0
      have hstep : hits l a (f + 1) (y : Int) = (decide (a = (y : Int)) || hits l a f (lk l y)) := by
        rw [hits, if_pos ⟨hx0, hlt⟩, Int.toNat_natCast]
      refine WC.skip (WX.next (WC.seq (WC.block (WC.seq (WC.seq (WC.region ?_))))))
      refine WO.op rfl rfl rfl (R.move rfl) ?_
      refine WO.op rfl rfl rfl (R.move rfl) ?_
      refine WO.op rfl rfl rfl (R.eql rfl rfl) ?_
      refine WO.nil (WX.next ?_)
      refine WC.ite rfl (fun hab => ?_) (fun hab => ?_)
      ·
        refine WC.seq (WC.region ?_)
        refine WO.op rfl rfl rfl (R.assign rfl) ?_
        refine WO.nil (WX.next (WC.ret (WX.thenR (WX.blockR (WX.thenR (WX.thenR (WX.blockR (WX.thenR ?_))))))))
        refine WX.ret1 Try.results23 rfl ⟨_, rfl, by rw [← hh, hstep, decide_eq_true hab]; rfl, hk1⟩
      · rw [decide_eq_false hab, Bool.false_or] at hstep
        refine WC.skip (WX.next (WC.seq (WC.seq (WC.region ?_))))
        refine WO.op rfl rfl rfl (R.move rfl) ?_
        refine WO.op rfl rfl rfl (R.eql rfl rfl) ?_
        refine WO.nil (WX.next ?_)
        refine WC.ite rfl (fun hf0 => ?_) (fun hf0 => ?_)
        · have hf0' : f = 0 := by omega
          subst hf0'
          refine WC.seq (WC.region ?_)
          refine WO.op rfl rfl rfl (R.assign rfl) ?_
          refine WO.nil (WX.next (WC.ret (WX.thenR (WX.blockR (WX.thenR (WX.thenR (WX.blockR (WX.thenR ?_))))))))
          refine WX.ret1 Try.results23 rfl ⟨_, rfl, by rw [← hh, hstep]; rfl, hk1⟩
        · obtain ⟨f', rfl⟩ : ∃ f', f = f' + 1 := ⟨f - 1, by omega⟩
          obtain ⟨b1, o1, c1, hao, _, hcl1, hcs1, rfl⟩ := hel y _ (lk_lt (by omega))
          refine WC.skip (WX.next (WC.region ?_))
          refine WO.op rfl rfl rfl (R.move rfl) ?_
          refine WO.op rfl rfl rfl (R.move rfl) ?_
          refine WO.op rfl rfl rfl (R.indexS Try.runUnderlying27 Try.sizeOf3 rfl rfl hao (by omega)) ?_
          refine WO.op rfl rfl rfl (R.load Try.isAgg3 rfl ((hk1.cells hcs1 (fun h => h)) 0 _ rfl)) ?_
          refine WO.op rfl rfl rfl (R.assign rfl) ?_
          refine WO.nil (WX.blockN (WX.next (WC.region ?_)))
          refine WO.op rfl rfl rfl (R.move rfl) ?_
          refine WO.op rfl rfl rfl (R.sub rfl rfl (wrap_i64_in (by omega))) ?_
          refine WO.op rfl rfl rfl (R.assign rfl) ?_
          refine WO.nil ?_
          rw [show ((f' + 1 : Nat) : Int) - 1 = (f' : Int) from by omega]
          refine WX.back ((f', lk l y)) (Sub.cons rfl (Sub.cons rfl (Sub.cons rfl (Sub.cons rfl Sub.nil)))) (⟨by omega, by rw [← hh, hstep], hk1⟩) (by first | omega | (dsimp only; omega))
    · have : hits l a (f + 1) x = false := by rw [hits, if_neg (fun h => hge h.2)]
      refine WC.exit (WX.thenE (WX.thenE (WX.hit (WX.next (WC.seq (WC.region ?_))))))
      refine WO.op rfl rfl rfl (R.assign rfl) ?_
      refine WO.nil (WX.next (WC.ret ?_))
      refine WX.ret1 Try.results23 rfl ⟨_, rfl, by rw [← hh, this], hk1⟩
  · have : hits l a (f + 1) x = false := by rw [hits, if_neg (fun h => hx0 h.1)]
    refine WO.no rfl rfl (decide_eq_false hx0) rfl ?_
    refine WO.no rfl rfl (decide_eq_false hx0) rfl ?_
    refine WO.no rfl rfl (decide_eq_false hx0) rfl ?_
    refine WO.no rfl rfl (decide_eq_false hx0) rfl ?_
    refine WO.op rfl rfl rfl (R.pickF rfl (decide_eq_false hx0) rfl) ?_
    refine WO.nil (WX.next ?_)
    refine WC.ff rfl (rfl) ?_
    refine WC.exit (WX.thenE (WX.thenE (WX.hit (WX.next (WC.seq (WC.region ?_))))))
    refine WO.op rfl rfl rfl (R.assign rfl) ?_
    refine WO.nil (WX.next (WC.ret ?_))
    refine WX.ret1 Try.results23 rfl ⟨_, rfl, by rw [← hh, this], hk1⟩

/-- The answer of Check. -/
theorem checkT_ok (n root : Int) (es : List (Int × Int)) (l : List Int) (ev v : Value) (D D' : Nat → Prop) (w : World) (hes : SlR 2 RPair D w ev es) (hv : SlR 1 RInt D' w v l) : Calls Try.prog 24 #[.agg #[.int .i64 n, ev], .int .i64 root, v] w (Ret fun r w' => (codeOf n es root ≠ 0 → r = .int .i64 (codeOf n es root)) ∧ (codeOf n es root = 0 → ∃ Rw order pl T, Known n.toNat root.toNat es Rw order pl T ∧ r = .int .i64 (if l = T then 0 else 2)) ∧ Ext w w') := by
  have hes' := hes
  obtain ⟨ao, cap, rfl, _⟩ := hes'
  have hv' := hv
  obtain ⟨al, cl, rfl, _⟩ := hv'
  refine calls Try.func24 rfl [(0, .agg #[.int .i64 n, .slice ao es.length cap]), (1, .int .i64 root), (2, .slice al l.length cl)] 24 ⟨Nat.le_of_ble_eq_true rfl, Try.ntmps24⟩ (argsOk (Sub.cons rfl (Sub.cons rfl (Sub.cons rfl Sub.nil)))) ?_
  refine WC.seq (WC.region ?_)
  refine WO.mem rfl rfl rfl (M.box rfl rfl) ?_
  rintro _ w1 ⟨b, rfl, hb, hs1, hB1, hk1⟩
  refine WO.op rfl rfl rfl (R.assign rfl) ?_
  refine WO.nil (WX.next (WC.seq (WC.region ?_)))
  refine WO.op rfl rfl rfl (R.loadK Try.isAgg24 Try.sizeOf24 rfl (by rfl) hB1.cells) ?_
  refine WO.op rfl rfl rfl (R.move rfl) ?_
  refine WO.call rfl rfl rfl (F.call (vs := [_, _]) Try.call12 rfl) (tree_ok n root es _ D w1 (hes.ext stable_pair hk1)) ?_
  rintro _ w2 ⟨u, rfl, hu0, hu1, hk2⟩
  have hE2 := hk1.ext hk2
  refine WO.op rfl rfl rfl (R.move rfl) ?_
  refine WO.op rfl rfl rfl (R.extract rfl rfl) ?_
  refine WO.op rfl rfl rfl (R.extract rfl rfl) ?_
  refine WO.op rfl rfl rfl (R.assign rfl) ?_
  refine WO.op rfl rfl rfl (R.assign rfl) ?_
  refine WO.nil (WX.next (WC.seq (WC.block (WC.seq (WC.region ?_)))))
  refine WO.op rfl rfl rfl (R.move rfl) ?_
  refine WO.op rfl rfl rfl (R.neq rfl rfl) ?_
  refine WO.op rfl rfl rfl (R.assign rfl) ?_
  refine WO.nil (WX.next ?_)
  refine WC.ite rfl (fun hc => ?_) (fun hc => ?_)
  ·
    refine WC.seq (WC.region ?_)
    refine WO.op rfl rfl rfl (R.move rfl) ?_
    refine WO.op rfl rfl rfl (R.assign rfl) ?_
    refine WO.nil (WX.next (WC.ret (WX.blockR (WX.thenR ?_))))
    refine WX.ret1 Try.results24 rfl ⟨_, rfl, fun _ => rfl, fun h => absurd h hc, hE2⟩
  · have hc0 : codeOf n es root = 0 := by simpa using hc
    obtain ⟨Rw, order, pl, T, hK, hT⟩ := hu1 hc0
    have hT' := hT
    obtain ⟨at', ct, rfl, _⟩ := hT'
    refine WC.seq (WC.region ?_)
    refine WO.op rfl rfl rfl (R.move rfl) ?_
    refine WO.op rfl rfl rfl (R.move rfl) ?_
    refine WO.call rfl rfl rfl (F.call (vs := [_, _]) Try.call37 rfl) (equal_ok l T _ _ _ _ w2 (hv.ext stable_int hE2) hT) ?_
    rintro _ w3 ⟨rfl, hk3⟩
    refine WO.op rfl rfl rfl (R.not rfl) ?_
    refine WO.op rfl rfl rfl (R.assign rfl) ?_
    refine WO.nil (WX.next ?_)
    refine WC.bool rfl (fun hd => ?_) (fun hd => ?_)
    · have hd' : ¬ l = T := by simpa using hd
      refine WC.seq (WC.region ?_)
      refine WO.op rfl rfl rfl (R.assign rfl) ?_
      refine WO.nil (WX.next (WC.ret (WX.blockR (WX.thenR ?_))))
      refine WX.ret1 Try.results24 rfl ⟨_, rfl, fun h => absurd hc0 h, fun _ => ⟨Rw, order, pl, T, hK, by rw [if_neg hd']⟩, hE2.ext hk3⟩
    · have hd' : l = T := by simpa using hd
      refine WC.skip (WX.blockN (WX.next (WC.seq (WC.region ?_))))
      refine WO.op rfl rfl rfl (R.assign rfl) ?_
      refine WO.nil (WX.next (WC.ret ?_))
      refine WX.ret1 Try.results24 rfl ⟨_, rfl, fun h => absurd hc0 h, fun _ => ⟨Rw, order, pl, T, hK, by rw [if_pos hd']⟩, hE2.ext hk3⟩
end Go.Proofs.Yteilalejfphkgaa
