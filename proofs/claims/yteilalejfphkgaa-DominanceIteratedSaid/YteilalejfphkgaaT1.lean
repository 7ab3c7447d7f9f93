/-
  Small functions of the dominance seat: contracts. Nothing here is a claim.
-/
import Derived.Test.YteilalejfphkgaaRep
import Derived.Test.YteilalejfphkgaaTy
import Derived.Test.YteilalejfphkgaaGr
namespace Go.Proofs.Yteilalejfphkgaa
open Go.GL

theorem filled_ok (n : Nat) (hn : n ≤ 1000000) (w : World) : Calls Try.prog 43 #[.int .i64 n] w (Ret fun v w' => ∃ b, v = .slice (some ⟨b, 0, none⟩) n n ∧ w.heap.size ≤ b ∧ Blk w' b (List.replicate n (.int .i64 (-1))) 3 ∧ Ext w w') := by
  refine calls Try.func43 rfl [(0, .int .i64 n)] 17 ⟨Nat.le_of_ble_eq_true rfl, Try.ntmps43⟩ (argsOk (Sub.cons rfl Sub.nil)) ?_
  refine WC.seq (WC.region ?_)
  refine WO.op rfl rfl rfl (R.assign rfl) ?_
  refine WO.nil (WX.next (WC.seq (WC.region ?_)))
  refine WO.op rfl rfl rfl (R.move rfl) ?_
  refine WO.mem rfl rfl rfl (M.make Try.underlying27 Try.el3 rfl rfl (by omega) (by omega) (made1 _ n rfl)) ?_
  rintro _ w1 ⟨b, rfl, hb, hsz, hB, hk⟩
  refine WO.op rfl rfl rfl (R.assign rfl) ?_
  refine WO.nil (WX.next (WC.seq (WC.seq (WC.region ?_))))
  refine WO.op rfl rfl rfl (R.move rfl) ?_
  refine WO.op rfl rfl rfl (R.lenS rfl Try.runUnderlying27 rfl) ?_
  refine WO.op rfl rfl rfl (R.move rfl) ?_
  refine WO.nil (WX.next (WC.block ?_))
  refine WC.loop (σ := Nat) (fun k => [(3, .slice (some ⟨b, 0, none⟩) n n), (8, .int .i64 n), (9, .int .i64 k)]) (fun k => fun w' => k ≤ n ∧ w'.heap.size = w1.heap.size ∧ Blk w' b (List.replicate k (.int .i64 (-1)) ++ List.replicate (n - k) (.int .i64 0)) 3 ∧ Ext w w') (fun k => n - k) (0) (Sub.cons rfl (Sub.cons rfl (Sub.cons rfl Sub.nil))) (⟨Nat.zero_le _, rfl, by simpa using hB, hk⟩) ?_
  rintro k w2 ⟨hkn, hsz2, hB2, hk2⟩
  show WC _ _ _ _ [(3, .slice (some ⟨b, 0, none⟩) n n), (8, .int .i64 n), (9, .int .i64 k)] _
  refine WC.seq (WC.region ?_)
  refine WO.op rfl rfl rfl (R.lss rfl rfl) ?_
  refine WO.nil (WX.next (WC.seq ?_))
  refine WC.ite rfl (fun hlt => ?_) (fun hge => ?_)
  ·
    refine WC.skip (WX.next (WC.seq (WC.block (WC.seq (WC.region ?_)))))
    refine WO.op rfl rfl rfl (R.move rfl) ?_
    refine WO.op rfl rfl rfl (R.assign rfl) ?_
    refine WO.nil (WX.next (WC.region ?_))
    refine WO.op rfl rfl rfl (R.move rfl) ?_
    refine WO.op rfl rfl rfl (R.move rfl) ?_
    refine WO.op rfl rfl rfl (R.indexS Try.runUnderlying27 Try.sizeOf3 rfl rfl rfl (by omega)) ?_
    refine WO.mem0 rfl rfl (M.store Try.sizeOf3 rfl rfl rfl rfl hB2 (by simp; omega)) ?_
    rintro w3 ⟨hs3, hB3, hk3⟩
    refine WO.nil (WX.blockN (WX.next (WC.region ?_)))
    refine WO.op rfl rfl rfl (R.add rfl rfl (wrap_i64_in (by omega))) ?_
    refine WO.op rfl rfl rfl (R.move rfl) ?_
    refine WO.nil ?_
    refine WX.back (k + 1) (Sub.cons rfl (Sub.cons rfl (Sub.cons rfl Sub.nil))) (⟨by omega, by omega, ?_, hk2.trans hk3 (fun q hq hb3 => by omega)⟩) ((by omega))
    have e : n - k = (n - (k + 1)) + 1 := by omega
    rw [e, List.replicate_succ] at hB3
    simpa [List.replicate_succ', List.set_append] using hB3
  ·
    refine WC.exit (WX.thenE (WX.thenE (WX.hit (WX.next (WC.seq (WC.region ?_))))))
    refine WO.op rfl rfl rfl (R.move rfl) ?_
    refine WO.op rfl rfl rfl (R.assign rfl) ?_
    refine WO.nil (WX.next (WC.ret ?_))
    refine WX.ret1 Try.results43 rfl ⟨_, rfl, b, rfl, by omega, ?_, hk2⟩
    have e : n = k := by omega
    subst e
    simpa using hB2

/-! ### digraph -/

theorem node_ok (n x : Int) (ev : Value) (w : World) : Calls Try.prog 81 #[.agg #[.int .i64 n, ev], .int .i64 x] w (Ret fun v w' => v = .bool (decide (0 ≤ x ∧ x < n)) ∧ Ext w w') := by
  refine calls Try.func81 rfl [(0, .agg #[.int .i64 n, ev]), (1, .int .i64 x)] 13 ⟨Nat.le_of_ble_eq_true rfl, Try.ntmps81⟩ (argsOk (Sub.cons rfl (Sub.cons rfl Sub.nil))) ?_
  refine WC.seq (WC.region ?_)
  refine WO.mem rfl rfl rfl (M.box rfl rfl) ?_
  rintro _ w1 ⟨b, rfl, hb, hsz, hB, hk⟩
  refine WO.op rfl rfl rfl (R.assign rfl) ?_
  refine WO.nil (WX.next (WC.seq (WC.region ?_)))
  refine WO.op rfl rfl rfl (R.move rfl) ?_
  refine WO.op rfl rfl rfl (R.geq rfl rfl) ?_
  refine WO.op rfl rfl rfl (R.move rfl) ?_
  refine WO.cases (p := 0 ≤ x) (fun h => ?_) (fun h => ?_)
  ·
    refine WO.yes rfl rfl (decide_eq_true h) ?_
    refine WO.op rfl rfl rfl (R.move rfl) ?_
    refine WO.yes rfl rfl (decide_eq_true h) ?_
    refine WO.op rfl rfl rfl (R.fieldAddr Try.runUnderlying24 rfl Try.sizeOf3 rfl) ?_
    refine WO.yes rfl rfl (decide_eq_true h) ?_
    refine WO.op rfl rfl rfl (R.load Try.isAgg3 rfl (hB.cells 0 _ rfl)) ?_
    refine WO.yes rfl rfl (decide_eq_true h) ?_
    refine WO.op rfl rfl rfl (R.lss rfl rfl) ?_
    refine WO.op rfl rfl rfl (R.pickT rfl (decide_eq_true h) rfl) ?_
    refine WO.op rfl rfl rfl (R.assign rfl) ?_
    refine WO.nil (WX.next (WC.ret ?_))
    refine WX.ret1 Try.results81 rfl ⟨_, rfl, by simp [h], hk⟩
  ·
    refine WO.no rfl rfl (decide_eq_false h) rfl ?_
    refine WO.no rfl rfl (decide_eq_false h) rfl ?_
    refine WO.no rfl rfl (decide_eq_false h) rfl ?_
    refine WO.no rfl rfl (decide_eq_false h) rfl ?_
    refine WO.op rfl rfl rfl (R.pickF rfl (decide_eq_false h) rfl) ?_
    refine WO.op rfl rfl rfl (R.assign rfl) ?_
    refine WO.nil (WX.next (WC.ret ?_))
    refine WX.ret1 Try.results81 rfl ⟨_, rfl, by simp [h], hk⟩

theorem check_ok (n : Int) (es : List (Int × Int)) (ev : Value) (D : Nat → Prop) (w : World) (hes : SlR 2 RPair D w ev es) : Calls Try.prog 55 #[.agg #[.int .i64 n, ev]] w (Ret fun v w' => v = .int .i64 (Gr.check n es) ∧ Ext w w') := by
  obtain ⟨ao, cap, rfl, hlc, hcm, hel⟩ := hes
  refine calls Try.func55 rfl [(0, .agg #[.int .i64 n, .slice ao es.length cap])] 37 ⟨Nat.le_of_ble_eq_true rfl, Try.ntmps55⟩ (argsOk (Sub.cons rfl Sub.nil)) ?_
  refine WC.seq (WC.region ?_)
  refine WO.mem rfl rfl rfl (M.box rfl rfl) ?_
  rintro _ w1 ⟨b, rfl, hb, hsz, hB, hk⟩
  refine WO.op rfl rfl rfl (R.assign rfl) ?_
  refine WO.nil (WX.next (WC.seq (WC.seq (WC.region ?_))))
  refine WO.op rfl rfl rfl (R.fieldAddr Try.runUnderlying24 rfl Try.sizeOf3 rfl) ?_
  refine WO.op rfl rfl rfl (R.load Try.isAgg3 rfl (hB.cells 0 _ rfl)) ?_
  refine WO.op rfl rfl rfl (R.lss rfl rfl) ?_
  refine WO.nil (WX.next ?_)
  refine WC.ite rfl (fun hn => ?_) (fun hn => ?_)
  ·
    refine WC.seq (WC.region ?_)
    refine WO.op rfl rfl rfl (R.assign rfl) ?_
    refine WO.nil (WX.next (WC.ret (WX.thenR ?_)))
    refine WX.ret1 Try.results55 rfl ⟨_, rfl, by simp [Gr.check, hn], hk⟩
  ·
    refine WC.skip (WX.next (WC.seq (WC.seq (WC.region ?_))))
    refine WO.op rfl rfl rfl (R.fieldAddr Try.runUnderlying24 rfl Try.sizeOf3 rfl) ?_
    refine WO.op rfl rfl rfl (R.load Try.isAgg3 rfl (hB.cells 0 _ rfl)) ?_
    refine WO.op rfl rfl rfl (R.gtr rfl rfl) ?_
    refine WO.op rfl rfl rfl (R.move rfl) ?_
    refine WO.cases (p := 4096 < n) (fun h1 => ?_) (fun h1 => ?_)
    ·
      refine WO.no rfl rfl (decide_eq_true h1) rfl ?_
      refine WO.no rfl rfl (decide_eq_true h1) rfl ?_
      refine WO.no rfl rfl (decide_eq_true h1) rfl ?_
      refine WO.no rfl rfl (decide_eq_true h1) rfl ?_
      refine WO.op rfl rfl rfl (R.pickT rfl (decide_eq_true h1) rfl) ?_
      refine WO.nil (WX.next ?_)
      refine WC.tt rfl (rfl) ?_
      refine WC.seq (WC.region ?_)
      refine WO.op rfl rfl rfl (R.assign rfl) ?_
      refine WO.nil (WX.next (WC.ret (WX.thenR ?_)))
      refine WX.ret1 Try.results55 rfl ⟨_, rfl, by simp [Gr.check, hn, h1], hk⟩
    ·
      refine WO.yes rfl rfl (decide_eq_false h1) ?_
      refine WO.op rfl rfl rfl (R.fieldAddr Try.runUnderlying24 rfl Try.sizeOf22 rfl) ?_
      refine WO.yes rfl rfl (decide_eq_false h1) ?_
      refine WO.op rfl rfl rfl (R.load Try.isAgg22 rfl (hB.cells 1 _ rfl)) ?_
      refine WO.yes rfl rfl (decide_eq_false h1) ?_
      refine WO.op rfl rfl rfl (R.lenS rfl Try.runUnderlying22 rfl) ?_
      refine WO.yes rfl rfl (decide_eq_false h1) ?_
      refine WO.op rfl rfl rfl (R.gtr rfl rfl) ?_
      refine WO.op rfl rfl rfl (R.pickF rfl (decide_eq_false h1) rfl) ?_
      refine WO.nil (WX.next ?_)
      refine WC.ite rfl (fun h2 => ?_) (fun h2 => ?_)
      ·
        refine WC.seq (WC.region ?_)
        refine WO.op rfl rfl rfl (R.assign rfl) ?_
        refine WO.nil (WX.next (WC.ret (WX.thenR ?_)))
        have h2' : 1048576 < es.length := by omega
        refine WX.ret1 Try.results55 rfl ⟨_, rfl, by simp [Gr.check, hn, h2'], hk⟩
      ·
        refine WC.skip (WX.next (WC.seq (WC.seq (WC.region ?_))))
        refine WO.op rfl rfl rfl (R.fieldAddr Try.runUnderlying24 rfl Try.sizeOf22 rfl) ?_
        refine WO.op rfl rfl rfl (R.load Try.isAgg22 rfl (hB.cells 1 _ rfl)) ?_
        refine WO.op rfl rfl rfl (R.lenS rfl Try.runUnderlying22 rfl) ?_
        refine WO.op rfl rfl rfl (R.move rfl) ?_
        refine WO.nil (WX.next (WC.block ?_))
        refine WC.loop (σ := Nat) (fun k => [(1, .pointer (some ⟨b, 0, none⟩)), (18, .slice ao es.length cap), (19, .int .i64 es.length), (20, .int .i64 k)]) (fun k => fun w' => k ≤ es.length ∧ (es.take k).all (Gr.okE n) = true ∧ Ext w1 w') (fun k => es.length - k) (0) (Sub.cons rfl (Sub.cons rfl (Sub.cons rfl (Sub.cons rfl Sub.nil)))) (⟨Nat.zero_le _, rfl, Keep.refl _ _⟩) ?_
        rintro k w2 ⟨hkn, hall, hk2⟩
        show WC _ _ _ _ [(1, .pointer (some ⟨b, 0, none⟩)), (18, .slice ao es.length cap), (19, .int .i64 es.length), (20, .int .i64 k)] _
        have hB2 := hk2.blk hB (fun h => h)
        refine WC.seq (WC.region ?_)
        refine WO.op rfl rfl rfl (R.lss rfl rfl) ?_
        refine WO.nil (WX.next (WC.seq ?_))
        refine WC.ite rfl (fun hlt => ?_) (fun hge => ?_)
        ·
          refine WC.skip (WX.next (WC.seq (WC.block (WC.seq (WC.region ?_)))))
          obtain ⟨e, he⟩ : ∃ e, es[k]? = some e := ⟨_, List.getElem?_eq_getElem (by omega)⟩
          obtain ⟨be, oe, ce, hao, _, hcl, hcs, rfl⟩ := hel k e he
          refine WO.op rfl rfl rfl (R.indexS Try.runUnderlying22 Try.sizeOf49 rfl rfl hao (by omega)) ?_
          refine WO.op rfl rfl rfl (R.loadK Try.isAgg49 Try.sizeOf49 rfl (by rfl) ((hk.ext hk2).cells hcs (fun h => h))) ?_
          refine WO.mem rfl rfl rfl (M.alloc (cs := _) Try.zeroValue49 rfl) ?_
          rintro _ w3 ⟨b4, rfl, hb4, hsz3, hB3, hk3⟩
          refine WO.mem0 rfl rfl (M.storeK Try.sizeOf49 rfl rfl rfl rfl (by simp [Value.oneCell']) hB3 (by simp)) ?_
          rintro w4 ⟨hs4, hB4, hk4⟩
          have hE4 : Ext w1 w4 := (hk2.ext hk3).trans hk4 (fun q hq h => by have := Blk.lt hB2; have := hk2.size; omega)
          have hB5 := hE4.blk hB (fun h => h)
          refine WO.nil (WX.next (WC.seq (WC.region ?_)))
          refine WO.op rfl rfl rfl (R.loadK Try.isAgg24 Try.sizeOf24 rfl (by rfl) hB5.cells) ?_
          refine WO.op rfl rfl rfl (R.indexA Try.runUnderlying49 Try.sizeOf3 rfl rfl (by omega)) ?_
          refine WO.op rfl rfl rfl (R.load Try.isAgg3 rfl (hB4.cells 0 _ rfl)) ?_
          refine WO.call rfl rfl rfl (F.call (vs := [_, _]) Try.call81 rfl) (node_ok _ _ _ _) ?_
          rintro _ w5 ⟨rfl, hk5⟩
          have hE5 := hE4.ext hk5
          refine WO.op rfl rfl rfl (R.notD rfl) ?_
          refine WO.op rfl rfl rfl (R.move rfl) ?_
          refine WO.cases (p := ¬ (0 ≤ e.1 ∧ e.1 < n)) (fun h3 => ?_) (fun h3 => ?_)
          ·
            refine WO.no rfl rfl (decide_eq_true h3) rfl ?_
            refine WO.no rfl rfl (decide_eq_true h3) rfl ?_
            refine WO.no rfl rfl (decide_eq_true h3) rfl ?_
            refine WO.no rfl rfl (decide_eq_true h3) rfl ?_
            refine WO.no rfl rfl (decide_eq_true h3) rfl ?_
            refine WO.op rfl rfl rfl (R.pickT rfl (decide_eq_true h3) rfl) ?_
            refine WO.nil (WX.next ?_)
            refine WC.tt rfl (rfl) ?_
            refine WC.seq (WC.region ?_)
            refine WO.op rfl rfl rfl (R.assign rfl) ?_
            refine WO.nil (WX.next (WC.ret (WX.blockR (WX.thenR (WX.thenR (WX.blockR (WX.thenR ?_)))))))
            refine WX.ret1 Try.results55 rfl ⟨_, rfl, ?_, hk.ext hE5⟩
            have : es.all (Gr.okE n) = false := Gr.all_false he (by simp [Gr.okE] at *; omega)
            simp [Gr.check, hn, h1, this]; omega
          ·
            refine WO.yes rfl rfl (decide_eq_false h3) ?_
            refine WO.op rfl rfl rfl (R.loadK Try.isAgg24 Try.sizeOf24 rfl (by rfl) (hE5.blk hB (fun h => h)).cells) ?_
            refine WO.yes rfl rfl (decide_eq_false h3) ?_
            refine WO.op rfl rfl rfl (R.indexA Try.runUnderlying49 Try.sizeOf3 rfl rfl (by omega)) ?_
            refine WO.yes rfl rfl (decide_eq_false h3) ?_
            refine WO.op rfl rfl rfl (R.load Try.isAgg3 rfl ((hk5.blk hB4 (fun h => h)).cells 1 _ rfl)) ?_
            refine WO.yes rfl rfl (decide_eq_false h3) ?_
            refine WO.call rfl rfl rfl (F.call (vs := [_, _]) Try.call81 rfl) (node_ok _ _ _ _) ?_
            rintro _ w6 ⟨rfl, hk6⟩
            refine WO.yes rfl rfl (decide_eq_false h3) ?_
            refine WO.op rfl rfl rfl (R.notD rfl) ?_
            refine WO.op rfl rfl rfl (R.pickF rfl (decide_eq_false h3) rfl) ?_
            refine WO.nil (WX.next ?_)
            refine WC.ite rfl (fun h4 => ?_) (fun h4 => ?_)
            ·
              refine WC.seq (WC.region ?_)
              refine WO.op rfl rfl rfl (R.assign rfl) ?_
              refine WO.nil (WX.next (WC.ret (WX.blockR (WX.thenR (WX.thenR (WX.blockR (WX.thenR ?_)))))))
              refine WX.ret1 Try.results55 rfl ⟨_, rfl, ?_, hk.ext (hE5.ext hk6)⟩
              have : es.all (Gr.okE n) = false := Gr.all_false he (by simp [Gr.okE] at *; omega)
              simp [Gr.check, hn, h1, this]; omega
            ·
              refine WC.skip (WX.blockN (WX.next (WC.region ?_)))
              refine WO.op rfl rfl rfl (R.add rfl rfl (wrap_i64_in (by omega))) ?_
              refine WO.op rfl rfl rfl (R.move rfl) ?_
              refine WO.nil ?_
              refine WX.back (k + 1) (Sub.cons rfl (Sub.cons rfl (Sub.cons rfl (Sub.cons rfl Sub.nil)))) (⟨by omega, ?_, hE5.ext hk6⟩) ((by omega))
              exact Gr.all_take_succ he hall (by simp [Gr.okE] at *; omega)
        ·
          refine WC.exit (WX.thenE (WX.thenE (WX.hit (WX.next (WC.seq (WC.region ?_))))))
          refine WO.op rfl rfl rfl (R.assign rfl) ?_
          refine WO.nil (WX.next (WC.ret ?_))
          refine WX.ret1 Try.results55 rfl ⟨_, rfl, ?_, hk.ext hk2⟩
          have : k = es.length := by omega
          subst this
          rw [List.take_length] at hall
          simp [Gr.check, hn, h1, hall]; omega

theorem compare_ok (a b : Int × Int) (w : World) (ha : -4611686018427387904 ≤ a.1 ∧ a.1 ≤ 4611686018427387903 ∧ -4611686018427387904 ≤ a.2 ∧ a.2 ≤ 4611686018427387903) (hb : -4611686018427387904 ≤ b.1 ∧ b.1 ≤ 4611686018427387903 ∧ -4611686018427387904 ≤ b.2 ∧ b.2 ≤ 4611686018427387903) :
    Calls Try.prog 83 #[.agg #[.int .i64 a.1, .int .i64 a.2], .agg #[.int .i64 b.1, .int .i64 b.2]] w (Ret fun v w' => v = .int .i64 (if a.1 ≠ b.1 then a.1 - b.1 else a.2 - b.2) ∧ Ext w w') := by
  refine calls Try.func83 rfl [(0, .agg #[.int .i64 a.1, .int .i64 a.2]), (1, .agg #[.int .i64 b.1, .int .i64 b.2])] 20 ⟨Nat.le_of_ble_eq_true rfl, Try.ntmps83⟩ (argsOk (Sub.cons rfl (Sub.cons rfl Sub.nil))) ?_
  refine WC.seq (WC.region ?_)
  refine WO.mem rfl rfl rfl (M.box rfl rfl) ?_
  rintro _ w1 ⟨p, rfl, hp, hsz, hP, hk⟩
  refine WO.mem rfl rfl rfl (M.box rfl rfl) ?_
  rintro _ w2 ⟨q, rfl, hq, hsz2, hQ, hk2⟩
  have hP2 := hk2.blk hP (fun h => h)
  refine WO.op rfl rfl rfl (R.assign rfl) ?_
  refine WO.nil (WX.next (WC.seq (WC.seq (WC.region ?_))))
  refine WO.op rfl rfl rfl (R.indexA Try.runUnderlying49 Try.sizeOf3 rfl rfl (by omega)) ?_
  refine WO.op rfl rfl rfl (R.load Try.isAgg3 rfl (hP2.cells 0 _ rfl)) ?_
  refine WO.op rfl rfl rfl (R.indexA Try.runUnderlying49 Try.sizeOf3 rfl rfl (by omega)) ?_
  refine WO.op rfl rfl rfl (R.load Try.isAgg3 rfl (hQ.cells 0 _ rfl)) ?_
  refine WO.op rfl rfl rfl (R.neq rfl rfl) ?_
  refine WO.nil (WX.next ?_)
  refine WC.ite rfl (fun h => ?_) (fun h => ?_)
  ·
    refine WC.seq (WC.region ?_)
    refine WO.op rfl rfl rfl (R.indexA Try.runUnderlying49 Try.sizeOf3 rfl rfl (by omega)) ?_
    refine WO.op rfl rfl rfl (R.load Try.isAgg3 rfl (hP2.cells 0 _ rfl)) ?_
    refine WO.op rfl rfl rfl (R.indexA Try.runUnderlying49 Try.sizeOf3 rfl rfl (by omega)) ?_
    refine WO.op rfl rfl rfl (R.load Try.isAgg3 rfl (hQ.cells 0 _ rfl)) ?_
    refine WO.op rfl rfl rfl (R.sub rfl rfl (wrap_i64_in (by omega))) ?_
    refine WO.op rfl rfl rfl (R.assign rfl) ?_
    refine WO.nil (WX.next (WC.ret (WX.thenR ?_)))
    refine WX.ret1 Try.results83 rfl ⟨_, rfl, by rw [if_pos h], hk.ext hk2⟩
  ·
    refine WC.skip (WX.next (WC.seq (WC.region ?_)))
    refine WO.op rfl rfl rfl (R.indexA Try.runUnderlying49 Try.sizeOf3 rfl rfl (by omega)) ?_
    refine WO.op rfl rfl rfl (R.load Try.isAgg3 rfl (hP2.cells 1 _ rfl)) ?_
    refine WO.op rfl rfl rfl (R.indexA Try.runUnderlying49 Try.sizeOf3 rfl rfl (by omega)) ?_
    refine WO.op rfl rfl rfl (R.load Try.isAgg3 rfl (hQ.cells 1 _ rfl)) ?_
    refine WO.op rfl rfl rfl (R.sub rfl rfl (wrap_i64_in (by omega))) ?_
    refine WO.op rfl rfl rfl (R.assign rfl) ?_
    refine WO.nil (WX.next (WC.ret ?_))
    refine WX.ret1 Try.results83 rfl ⟨_, rfl, by rw [if_neg h], hk.ext hk2⟩
end Go.Proofs.Yteilalejfphkgaa
