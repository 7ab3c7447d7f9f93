/-
  The reference: isNode, Check; the law's code and few. Contracts; nothing here is a claim.
-/
import Derived.Test.YteilalejfphkgaaT14
import Derived.Test.YteilalejfphkgaaDraw3
namespace Go.Proofs.Yteilalejfphkgaa
open Go.GL Go.GL.Dom Go.GL.Dfs

theorem isNode_ok (n x : Int) (es : List (Int × Int)) (ev : Value) (D : Nat → Prop) (w : World) (hes : SlR 2 RPair D w ev es) : Calls Try.prog 46 #[.agg #[.int .i64 n, ev], .int .i64 x] w (Ret fun r w' => r = .bool (decide (0 ≤ x ∧ x < n)) ∧ Ext w w') := by
  obtain ⟨ao, cap, rfl, _⟩ := hes
  refine calls Try.func46 rfl [(0, .agg #[.int .i64 n, .slice ao es.length cap]), (1, .int .i64 x)] 13 ⟨Nat.le_of_ble_eq_true rfl, Try.ntmps46⟩ (argsOk (Sub.cons rfl (Sub.cons rfl Sub.nil))) ?_
  refine WC.seq (WC.region ?_)
  refine WO.mem rfl rfl rfl (M.box rfl rfl) ?_
  rintro _ w1 ⟨b, rfl, hb, hs1, hB1, hk1⟩
  refine WO.op rfl rfl rfl (R.assign rfl) ?_
  refine WO.nil (WX.next (WC.seq (WC.region ?_)))
  refine WO.op rfl rfl rfl (R.move rfl) ?_
  refine WO.op rfl rfl rfl (R.geq rfl rfl) ?_
  refine WO.op rfl rfl rfl (R.move rfl) ?_
  refine WO.cases (p := 0 ≤ x) (fun h => ?_) (fun h => ?_)
  ·
    refine WO.yes rfl rfl (decide_eq_true h) ?_
    refine WO.op rfl rfl rfl (R.move rfl) ?_
    refine WO.yes rfl rfl (decide_eq_true h) ?_
    refine WO.op rfl rfl rfl (R.fieldAddr Try.runUnderlying24 rfl Try.sizeOf3 rfl) ?_
    refine WO.yes rfl rfl (decide_eq_true h) ?_
    refine WO.op rfl rfl rfl (R.load Try.isAgg3 rfl (hB1.cells 0 _ rfl)) ?_
    refine WO.yes rfl rfl (decide_eq_true h) ?_
    refine WO.op rfl rfl rfl (R.lss rfl rfl) ?_
    refine WO.op rfl rfl rfl (R.pickT rfl (decide_eq_true h) rfl) ?_
    refine WO.op rfl rfl rfl (R.assign rfl) ?_
    refine WO.nil (WX.next (WC.ret ?_))
    refine WX.ret1 Try.results46 rfl ⟨_, rfl, by simp [h], hk1⟩
  ·
    refine WO.no rfl rfl (decide_eq_false h) rfl ?_
    refine WO.no rfl rfl (decide_eq_false h) rfl ?_
    refine WO.no rfl rfl (decide_eq_false h) rfl ?_
    refine WO.no rfl rfl (decide_eq_false h) rfl ?_
    refine WO.op rfl rfl rfl (R.pickF rfl (decide_eq_false h) rfl) ?_
    refine WO.op rfl rfl rfl (R.assign rfl) ?_
    refine WO.nil (WX.next (WC.ret ?_))
    refine WX.ret1 Try.results46 rfl ⟨_, rfl, by simp [h], hk1⟩

theorem refCheck_ok (n : Int) (es : List (Int × Int)) (ev : Value) (D : Nat → Prop) (w : World) (hes : SlR 2 RPair D w ev es) : Calls Try.prog 29 #[.agg #[.int .i64 n, ev]] w (Ret fun v w' => v = .int .i64 (Gr.check n es) ∧ Ext w w') := by
  have hes' := hes
  obtain ⟨ao, cap, rfl, hlc, hcm, hel⟩ := hes'
  refine calls Try.func29 rfl [(0, .agg #[.int .i64 n, .slice ao es.length cap])] 43 ⟨Nat.le_of_ble_eq_true rfl, Try.ntmps29⟩ (argsOk (Sub.cons rfl Sub.nil)) ?_
  refine WC.seq (WC.region ?_)
  refine WO.mem rfl rfl rfl (M.box rfl rfl) ?_
  rintro _ w1 ⟨b, rfl, hb, hs1, hB, hk⟩
  refine WO.op rfl rfl rfl (R.assign rfl) ?_
  refine WO.nil (WX.next (WC.seq (WC.seq (WC.region ?_))))
  refine WO.op rfl rfl rfl (R.fieldAddr Try.runUnderlying24 rfl Try.sizeOf3 rfl) ?_
  refine WO.op rfl rfl rfl (R.load Try.isAgg3 rfl (hB.cells 0 _ rfl)) ?_
  refine WO.op rfl rfl rfl (R.lss rfl rfl) ?_
  refine WO.nil (WX.next ?_)
  refine WC.ite rfl (fun hn => ?_) (fun hn => ?_)
  ·
    refine WC.seq (WC.region ?_)
    refine WO.op rfl rfl rfl (R.assign rfl) ?_
    refine WO.nil (WX.next (WC.ret (WX.thenR ?_)))
    refine WX.ret1 Try.results29 rfl ⟨_, rfl, by simp [Gr.check, hn], hk⟩
  ·
    refine WC.skip (WX.next (WC.seq (WC.seq (WC.region ?_))))
    refine WO.op rfl rfl rfl (R.fieldAddr Try.runUnderlying24 rfl Try.sizeOf3 rfl) ?_
    refine WO.op rfl rfl rfl (R.load Try.isAgg3 rfl (hB.cells 0 _ rfl)) ?_
    refine WO.op rfl rfl rfl (R.gtr rfl rfl) ?_
    refine WO.op rfl rfl rfl (R.move rfl) ?_
    refine WO.cases (p := 4096 < n) (fun h1 => ?_) (fun h1 => ?_)
    ·
      refine WO.no rfl rfl (decide_eq_true h1) rfl ?_
      refine WO.no rfl rfl (decide_eq_true h1) rfl ?_
      refine WO.no rfl rfl (decide_eq_true h1) rfl ?_
      refine WO.no rfl rfl (decide_eq_true h1) rfl ?_
      refine WO.op rfl rfl rfl (R.pickT rfl (decide_eq_true h1) rfl) ?_
      refine WO.nil (WX.next ?_)
      refine WC.tt rfl (rfl) ?_
      refine WC.seq (WC.region ?_)
      refine WO.op rfl rfl rfl (R.assign rfl) ?_
      refine WO.nil (WX.next (WC.ret (WX.thenR ?_)))
      refine WX.ret1 Try.results29 rfl ⟨_, rfl, by simp [Gr.check, hn, h1], hk⟩
    ·
      refine WO.yes rfl rfl (decide_eq_false h1) ?_
      refine WO.op rfl rfl rfl (R.fieldAddr Try.runUnderlying24 rfl Try.sizeOf22 rfl) ?_
      refine WO.yes rfl rfl (decide_eq_false h1) ?_
      refine WO.op rfl rfl rfl (R.load Try.isAgg22 rfl (hB.cells 1 _ rfl)) ?_
      refine WO.yes rfl rfl (decide_eq_false h1) ?_
      refine WO.op rfl rfl rfl (R.lenS rfl Try.runUnderlying22 rfl) ?_
      refine WO.yes rfl rfl (decide_eq_false h1) ?_
      refine WO.op rfl rfl rfl (R.gtr rfl rfl) ?_
      refine WO.op rfl rfl rfl (R.pickF rfl (decide_eq_false h1) rfl) ?_
      refine WO.nil (WX.next ?_)
      refine WC.ite rfl (fun h2 => ?_) (fun h2 => ?_)
      ·
        refine WC.seq (WC.region ?_)
        refine WO.op rfl rfl rfl (R.assign rfl) ?_
        refine WO.nil (WX.next (WC.ret (WX.thenR ?_)))
        have h2' : 1048576 < es.length := by omega
        refine WX.ret1 Try.results29 rfl ⟨_, rfl, by simp [Gr.check, hn, h2'], hk⟩
      ·
        refine WC.skip (WX.next (WC.seq (WC.seq (WC.region ?_))))
        refine WO.op rfl rfl rfl (R.assign rfl) ?_
        refine WO.nil (WX.next (WC.block ?_))
        refine WC.loop (σ := Nat) (fun k => [(1, .pointer (some ⟨b, 0, none⟩)), (3, .int .i64 k)]) (fun k => fun w' => k ≤ es.length ∧ (es.take k).all (Gr.okE n) = true ∧ Ext w1 w') (fun k => es.length - k) (0) (Sub.cons rfl (Sub.cons rfl Sub.nil)) (⟨Nat.zero_le _, rfl, Keep.refl _ _⟩) ?_
        rintro k w2 ⟨hkn, hall, hk2⟩
        show WC _ _ _ _ [(1, .pointer (some ⟨b, 0, none⟩)), (3, .int .i64 k)] _
        have hB2 := hk2.blk hB (fun h => h)
        refine WC.seq (WC.seq (WC.region ?_))
        refine WO.op rfl rfl rfl (R.move rfl) ?_
        refine WO.op rfl rfl rfl (R.fieldAddr Try.runUnderlying24 rfl Try.sizeOf22 rfl) ?_
        refine WO.op rfl rfl rfl (R.load Try.isAgg22 rfl (hB2.cells 1 _ rfl)) ?_
        refine WO.op rfl rfl rfl (R.lenS rfl Try.runUnderlying22 rfl) ?_
        refine WO.op rfl rfl rfl (R.lss rfl rfl) ?_
        refine WO.nil (WX.next ?_)
        refine WC.ite rfl (fun hlt => ?_) (fun hge => ?_)
        · obtain ⟨e, he⟩ : ∃ e, es[k]? = some e := ⟨_, List.getElem?_eq_getElem (by omega)⟩
          obtain ⟨be, oe, ce, hao, _, hcl, hcs, rfl⟩ := hel k e he
          have hcs2 := (hk.ext hk2).cells hcs (fun h => h)
          refine WC.skip (WX.next (WC.seq (WC.block (WC.seq ?_))))
          refine WC.draw (fun w' => Ext w2 w') [] (by kernel_rfl) (fun w3 hE3 hh3 => ?_)
          refine WD.take 0 rfl (by kernel_rfl) rfl rfl rfl hE3 (fun w1 hw1 => R.loadK Try.isAgg24 Try.sizeOf24 rfl (by rfl) (hw1.cells hB2.cells (fun h => h))) ?_
          refine WD.takeW 1 rfl (by kernel_rfl) rfl rfl rfl (fun w1 => R.fieldAddr Try.runUnderlying24 rfl Try.sizeOf22 rfl) ?_
          refine WD.take 2 rfl (by kernel_rfl) rfl rfl rfl hE3 (fun w1 hw1 => R.load Try.isAgg22 rfl (hw1.cell (hB2.cells 1 _ rfl) (fun h => h))) ?_
          refine WD.takeW 3 rfl (by kernel_rfl) rfl rfl rfl (fun w1 => R.move rfl) ?_
          refine WD.takeW 4 rfl (by kernel_rfl) rfl rfl rfl (fun w1 => R.indexS Try.runUnderlying22 Try.sizeOf49 rfl rfl hao (by omega)) ?_
          refine WD.takeW 5 rfl (by kernel_rfl) rfl rfl rfl (fun w1 => R.indexA Try.runUnderlying49 Try.sizeOf3 rfl rfl (by omega)) ?_
          refine WD.take 6 rfl (by kernel_rfl) rfl rfl rfl hE3 (fun w1 hw1 => R.load Try.isAgg3 rfl (hw1.cell (hcs2 0 _ rfl) (fun h => h))) ?_
          refine WD.call 7 rfl (by kernel_rfl) rfl rfl rfl (F.call (vs := [_, _]) Try.call46 rfl) (isNode_ok n e.1 es _ D w3 (hes.ext stable_pair ((hk.ext hk2).ext hE3))) ?_
          rintro _ w4 ⟨rfl, hk4⟩
          refine ⟨fun _ => hE3.ext hk4, ?_⟩
          refine WD.takeW 8 rfl (by kernel_rfl) rfl rfl rfl (fun w1 => R.notD rfl) ?_
          refine WD.takeW 9 rfl (by kernel_rfl) rfl rfl rfl (fun w1 => R.move rfl) ?_
          refine WD.cases (p := ¬ (0 ≤ e.1 ∧ e.1 < n)) (fun h3 => ?_) (fun h3 => ?_)
          ·
            refine WD.takeG (v := undef) 10 rfl (by kernel_rfl) rfl rfl (hE3.ext hk4) (.inr ⟨fun a ha => wanted_no ha rfl rfl rfl (decide_eq_true h3), rfl⟩) ?_
            refine WD.takeG (v := undef) 11 rfl (by kernel_rfl) rfl rfl (hE3.ext hk4) (.inr ⟨fun a ha => wanted_no ha rfl rfl rfl (decide_eq_true h3), rfl⟩) ?_
            refine WD.takeG (v := undef) 12 rfl (by kernel_rfl) rfl rfl (hE3.ext hk4) (.inr ⟨fun a ha => wanted_no ha rfl rfl rfl (decide_eq_true h3), rfl⟩) ?_
            refine WD.takeG (v := undef) 13 rfl (by kernel_rfl) rfl rfl (hE3.ext hk4) (.inr ⟨fun a ha => wanted_no ha rfl rfl rfl (decide_eq_true h3), rfl⟩) ?_
            refine WD.takeG (v := undef) 14 rfl (by kernel_rfl) rfl rfl (hE3.ext hk4) (.inr ⟨fun a ha => wanted_no ha rfl rfl rfl (decide_eq_true h3), rfl⟩) ?_
            refine WD.takeG (v := undef) 15 rfl (by kernel_rfl) rfl rfl (hE3.ext hk4) (.inr ⟨fun a ha => wanted_no ha rfl rfl rfl (decide_eq_true h3), rfl⟩) ?_
            refine WD.takeG (v := undef) 16 rfl (by kernel_rfl) rfl rfl (hE3.ext hk4) (.inr ⟨fun a ha => wanted_no ha rfl rfl rfl (decide_eq_true h3), rfl⟩) ?_
            refine WD.skip 17 rfl (by kernel_rfl) (fun a ha => wanted_no ha rfl rfl rfl (decide_eq_true h3)) rfl rfl (hE3.ext hk4) ?_
            refine WD.takeG (v := undef) 18 rfl (by kernel_rfl) rfl rfl (hE3.ext hk4) (.inr ⟨fun a ha => wanted_no ha rfl rfl rfl (decide_eq_true h3), rfl⟩) ?_
            refine WD.takeW 19 rfl (by kernel_rfl) rfl rfl rfl (fun w1 => R.pickT rfl (decide_eq_true h3) rfl) ?_
            refine WD.done (by kernel_rfl) ?_ _
            refine WX.next ?_
            refine WC.tt rfl (rfl) ?_
            refine WC.seq (WC.region ?_)
            refine WO.op rfl rfl rfl (R.assign rfl) ?_
            refine WO.nil (WX.next (WC.ret (WX.blockR (WX.thenR (WX.thenR (WX.blockR (WX.thenR ?_)))))))
            have hbad : es.all (Gr.okE n) = false := Gr.all_false he (by simp [Gr.okE]; omega)
            refine WX.ret1 Try.results29 rfl ⟨_, rfl, by simp [Gr.check, hn, h1, show ¬ 1048576 < es.length by omega, hbad], ((hk.ext hk2).ext hE3).ext hk4⟩
          ·
            refine WD.takeG 10 rfl (by kernel_rfl) rfl rfl (hE3.ext hk4) (.inl ⟨fun a ha => wanted_yes ha rfl rfl rfl (decide_eq_false h3), fun w1 hw1 => R.loadK Try.isAgg24 Try.sizeOf24 rfl (by rfl) (hw1.cells hB2.cells (fun h => h))⟩) ?_
            refine WD.takeG 11 rfl (by kernel_rfl) rfl rfl (hE3.ext hk4) (.inl ⟨fun a ha => wanted_yes ha rfl rfl rfl (decide_eq_false h3), fun w1 hw1 => R.fieldAddr Try.runUnderlying24 rfl Try.sizeOf22 rfl⟩) ?_
            refine WD.takeG 12 rfl (by kernel_rfl) rfl rfl (hE3.ext hk4) (.inl ⟨fun a ha => wanted_yes ha rfl rfl rfl (decide_eq_false h3), fun w1 hw1 => R.load Try.isAgg22 rfl (hw1.cell (hB2.cells 1 _ rfl) (fun h => h))⟩) ?_
            refine WD.takeG 13 rfl (by kernel_rfl) rfl rfl (hE3.ext hk4) (.inl ⟨fun a ha => wanted_yes ha rfl rfl rfl (decide_eq_false h3), fun w1 hw1 => R.move rfl⟩) ?_
            refine WD.takeG 14 rfl (by kernel_rfl) rfl rfl (hE3.ext hk4) (.inl ⟨fun a ha => wanted_yes ha rfl rfl rfl (decide_eq_false h3), fun w1 hw1 => R.indexS Try.runUnderlying22 Try.sizeOf49 rfl rfl hao (by omega)⟩) ?_
            refine WD.takeG 15 rfl (by kernel_rfl) rfl rfl (hE3.ext hk4) (.inl ⟨fun a ha => wanted_yes ha rfl rfl rfl (decide_eq_false h3), fun w1 hw1 => R.indexA Try.runUnderlying49 Try.sizeOf3 rfl rfl (by omega)⟩) ?_
            refine WD.takeG 16 rfl (by kernel_rfl) rfl rfl (hE3.ext hk4) (.inl ⟨fun a ha => wanted_yes ha rfl rfl rfl (decide_eq_false h3), fun w1 hw1 => R.load Try.isAgg3 rfl (hw1.cell (hcs2 1 _ rfl) (fun h => h))⟩) ?_
            refine WD.callG 17 rfl (by kernel_rfl) (fun a ha => wanted_yes ha rfl rfl rfl (decide_eq_false h3)) rfl rfl (F.call (vs := [_, _]) Try.call46 rfl) (isNode_ok n e.2 es _ D w4 (hes.ext stable_pair (((hk.ext hk2).ext hE3).ext hk4))) ?_
            rintro _ w5 ⟨rfl, hk5⟩
            refine ⟨fun _ => (hE3.ext hk4).ext hk5, ?_⟩
            refine WD.takeG 18 rfl (by kernel_rfl) rfl rfl ((hE3.ext hk4).ext hk5) (.inl ⟨fun a ha => wanted_yes ha rfl rfl rfl (decide_eq_false h3), fun w1 hw1 => R.notD rfl⟩) ?_
            refine WD.takeW 19 rfl (by kernel_rfl) rfl rfl rfl (fun w1 => R.pickF rfl (decide_eq_false h3) rfl) ?_
            refine WD.done (by kernel_rfl) ?_ _
            refine WX.next ?_
            refine WC.ite rfl (fun h4 => ?_) (fun h4 => ?_)
            ·
              refine WC.seq (WC.region ?_)
              refine WO.op rfl rfl rfl (R.assign rfl) ?_
              refine WO.nil (WX.next (WC.ret (WX.blockR (WX.thenR (WX.thenR (WX.blockR (WX.thenR ?_)))))))
              have hbad : es.all (Gr.okE n) = false := Gr.all_false he (by simp [Gr.okE]; omega)
              refine WX.ret1 Try.results29 rfl ⟨_, rfl, by simp [Gr.check, hn, h1, show ¬ 1048576 < es.length by omega, hbad], (((hk.ext hk2).ext hE3).ext hk4).ext hk5⟩
            ·
              refine WC.skip (WX.blockN (WX.next (WC.region ?_)))
              refine WO.op rfl rfl rfl (R.move rfl) ?_
              refine WO.op rfl rfl rfl (R.add rfl rfl (wrap_i64_in (by omega))) ?_
              refine WO.op rfl rfl rfl (R.assign rfl) ?_
              refine WO.nil ?_
              refine WX.back (k + 1) (Sub.cons rfl (Sub.cons rfl Sub.nil)) (⟨by omega, Gr.all_take_succ he hall (by simp [Gr.okE]; omega), ((hk2.ext hE3).ext hk4).ext hk5⟩) (by first | omega | (dsimp only; omega))
        · have : k = es.length := by omega
          subst this
          rw [List.take_length] at hall
          refine WC.exit (WX.thenE (WX.thenE (WX.hit (WX.next (WC.seq (WC.region ?_))))))
          refine WO.op rfl rfl rfl (R.assign rfl) ?_
          refine WO.nil (WX.next (WC.ret ?_))
          refine WX.ret1 Try.results29 rfl ⟨_, rfl, by simp [Gr.check, hn, h1, show ¬ 1048576 < es.length by omega, hall], hk.ext hk2⟩

theorem few_ok (n : Int) (es : List (Int × Int)) (ev : Value) (D : Nat → Prop) (w : World) (hes : SlR 2 RPair D w ev es) : Calls Try.prog 11 #[.agg #[.int .i64 n, ev]] w (Ret fun r w' => r = .bool (decide (n ≤ 12 ∧ es.length ≤ 40)) ∧ Ext w w') := by
  obtain ⟨ao, cap, rfl, _⟩ := hes
  refine calls Try.func11 rfl [(0, .agg #[.int .i64 n, .slice ao es.length cap])] 12 ⟨Nat.le_of_ble_eq_true rfl, Try.ntmps11⟩ (argsOk (Sub.cons rfl Sub.nil)) ?_
  refine WC.seq (WC.region ?_)
  refine WO.mem rfl rfl rfl (M.box rfl rfl) ?_
  rintro _ w1 ⟨b, rfl, hb, hs1, hB1, hk1⟩
  refine WO.op rfl rfl rfl (R.assign rfl) ?_
  refine WO.nil (WX.next (WC.seq (WC.region ?_)))
  refine WO.op rfl rfl rfl (R.fieldAddr Try.runUnderlying24 rfl Try.sizeOf3 rfl) ?_
  refine WO.op rfl rfl rfl (R.load Try.isAgg3 rfl (hB1.cells 0 _ rfl)) ?_
  refine WO.op rfl rfl rfl (R.leq rfl rfl) ?_
  refine WO.op rfl rfl rfl (R.move rfl) ?_
  refine WO.cases (p := n ≤ 12) (fun h => ?_) (fun h => ?_)
  ·
    refine WO.yes rfl rfl (decide_eq_true h) ?_
    refine WO.op rfl rfl rfl (R.fieldAddr Try.runUnderlying24 rfl Try.sizeOf22 rfl) ?_
    refine WO.yes rfl rfl (decide_eq_true h) ?_
    refine WO.op rfl rfl rfl (R.load Try.isAgg22 rfl (hB1.cells 1 _ rfl)) ?_
    refine WO.yes rfl rfl (decide_eq_true h) ?_
    refine WO.op rfl rfl rfl (R.lenS rfl Try.runUnderlying22 rfl) ?_
    refine WO.yes rfl rfl (decide_eq_true h) ?_
    refine WO.op rfl rfl rfl (R.leq rfl rfl) ?_
    refine WO.op rfl rfl rfl (R.pickT rfl (decide_eq_true h) rfl) ?_
    refine WO.op rfl rfl rfl (R.assign rfl) ?_
    refine WO.nil (WX.next (WC.ret ?_))
    have h40 : ((es.length : Int) ≤ 40) ↔ es.length ≤ 40 := by omega
    refine WX.ret1 Try.results11 rfl ⟨_, rfl, by simp [h, h40], hk1⟩
  ·
    refine WO.no rfl rfl (decide_eq_false h) rfl ?_
    refine WO.no rfl rfl (decide_eq_false h) rfl ?_
    refine WO.no rfl rfl (decide_eq_false h) rfl ?_
    refine WO.no rfl rfl (decide_eq_false h) rfl ?_
    refine WO.op rfl rfl rfl (R.pickF rfl (decide_eq_false h) rfl) ?_
    refine WO.op rfl rfl rfl (R.assign rfl) ?_
    refine WO.nil (WX.next (WC.ret ?_))
    refine WX.ret1 Try.results11 rfl ⟨_, rfl, by simp [h], hk1⟩

theorem code_ok (n x : Int) (es : List (Int × Int)) (ev : Value) (D : Nat → Prop) (w : World) (hes : SlR 2 RPair D w ev es) : Calls Try.prog 13 #[.agg #[.int .i64 n, ev], .int .i64 x] w (Ret fun r w' => r = .int .i64 (codeOf n es x) ∧ Ext w w') := by
  have hes' := hes
  obtain ⟨ao, cap, rfl, _⟩ := hes'
  refine calls Try.func13 rfl [(0, .agg #[.int .i64 n, .slice ao es.length cap]), (1, .int .i64 x)] 21 ⟨Nat.le_of_ble_eq_true rfl, Try.ntmps13⟩ (argsOk (Sub.cons rfl (Sub.cons rfl Sub.nil))) ?_
  refine WC.seq (WC.region ?_)
  refine WO.mem rfl rfl rfl (M.box rfl rfl) ?_
  rintro _ w1 ⟨b, rfl, hb, hs1, hB1, hk1⟩
  refine WO.op rfl rfl rfl (R.assign rfl) ?_
  refine WO.nil (WX.next (WC.seq (WC.region ?_)))
  refine WO.op rfl rfl rfl (R.loadK Try.isAgg24 Try.sizeOf24 rfl (by rfl) hB1.cells) ?_
  refine WO.call rfl rfl rfl (F.call (vs := [_]) Try.call29 rfl) (refCheck_ok n es _ D w1 (hes.ext stable_pair hk1)) ?_
  rintro _ w2 ⟨rfl, hk2⟩
  have hB2 := hk2.blk hB1 (fun h => h)
  refine WO.op rfl rfl rfl (R.assign rfl) ?_
  refine WO.nil (WX.next (WC.seq (WC.seq (WC.region ?_))))
  refine WO.op rfl rfl rfl (R.move rfl) ?_
  refine WO.op rfl rfl rfl (R.eql rfl rfl) ?_
  refine WO.op rfl rfl rfl (R.move rfl) ?_
  refine WO.cases (p := Gr.check n es = 0) (fun hc => ?_) (fun hc => ?_)
  ·
    refine WO.yes rfl rfl (decide_eq_true hc) ?_
    refine WO.op rfl rfl rfl (R.move rfl) ?_
    refine WO.yes rfl rfl (decide_eq_true hc) ?_
    refine WO.op rfl rfl rfl (R.lss rfl rfl) ?_
    refine WO.yes rfl rfl (decide_eq_true hc) ?_
    refine WO.op rfl rfl rfl (R.move rfl) ?_
    refine WO.cases (p := x < 0) (fun hx => ?_) (fun hx => ?_)
    · have hcode : codeOf n es x = 3 := by unfold codeOf; rw [if_neg (by simpa using hc), if_pos (.inl hx)]
      refine WO.no rfl rfl (decide_eq_true hx) rfl ?_
      refine WO.no rfl rfl (decide_eq_true hx) rfl ?_
      refine WO.no rfl rfl (decide_eq_true hx) rfl ?_
      refine WO.no rfl rfl (decide_eq_true hx) rfl ?_
      refine WO.yes rfl rfl (decide_eq_true hc) ?_
      refine WO.op rfl rfl rfl (R.pickT rfl (decide_eq_true hx) rfl) ?_
      refine WO.op rfl rfl rfl (R.pickT rfl (decide_eq_true hc) rfl) ?_
      refine WO.nil (WX.next ?_)
      refine WC.tt rfl (rfl) ?_
      refine WC.seq (WC.region ?_)
      refine WO.op rfl rfl rfl (R.assign rfl) ?_
      refine WO.nil (WX.next (WC.ret (WX.thenR ?_)))
      refine WX.ret1 Try.results13 rfl ⟨_, rfl, by rw [hcode], hk1.ext hk2⟩
    ·
      refine WO.yes rfl rfl (decide_eq_false hx) ?_
      refine WO.op rfl rfl rfl (R.move rfl) ?_
      refine WO.yes rfl rfl (decide_eq_false hx) ?_
      refine WO.op rfl rfl rfl (R.fieldAddr Try.runUnderlying24 rfl Try.sizeOf3 rfl) ?_
      refine WO.yes rfl rfl (decide_eq_false hx) ?_
      refine WO.op rfl rfl rfl (R.load Try.isAgg3 rfl (hB2.cells 0 _ rfl)) ?_
      refine WO.yes rfl rfl (decide_eq_false hx) ?_
      refine WO.op rfl rfl rfl (R.geq rfl rfl) ?_
      refine WO.yes rfl rfl (decide_eq_true hc) ?_
      refine WO.op rfl rfl rfl (R.pickF rfl (decide_eq_false hx) rfl) ?_
      refine WO.op rfl rfl rfl (R.pickT rfl (decide_eq_true hc) rfl) ?_
      refine WO.nil (WX.next ?_)
      refine WC.ite rfl (fun hy => ?_) (fun hy => ?_)
      · have hcode : codeOf n es x = 3 := by unfold codeOf; rw [if_neg (by simpa using hc), if_pos (.inr (by omega))]
        refine WC.seq (WC.region ?_)
        refine WO.op rfl rfl rfl (R.assign rfl) ?_
        refine WO.nil (WX.next (WC.ret (WX.thenR ?_)))
        refine WX.ret1 Try.results13 rfl ⟨_, rfl, by rw [hcode], hk1.ext hk2⟩
      · have hcode : codeOf n es x = 0 := by unfold codeOf; rw [if_neg (by simpa using hc), if_neg (by omega)]
        refine WC.skip (WX.next (WC.seq (WC.region ?_)))
        refine WO.op rfl rfl rfl (R.move rfl) ?_
        refine WO.op rfl rfl rfl (R.assign rfl) ?_
        refine WO.nil (WX.next (WC.ret ?_))
        refine WX.ret1 Try.results13 rfl ⟨_, rfl, by rw [hcode, hc], hk1.ext hk2⟩
  · have hcode : codeOf n es x = Gr.check n es := by unfold codeOf; rw [if_pos hc]
    refine WO.no rfl rfl (decide_eq_false hc) rfl ?_
    refine WO.no rfl rfl (decide_eq_false hc) rfl ?_
    refine WO.no rfl rfl (decide_eq_false hc) rfl ?_
    refine WO.noU rfl rfl rfl ?_
    refine WO.noU rfl rfl rfl ?_
    refine WO.noU rfl rfl rfl ?_
    refine WO.noU rfl rfl rfl ?_
    refine WO.no rfl rfl (decide_eq_false hc) rfl ?_
    refine WO.op rfl rfl rfl (R.pickF rfl (decide_eq_false hc) rfl) ?_
    refine WO.nil (WX.next ?_)
    refine WC.ff rfl (rfl) ?_
    refine WC.skip (WX.next (WC.seq (WC.region ?_)))
    refine WO.op rfl rfl rfl (R.move rfl) ?_
    refine WO.op rfl rfl rfl (R.assign rfl) ?_
    refine WO.nil (WX.next (WC.ret ?_))
    refine WX.ret1 Try.results13 rfl ⟨_, rfl, by rw [hcode], hk1.ext hk2⟩
end Go.Proofs.Yteilalejfphkgaa
