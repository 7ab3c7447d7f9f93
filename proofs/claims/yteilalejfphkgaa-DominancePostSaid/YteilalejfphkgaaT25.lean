/-
  The reference's control dependence, and the law DominancePost: walks. Nothing here is a claim.
-/
import Derived.Test.YteilalejfphkgaaT24
namespace Go.Proofs.Yteilalejfphkgaa
open Go.GL Go.GL.Dom Go.GL.Dfs

/-- a is control dependent on b's .. as the reference has it: pair (a, b). -/
def CB (M : List (List Bool)) (es : List (Int × Int)) (a b : Nat) : Prop := (∃ c : Nat, ((a : Int), (c : Int)) ∈ es ∧ dm M b c) ∧ ¬ (a ≠ b ∧ dm M b a)

theorem refControl_ok (m root : Nat) (es : List (Int × Int)) (ev : Value) (D : Nat → Prop) (w : World) (hes : SlR 2 RPair D w ev es) (hc : Gr.check m es = 0) (hr : root < m) : Calls Try.prog 22 #[.agg #[.int .i64 m, ev], .int .i64 root] w (Ret fun u w' => ∃ s M acc, PrP (fun x y => ((y : Int), (x : Int)) ∈ es) m m 0 s ∧ DomMat s root m M ∧ PrP (CB M es) m m 0 acc ∧ SlR 2 RPair (fun b => w.heap.size ≤ b) w' u acc ∧ Ext w w') := by
  have hes' := hes
  obtain ⟨ao, cap, rfl, hlc, hcm, hel⟩ := hes'
  obtain ⟨hz1, hz2, hz3, hall⟩ := Gr.check_zero hc
  have hed : ∀ e ∈ es, 0 ≤ e.1 ∧ e.1 < m ∧ 0 ≤ e.2 ∧ e.2 < m := by
    intro e he
    have := List.all_eq_true.1 hall e he
    simp [Gr.okE] at this
    omega
  refine calls Try.func22 rfl [(0, .agg #[.int .i64 m, .slice ao es.length cap]), (1, .int .i64 root)] 79 ⟨Nat.le_of_ble_eq_true rfl, Try.ntmps22⟩ (argsOk (Sub.cons rfl (Sub.cons rfl Sub.nil))) ?_
  refine WC.seq (WC.region ?_)
  refine WO.mem rfl rfl rfl (M.box rfl rfl) ?_
  rintro _ w1 ⟨g, rfl, hg, hs1, hB1, hk1⟩
  refine WO.op rfl rfl rfl (R.assign rfl) ?_
  refine WO.nil (WX.next (WC.seq (WC.region ?_)))
  refine WO.op rfl rfl rfl (R.loadK Try.isAgg24 Try.sizeOf24 rfl (by rfl) hB1.cells) ?_
  refine WO.call rfl rfl rfl (F.call (vs := [_]) Try.call20 rfl) (refReverse_ok m es _ D w1 (hes.ext stable_pair hk1) hc) ?_
  rintro _ w2 ⟨v, s, rfl, hS, hsl, hk2⟩
  have hBb2 := hk2.blk hB1 (fun h => h)
  have hE2 := hk1.ext hk2
  refine WO.op rfl rfl rfl (R.move rfl) ?_
  refine WO.op rfl rfl rfl (R.extract rfl rfl) ?_
  refine WO.op rfl rfl rfl (R.extract rfl rfl) ?_
  refine WO.mem rfl rfl rfl (M.alloc (cs := _) Try.zeroValue24 rfl) ?_
  rintro _ w3 ⟨b5, rfl, hb5, hs3, hB3, hk3⟩
  have hsl' := hsl
  obtain ⟨asl, csl, rfl, _⟩ := hsl'
  refine WO.mem0 rfl rfl (M.storeK Try.sizeOf24 rfl rfl rfl rfl (by simp [Value.oneCell']) hB3 (by simp)) ?_
  rintro w4 ⟨hs4, hB4, hk4⟩
  have hk24 : Ext w2 w4 := hk3.trans hk4 (fun q hq h => by omega)
  have hBb4 := hk24.blk hBb2 (fun h => h)
  have hsall : s.all (Gr.okE m) = true := by
    rw [List.all_eq_true]
    intro e he
    obtain ⟨x, y, rfl, h1, h2, h3⟩ := (hS.mem e).1 he
    have := hed _ h2
    simp [Gr.okE]
    omega
  refine WO.op rfl rfl rfl (R.assign rfl) ?_
  refine WO.nil (WX.next (WC.seq (WC.region ?_)))
  refine WO.op rfl rfl rfl (R.loadK Try.isAgg24 Try.sizeOf24 rfl (by rfl) hB4.cells) ?_
  refine WO.op rfl rfl rfl (R.move rfl) ?_
  refine WO.call rfl rfl rfl (F.call (vs := [_, _]) Try.call30 rfl) (domMat_ok m root s _ _ w4 (hsl.ext stable_pair hk24) (by omega) hsall hr) ?_
  rintro _ w5 ⟨Mx, hM, hslM, hk5⟩
  have hBb5 := hk5.blk hBb4 (fun h => h)
  have hE5 := (hE2.ext hk24).ext hk5
  have hslM' := hslM
  obtain ⟨ua, uc, rfl, _⟩ := hslM'
  have hat := mat_at hslM hM.len (fun a r h => (hM.row a r h).1)
  refine WO.op rfl rfl rfl (R.assign rfl) ?_
  refine WO.nil (WX.next (WC.seq (WC.region ?_)))
  refine WO.op rfl rfl rfl (R.assign rfl) ?_
  refine WO.nil (WX.next (WC.seq (WC.seq (WC.region ?_))))
  refine WO.op rfl rfl rfl (R.fieldAddr Try.runUnderlying24 rfl Try.sizeOf3 rfl) ?_
  refine WO.op rfl rfl rfl (R.load Try.isAgg3 rfl (hBb5.cells 0 _ rfl)) ?_
  refine WO.op rfl rfl rfl (R.move rfl) ?_
  refine WO.nil (WX.next (WC.block ?_))
  refine WC.loop (σ := Nat × List (Int × Int) × Value) (fun ⟨a, acc, va⟩ => [(2, .pointer (some ⟨g, 0, none⟩)), (7, .slice ua Mx.length uc), (8, va), (23, .int .i64 m), (24, .int .i64 a)]) (fun ⟨a, acc, va⟩ => fun w' => a ≤ m ∧ PrP (CB Mx es) m a 0 acc ∧ w'.ownsRow 0 49 2 va acc.length (acc.flatMap encP) ∧ (∀ q, va.ownBlock = some q → w5.heap.size ≤ q) ∧ Ext w5 w') (fun ⟨a, acc, va⟩ => m - a) ((0, [], .slice none 0 0)) (Sub.cons rfl (Sub.cons rfl (Sub.cons rfl (Sub.cons rfl (Sub.cons rfl Sub.nil))))) (⟨Nat.zero_le _, PrP.start, own_nil _ _ _, by simp [Value.ownBlock], Keep.refl _ _⟩) ?_
  rintro ⟨a, acc, va⟩ w6 ⟨ham, hP, hown, hfr, hk6⟩
  show WC _ _ _ _ [(2, .pointer (some ⟨g, 0, none⟩)), (7, .slice ua Mx.length uc), (8, va), (23, .int .i64 m), (24, .int .i64 a)] _
  refine WC.seq (WC.region ?_)
  refine WO.op rfl rfl rfl (R.lss rfl rfl) ?_
  refine WO.nil (WX.next (WC.seq ?_))
  refine WC.ite rfl (fun hla => ?_) (fun hga => ?_)
  ·
    refine WC.skip (WX.next (WC.seq (WC.block (WC.seq (WC.region ?_)))))
    refine WO.op rfl rfl rfl (R.move rfl) ?_
    refine WO.op rfl rfl rfl (R.assign rfl) ?_
    refine WO.nil (WX.next (WC.seq (WC.region ?_)))
    refine WO.op rfl rfl rfl (R.fieldAddr Try.runUnderlying24 rfl Try.sizeOf3 rfl) ?_
    refine WO.op rfl rfl rfl (R.load Try.isAgg3 rfl ((hk6.blk hBb5 (fun h => h)).cells 0 _ rfl)) ?_
    refine WO.op rfl rfl rfl (R.move rfl) ?_
    refine WO.nil (WX.next (WC.block ?_))
    refine WC.loop (σ := Nat × List (Int × Int) × Value) (fun ⟨b, acc, va⟩ => [(2, .pointer (some ⟨g, 0, none⟩)), (7, .slice ua Mx.length uc), (8, va), (23, .int .i64 m), (24, .int .i64 a), (9, .int .i64 a), (28, .int .i64 m), (29, .int .i64 b)]) (fun ⟨b, acc, va⟩ => fun w' => b ≤ m ∧ PrP (CB Mx es) m a b acc ∧ w'.ownsRow 0 49 2 va acc.length (acc.flatMap encP) ∧ (∀ q, va.ownBlock = some q → w5.heap.size ≤ q) ∧ Ext w5 w') (fun ⟨b, acc, va⟩ => m - b) ((0, acc, va)) (Sub.cons rfl (Sub.cons rfl (Sub.cons rfl (Sub.cons rfl (Sub.cons rfl (Sub.cons rfl (Sub.cons rfl (Sub.cons rfl Sub.nil)))))))) (⟨Nat.zero_le _, hP, hown, hfr, hk6⟩) ?_
    rintro ⟨b, acc, va⟩ w7 ⟨hbm, hP7, hown7, hfr7, hk7⟩
    show WC _ _ _ _ [(2, .pointer (some ⟨g, 0, none⟩)), (7, .slice ua Mx.length uc), (8, va), (23, .int .i64 m), (24, .int .i64 a), (9, .int .i64 a), (28, .int .i64 m), (29, .int .i64 b)] _
    refine WC.seq (WC.region ?_)
    refine WO.op rfl rfl rfl (R.lss rfl rfl) ?_
    refine WO.nil (WX.next (WC.seq ?_))
    refine WC.ite rfl (fun hlb => ?_) (fun hgb => ?_)
    · obtain ⟨rowb, rab, rcb, bob, oob, hMb, hub, hcb, hrowb⟩ := hat b (by omega)
      obtain ⟨sba, rbba, roba, hsba, hraba, hcba⟩ := hrowb a (by omega)
      refine WC.skip (WX.next (WC.seq (WC.block (WC.seq (WC.region ?_)))))
      refine WO.op rfl rfl rfl (R.move rfl) ?_
      refine WO.op rfl rfl rfl (R.assign rfl) ?_
      refine WO.nil (WX.next (WC.seq (WC.region ?_)))
      refine WO.op rfl rfl rfl (R.assign rfl) ?_
      refine WO.nil (WX.next (WC.seq (WC.seq (WC.region ?_))))
      refine WO.op rfl rfl rfl (R.fieldAddr Try.runUnderlying24 rfl Try.sizeOf22 rfl) ?_
      refine WO.op rfl rfl rfl (R.load Try.isAgg22 rfl ((hk7.blk hBb5 (fun h => h)).cells 1 _ rfl)) ?_
      refine WO.op rfl rfl rfl (R.lenS rfl Try.runUnderlying22 rfl) ?_
      refine WO.op rfl rfl rfl (R.move rfl) ?_
      refine WO.nil (WX.next (WC.block ?_))
      refine WC.loop (σ := Nat × Bool) (fun ⟨j, p⟩ => [(2, .pointer (some ⟨g, 0, none⟩)), (7, .slice ua Mx.length uc), (8, va), (23, .int .i64 m), (24, .int .i64 a), (9, .int .i64 a), (28, .int .i64 m), (29, .int .i64 b), (10, .int .i64 b), (11, .bool p), (33, .slice ao es.length cap), (34, .int .i64 es.length), (35, .int .i64 j)]) (fun ⟨j, p⟩ => fun w' => j ≤ es.length ∧ (p = true ↔ ∃ c : Nat, ((a : Int), (c : Int)) ∈ es.take j ∧ dm Mx b c) ∧ Ext w7 w') (fun ⟨j, p⟩ => es.length - j) ((0, false)) (Sub.cons rfl (Sub.cons rfl (Sub.cons rfl (Sub.cons rfl (Sub.cons rfl (Sub.cons rfl (Sub.cons rfl (Sub.cons rfl (Sub.cons rfl (Sub.cons rfl (Sub.cons rfl (Sub.cons rfl (Sub.cons rfl Sub.nil))))))))))))) (⟨Nat.zero_le _, by simp, Keep.refl _ _⟩) ?_
      rintro ⟨j, p⟩ w8 ⟨hje, hp, hk8⟩
      show WC _ _ _ _ [(2, .pointer (some ⟨g, 0, none⟩)), (7, .slice ua Mx.length uc), (8, va), (23, .int .i64 m), (24, .int .i64 a), (9, .int .i64 a), (28, .int .i64 m), (29, .int .i64 b), (10, .int .i64 b), (11, .bool p), (33, .slice ao es.length cap), (34, .int .i64 es.length), (35, .int .i64 j)] _
      refine WC.seq (WC.region ?_)
      refine WO.op rfl rfl rfl (R.lss rfl rfl) ?_
      refine WO.nil (WX.next (WC.seq ?_))
      refine WC.ite rfl (fun hlj => ?_) (fun hgj => ?_)
      · obtain ⟨e, he⟩ : ∃ e, es[j]? = some e := ⟨_, List.getElem?_eq_getElem (by omega)⟩
        obtain ⟨be, oe, ce, hao, hDb, hcl, hcs, rfl⟩ := hel j e he
        have hee := hed e (List.mem_of_getElem? he)
        obtain ⟨c, hc'⟩ : ∃ c : Nat, e.2 = (c : Int) := ⟨e.2.toNat, by omega⟩
        obtain ⟨sbc, rbbc, robc, hsbc, hrabc, hcbc⟩ := hrowb c (by omega)
        have hstep : ∀ q : Bool, (q = true ↔ p = true ∨ (e.1 = (a : Int) ∧ sbc = true)) → (q = true ↔ ∃ c : Nat, ((a : Int), (c : Int)) ∈ es.take (j + 1) ∧ dm Mx b c) := by
          intro q hq
          rw [hq, hp, ← dm_iff hMb hsbc, List.take_add_one, he]
          constructor
          · rintro (⟨x, h1, h2⟩ | ⟨h1, h2⟩)
            · exact ⟨x, List.mem_append_left _ h1, h2⟩
            · exact ⟨c, List.mem_append_right _ (by simp [← hc', ← h1]), h2⟩
          · rintro ⟨x, h1, h2⟩
            rcases List.mem_append.1 h1 with h3 | h3
            · exact .inl ⟨x, h3, h2⟩
            · simp at h3
              refine .inr ⟨by rw [← h3], ?_⟩
              have : x = c := by have : (x : Int) = e.2 := by rw [← h3]
                                 omega
              rw [← this]; exact h2
        have hk58 := hk7.ext hk8
        refine WC.skip (WX.next (WC.seq (WC.block (WC.seq (WC.region ?_)))))
        refine WO.op rfl rfl rfl (R.indexS Try.runUnderlying22 Try.sizeOf49 rfl rfl hao (by omega)) ?_
        refine WO.op rfl rfl rfl (R.loadK Try.isAgg49 Try.sizeOf49 rfl (by rfl) ((hE5.ext hk58).cells hcs (fun h => h))) ?_
        refine WO.mem rfl rfl rfl (M.alloc (cs := _) Try.zeroValue49 rfl) ?_
        rintro _ w9 ⟨b9, rfl, hb9, hs9, hB9, hk9⟩
        refine WO.mem0 rfl rfl (M.storeK Try.sizeOf49 rfl rfl rfl rfl (encP_one e) hB9 (by simp)) ?_
        rintro w10 ⟨hs10, hB10, hk10⟩
        have hk810 : Ext w8 w10 := hk9.trans hk10 (fun q hq h => by omega)
        have hk510 := hk58.ext hk810
        refine WO.nil (WX.next (WC.seq ?_))
        refine WC.quiet (by kernel_rfl) (by kernel_rfl) ?_
        refine WQ.op rfl rfl rfl (fun w1 hw1 => R.indexA Try.runUnderlying49 Try.sizeOf3 rfl rfl (by omega)) ?_
        refine WQ.op rfl rfl rfl (fun w1 hw1 => R.load Try.isAgg3 rfl ((hw1.blk hB10 (fun h => h)).cells 0 _ rfl)) ?_
        refine WQ.op rfl rfl rfl (fun w1 hw1 => R.move rfl) ?_
        refine WQ.op rfl rfl rfl (fun w1 hw1 => R.eql rfl rfl) ?_
        refine WQ.op rfl rfl rfl (fun w1 hw1 => R.move rfl) ?_
        refine WQ.cases (p := e.1 = (a : Int)) (fun hb => ?_) (fun hb => ?_)
        ·
          refine WQ.yes rfl rfl (decide_eq_true hb) ?_
          refine WQ.op rfl rfl rfl (fun w1 hw1 => R.move rfl) ?_
          refine WQ.yes rfl rfl (decide_eq_true hb) ?_
          refine WQ.op rfl rfl rfl (fun w1 hw1 => R.move rfl) ?_
          refine WQ.yes rfl rfl (decide_eq_true hb) ?_
          refine WQ.op rfl rfl rfl (fun w1 hw1 => R.indexS Try.runUnderlying60 Try.sizeOf53 rfl rfl hub (by have := hM.len; omega)) ?_
          refine WQ.yes rfl rfl (decide_eq_true hb) ?_
          refine WQ.op rfl rfl rfl (fun w1 hw1 => R.load Try.isAgg53 rfl ((hk510.ext hw1).cell hcb (fun h => h))) ?_
          refine WQ.yes rfl rfl (decide_eq_true hb) ?_
          refine WQ.op rfl rfl rfl (fun w1 hw1 => R.indexA Try.runUnderlying49 Try.sizeOf3 rfl rfl (by omega)) ?_
          refine WQ.yes rfl rfl (decide_eq_true hb) ?_
          refine WQ.op rfl rfl rfl (fun w1 hw1 => R.load Try.isAgg3 rfl ((hw1.blk hB10 (fun h => h)).cells 1 _ rfl)) ?_
          refine WQ.yes rfl rfl (decide_eq_true hb) ?_
          refine WQ.op rfl rfl rfl (fun w1 hw1 => R.indexS Try.runUnderlying53 Try.sizeOf4 rfl rfl hrabc (by omega)) ?_
          refine WQ.yes rfl rfl (decide_eq_true hb) ?_
          refine WQ.op rfl rfl rfl (fun w1 hw1 => R.load Try.isAgg4 rfl (by rw [hc']; exact (hk510.ext hw1).cell hcbc (fun h => h))) ?_
          refine WQ.op rfl rfl rfl (fun w1 hw1 => R.pickT rfl (decide_eq_true hb) rfl) ?_
          refine WQ.nil (fun w11 hk11 => ?_)
          have hk711 := hk8.ext (hk810.ext hk11)
          refine WX.next ?_
          refine WC.bool rfl (fun hs => ?_) (fun hs => ?_)
          ·
            refine WC.region ?_
            refine WO.op rfl rfl rfl (R.assign rfl) ?_
            refine WO.nil (WX.blockN (WX.next (WC.region ?_)))
            refine WO.op rfl rfl rfl (R.add rfl rfl (wrap_i64_in (by omega))) ?_
            refine WO.op rfl rfl rfl (R.move rfl) ?_
            refine WO.nil ?_
            refine WX.back ((j + 1, true)) (Sub.cons rfl (Sub.cons rfl (Sub.cons rfl (Sub.cons rfl (Sub.cons rfl (Sub.cons rfl (Sub.cons rfl (Sub.cons rfl (Sub.cons rfl (Sub.cons rfl (Sub.cons rfl (Sub.cons rfl (Sub.cons rfl Sub.nil))))))))))))) (⟨by omega, hstep true (by simp [hb, hs]), hk711⟩) (by first | omega | (dsimp only; omega))
          ·
            refine WC.skip (WX.blockN (WX.next (WC.region ?_)))
            refine WO.op rfl rfl rfl (R.add rfl rfl (wrap_i64_in (by omega))) ?_
            refine WO.op rfl rfl rfl (R.move rfl) ?_
            refine WO.nil ?_
            refine WX.back ((j + 1, p)) (Sub.cons rfl (Sub.cons rfl (Sub.cons rfl (Sub.cons rfl (Sub.cons rfl (Sub.cons rfl (Sub.cons rfl (Sub.cons rfl (Sub.cons rfl (Sub.cons rfl (Sub.cons rfl (Sub.cons rfl (Sub.cons rfl Sub.nil))))))))))))) (⟨by omega, hstep p (by simp [hs]), hk711⟩) (by first | omega | (dsimp only; omega))
        ·
          refine WQ.no rfl rfl (decide_eq_false hb) rfl ?_
          refine WQ.no rfl rfl (decide_eq_false hb) rfl ?_
          refine WQ.no rfl rfl (decide_eq_false hb) rfl ?_
          refine WQ.no rfl rfl (decide_eq_false hb) rfl ?_
          refine WQ.no rfl rfl (decide_eq_false hb) rfl ?_
          refine WQ.no rfl rfl (decide_eq_false hb) rfl ?_
          refine WQ.no rfl rfl (decide_eq_false hb) rfl ?_
          refine WQ.no rfl rfl (decide_eq_false hb) rfl ?_
          refine WQ.op rfl rfl rfl (fun w1 hw1 => R.pickF rfl (decide_eq_false hb) rfl) ?_
          refine WQ.nil (fun w11 hk11 => ?_)
          have hk711 := hk8.ext (hk810.ext hk11)
          refine WX.next ?_
          refine WC.ff rfl (rfl) ?_
          refine WC.skip (WX.blockN (WX.next (WC.region ?_)))
          refine WO.op rfl rfl rfl (R.add rfl rfl (wrap_i64_in (by omega))) ?_
          refine WO.op rfl rfl rfl (R.move rfl) ?_
          refine WO.nil ?_
          refine WX.back ((j + 1, p)) (Sub.cons rfl (Sub.cons rfl (Sub.cons rfl (Sub.cons rfl (Sub.cons rfl (Sub.cons rfl (Sub.cons rfl (Sub.cons rfl (Sub.cons rfl (Sub.cons rfl (Sub.cons rfl (Sub.cons rfl (Sub.cons rfl Sub.nil))))))))))))) (⟨by omega, hstep p (by simp [hb]), hk711⟩) (by first | omega | (dsimp only; omega))
      · have hje' : j = es.length := by omega
        subst hje'
        rw [List.take_length] at hp
        have hk58 := hk7.ext hk8
        have hown8 := own_keep hown7 hk8 (fun _ _ h => h)
        refine WC.exit (WX.thenE (WX.thenE (WX.hit (WX.next (WC.seq ?_)))))
        refine WC.cut (σ := Bool) (fun q => [(2, .pointer (some ⟨g, 0, none⟩)), (7, .slice ua Mx.length uc), (8, va), (23, .int .i64 m), (24, .int .i64 a), (9, .int .i64 a), (28, .int .i64 m), (29, .int .i64 b), (10, .int .i64 b), (69, .bool q)]) (fun q => fun w' => (q = true ↔ CB Mx es a b) ∧ w' = w8) ?_ ?_
        ·
          refine WC.region ?_
          refine WO.op rfl rfl rfl (R.move rfl) ?_
          refine WO.op rfl rfl rfl (R.move rfl) ?_
          refine WO.cases (p := p = true) (fun hpt => ?_) (fun hpt => ?_)
          · subst hpt
            have hex := hp.1 rfl
            refine WO.yes rfl rfl rfl ?_
            refine WO.op rfl rfl rfl (R.move rfl) ?_
            refine WO.yes rfl rfl rfl ?_
            refine WO.op rfl rfl rfl (R.move rfl) ?_
            refine WO.yes rfl rfl rfl ?_
            refine WO.op rfl rfl rfl (R.neq rfl rfl) ?_
            refine WO.yes rfl rfl rfl ?_
            refine WO.op rfl rfl rfl (R.move rfl) ?_
            refine WO.cases (p := (a : Int) ≠ (b : Int)) (fun hab => ?_) (fun hab => ?_)
            · have hab' : a ≠ b := fun h => hab (by rw [h])
              refine WO.yes rfl rfl (decide_eq_true hab) ?_
              refine WO.op rfl rfl rfl (R.move rfl) ?_
              refine WO.yes rfl rfl (decide_eq_true hab) ?_
              refine WO.op rfl rfl rfl (R.move rfl) ?_
              refine WO.yes rfl rfl (decide_eq_true hab) ?_
              refine WO.op rfl rfl rfl (R.indexS Try.runUnderlying60 Try.sizeOf53 rfl rfl hub (by have := hM.len; omega)) ?_
              refine WO.yes rfl rfl (decide_eq_true hab) ?_
              refine WO.op rfl rfl rfl (R.load Try.isAgg53 rfl (hk58.cell hcb (fun h => h))) ?_
              refine WO.yes rfl rfl (decide_eq_true hab) ?_
              refine WO.op rfl rfl rfl (R.move rfl) ?_
              refine WO.yes rfl rfl (decide_eq_true hab) ?_
              refine WO.op rfl rfl rfl (R.indexS Try.runUnderlying53 Try.sizeOf4 rfl rfl hraba (by omega)) ?_
              refine WO.yes rfl rfl (decide_eq_true hab) ?_
              refine WO.op rfl rfl rfl (R.load Try.isAgg4 rfl (hk58.cell hcba (fun h => h))) ?_
              refine WO.yes rfl rfl rfl ?_
              refine WO.op rfl rfl rfl (R.pickT rfl (decide_eq_true hab) rfl) ?_
              refine WO.yes rfl rfl rfl ?_
              refine WO.op rfl rfl rfl (R.not rfl) ?_
              refine WO.op rfl rfl rfl (R.pickT rfl rfl rfl) ?_
              refine WO.nil ?_
              refine WX.meet ((!sba)) (Sub.cons rfl (Sub.cons rfl (Sub.cons rfl (Sub.cons rfl (Sub.cons rfl (Sub.cons rfl (Sub.cons rfl (Sub.cons rfl (Sub.cons rfl (Sub.cons rfl Sub.nil)))))))))) (⟨by unfold CB; rw [dm_iff hMb hsba]; simp [hab', hex], rfl⟩)
            · have hab' : a = b := by omega
              refine WO.no rfl rfl (decide_eq_false hab) rfl ?_
              refine WO.no rfl rfl (decide_eq_false hab) rfl ?_
              refine WO.no rfl rfl (decide_eq_false hab) rfl ?_
              refine WO.no rfl rfl (decide_eq_false hab) rfl ?_
              refine WO.no rfl rfl (decide_eq_false hab) rfl ?_
              refine WO.no rfl rfl (decide_eq_false hab) rfl ?_
              refine WO.no rfl rfl (decide_eq_false hab) rfl ?_
              refine WO.yes rfl rfl rfl ?_
              refine WO.op rfl rfl rfl (R.pickF rfl (decide_eq_false hab) rfl) ?_
              refine WO.yes rfl rfl rfl ?_
              refine WO.op rfl rfl rfl (R.not rfl) ?_
              refine WO.op rfl rfl rfl (R.pickT rfl rfl rfl) ?_
              refine WO.nil ?_
              refine WX.meet (true) (Sub.cons rfl (Sub.cons rfl (Sub.cons rfl (Sub.cons rfl (Sub.cons rfl (Sub.cons rfl (Sub.cons rfl (Sub.cons rfl (Sub.cons rfl (Sub.cons rfl Sub.nil)))))))))) (⟨by unfold CB; simp [hab'] at hex ⊢; exact hex, rfl⟩)
          · have hpf : p = false := by simpa using hpt
            subst hpf
            refine WO.no rfl rfl rfl rfl ?_
            refine WO.no rfl rfl rfl rfl ?_
            refine WO.no rfl rfl rfl rfl ?_
            refine WO.no rfl rfl rfl rfl ?_
            refine WO.noU rfl rfl rfl ?_
            refine WO.noU rfl rfl rfl ?_
            refine WO.noU rfl rfl rfl ?_
            refine WO.noU rfl rfl rfl ?_
            refine WO.noU rfl rfl rfl ?_
            refine WO.noU rfl rfl rfl ?_
            refine WO.noU rfl rfl rfl ?_
            refine WO.no rfl rfl rfl rfl ?_
            refine WO.no rfl rfl rfl rfl ?_
            refine WO.op rfl rfl rfl (R.pickF rfl rfl rfl) ?_
            refine WO.nil ?_
            refine WX.meet (false) (Sub.cons rfl (Sub.cons rfl (Sub.cons rfl (Sub.cons rfl (Sub.cons rfl (Sub.cons rfl (Sub.cons rfl (Sub.cons rfl (Sub.cons rfl (Sub.cons rfl Sub.nil)))))))))) (⟨by unfold CB; rw [← hp]; simp, rfl⟩)
        ·
          rintro q w9 ⟨hq, hw9⟩
          show WX _ _ _ [(2, .pointer (some ⟨g, 0, none⟩)), (7, .slice ua Mx.length uc), (8, va), (23, .int .i64 m), (24, .int .i64 a), (9, .int .i64 a), (28, .int .i64 m), (29, .int .i64 b), (10, .int .i64 b), (69, .bool q)] _
          subst hw9
          refine WX.next ?_
          refine WC.bool rfl (fun hqt => ?_) (fun hqf => ?_)
          · have hCB := hq.1 hqt
            have hsh := hP7.short
            have hmm : a * m ≤ 4096 * 4096 := Nat.mul_le_mul (by omega) (by omega)
            refine WC.region ?_
            refine WO.op rfl rfl rfl (R.move rfl) ?_
            refine WO.op rfl rfl rfl (R.move rfl) ?_
            refine WO.op rfl rfl rfl (R.move rfl) ?_
            refine WO.op rfl rfl rfl (R.build (v := .agg #[.int .i64 a, .int .i64 b]) [(0, _), (1, _)] rfl (fun _ => by kernel_rfl)) ?_
            refine WO.mem rfl rfl rfl (M.buildSlice (cs := encP ((a : Int), (b : Int))) [(0, _)] Try.runUnderlying22 Try.sizeOf49 Try.zeroValue49 (by decide) rfl (by kernel_rfl)) ?_
            rintro _ w10 ⟨b10, rfl, hb10, hs10, hB10, hk10⟩
            have hown10 := own_keep hown8 hk10 (fun _ _ h => h)
            refine WO.mem rfl rfl rfl (M.append Try.underlying22 Try.el49 rfl (by decide) rfl rfl hown10 rfl (Cells.add hB10.cells) (encP_one _) (by omega) (by omega)) ?_
            rintro va' w11 ⟨hown11, hfr11, hk11, _⟩
            have hsz7 := hk58.size
            have hsz8 := hk10.size
            refine WO.op rfl rfl rfl (R.assign rfl) ?_
            refine WO.nil (WX.blockN (WX.next (WC.region ?_)))
            refine WO.op rfl rfl rfl (R.add rfl rfl (wrap_i64_in (by omega))) ?_
            refine WO.op rfl rfl rfl (R.move rfl) ?_
            refine WO.nil ?_
            refine WX.back ((b + 1, acc ++ [((a : Int), (b : Int))], va')) (Sub.cons rfl (Sub.cons rfl (Sub.cons rfl (Sub.cons rfl (Sub.cons rfl (Sub.cons rfl (Sub.cons rfl (Sub.cons rfl Sub.nil)))))))) (⟨by omega, hP7.yes (by omega) hCB, ?_, ?_, ?_⟩) (by first | omega | (dsimp only; omega))
            · rw [List.length_append, List.flatMap_append]
              exact hown11
            · intro q hq'
              rcases hfr11 with h | ⟨q', h, h'⟩
              · exact hfr7 q (by rw [← h]; exact hq')
              · rw [h] at hq'; cases hq'; omega
            · exact (hk58.ext hk10).trans hk11 (fun q hq' h => by have := hfr7 q h; omega)
          ·
            refine WC.skip (WX.blockN (WX.next (WC.region ?_)))
            refine WO.op rfl rfl rfl (R.add rfl rfl (wrap_i64_in (by omega))) ?_
            refine WO.op rfl rfl rfl (R.move rfl) ?_
            refine WO.nil ?_
            refine WX.back ((b + 1, acc, va)) (Sub.cons rfl (Sub.cons rfl (Sub.cons rfl (Sub.cons rfl (Sub.cons rfl (Sub.cons rfl (Sub.cons rfl (Sub.cons rfl Sub.nil)))))))) (⟨by omega, hP7.no (fun h => by rw [hq.2 h] at hqf; cases hqf), hown8, hfr7, hk58⟩) (by first | omega | (dsimp only; omega))
    · have hb' : b = m := by omega
      subst hb'
      refine WC.exit (WX.thenE (WX.thenE (WX.hit (WX.blockN (WX.next (WC.region ?_))))))
      refine WO.op rfl rfl rfl (R.add rfl rfl (wrap_i64_in (by omega))) ?_
      refine WO.op rfl rfl rfl (R.move rfl) ?_
      refine WO.nil ?_
      refine WX.back ((a + 1, acc, va)) (Sub.cons rfl (Sub.cons rfl (Sub.cons rfl (Sub.cons rfl (Sub.cons rfl Sub.nil))))) (⟨by omega, hP7.next, hown7, hfr7, hk7⟩) (by first | omega | (dsimp only; omega))
  · have ha' : a = m := by omega
    subst ha'
    refine WC.exit (WX.thenE (WX.thenE (WX.hit (WX.next (WC.seq (WC.region ?_))))))
    refine WO.op rfl rfl rfl (R.move rfl) ?_
    refine WO.op rfl rfl rfl (R.assign rfl) ?_
    refine WO.nil (WX.next (WC.ret ?_))
    refine WX.ret1 Try.results22 rfl ⟨_, rfl, s, Mx, acc, hS, hM, hP, SlR.ofRowK (by omega) encP encP_len (fun x _ => rfl) hown (fun q hq => by have := hfr q hq; have := hE5.size; omega), hE5.ext hk6⟩

/-- The reversed graph of the reference is the program's. -/
theorem turned_eq {m : Nat} {es s s' : List (Int × Int)} (hall : es.all (Gr.okE m) = true) (hs : Turned es s) (hs' : PrP (fun x y => ((y : Int), (x : Int)) ∈ es) m m 0 s') : s = s' := by
  refine sorted_unique lexLt_irrefl lexLt_asymm _ _ hs.1 hs'.sorted (fun e => ?_)
  rw [hs.2.1, hs'.mem]
  constructor
  · intro h
    obtain ⟨x, hx, rfl⟩ := List.mem_map.1 h
    have := List.all_eq_true.1 hall x hx
    simp [Gr.okE] at this
    refine ⟨x.2.toNat, x.1.toNat, ?_, by omega, ?_, by omega⟩
    · rw [Int.toNat_of_nonneg (by omega), Int.toNat_of_nonneg (by omega)]
    · rw [Int.toNat_of_nonneg (by omega), Int.toNat_of_nonneg (by omega)]; exact hx
  · rintro ⟨x, y, rfl, h1, h2, h3⟩
    exact List.mem_map.2 ⟨_, h2, rfl⟩

theorem control_eq {m root : Nat} {es s : List (Int × Int)} {Rw : List (List Int)} {order : List Nat} {pl T : List Int} {M : List (List Bool)} {S acc : List (Int × Int)} (hsw : ∀ x y : Nat, ((x : Int), (y : Int)) ∈ s ↔ ((y : Int), (x : Int)) ∈ es) (h : Known m root s Rw order pl T) (hall : s.all (Gr.okE m) = true) (hM : DomMat s root m M)
    (hS : CtlList Rw root S) (hP : PrP (CB M es) m m 0 acc) : S = acc := by
  refine sorted_unique lexLt_irrefl lexLt_asymm _ _ hS.sorted hP.sorted (fun e => ?_)
  rw [hS.mem, hP.mem]
  constructor
  · rintro ⟨x, b, rfl, hF⟩
    obtain ⟨h1, h2, ⟨a, h3, h4⟩, h5⟩ := (front_dm h hall hM x b).1 hF
    exact ⟨b, x, rfl, h1, ⟨⟨a, (hsw a b).1 h3, h4⟩, fun hh => h5 ⟨fun e => hh.1 e.symm, hh.2⟩⟩, by omega⟩
  · rintro ⟨b, x, rfl, h1, ⟨⟨a, h3, h4⟩, h5⟩, h6⟩
    exact ⟨x, b, rfl, (front_dm h hall hM x b).2 ⟨h1, by omega, ⟨a, (hsw a b).2 h3, h4⟩, fun hh => h5 ⟨fun e => hh.1 e.symm, hh.2⟩⟩⟩

theorem lawPost_ok (n root : Int) (es : List (Int × Int)) (ev : Value) (D : Nat → Prop) (w : World) (hes : SlR 2 RPair D w ev es) : Calls Try.prog 5 #[.agg #[.int .i64 n, ev], .int .i64 root] w (Ret fun r w' => r = .bool true ∧ Ext w w') := by
  have hes' := hes
  obtain ⟨ao, cap, rfl, _⟩ := hes'
  refine calls Try.func5 rfl [(0, .agg #[.int .i64 n, .slice ao es.length cap]), (1, .int .i64 root)] 77 ⟨Nat.le_of_ble_eq_true rfl, Try.ntmps5⟩ (argsOk (Sub.cons rfl (Sub.cons rfl Sub.nil))) ?_
  refine WC.seq (WC.region ?_)
  refine WO.mem rfl rfl rfl (M.box rfl rfl) ?_
  rintro _ w1 ⟨b, rfl, hb, hs1, hB1, hk1⟩
  refine WO.op rfl rfl rfl (R.assign rfl) ?_
  refine WO.nil (WX.next (WC.seq (WC.seq (WC.region ?_))))
  refine WO.call rfl rfl rfl (F.call (vs := []) Try.call10 rfl) (known_ok w1) ?_
  rintro _ w2 ⟨rfl, hk2⟩
  have hB2 := hk2.blk hB1 (fun h => h)
  have hes2 := (hes.ext stable_pair hk1).ext stable_pair hk2
  refine WO.op rfl rfl rfl (R.not rfl) ?_
  refine WO.nil (WX.next ?_)
  refine WC.ff rfl (rfl) ?_
  refine WC.skip (WX.next (WC.seq (WC.seq (WC.region ?_))))
  refine WO.op rfl rfl rfl (R.loadK Try.isAgg24 Try.sizeOf24 rfl (by rfl) hB2.cells) ?_
  refine WO.call rfl rfl rfl (F.call (vs := [_]) Try.call11 rfl) (few_ok n es _ D w2 hes2) ?_
  rintro _ w3 ⟨rfl, hk3⟩
  have hB3 := hk3.blk hB2 (fun h => h)
  have hes3 := hes2.ext stable_pair hk3
  have hE3 := (hk1.ext hk2).ext hk3
  refine WO.op rfl rfl rfl (R.notD rfl) ?_
  refine WO.nil (WX.next ?_)
  refine WC.ite rfl (fun hf => ?_) (fun hf => ?_)
  ·
    refine WC.seq (WC.region ?_)
    refine WO.op rfl rfl rfl (R.assign rfl) ?_
    refine WO.nil (WX.next (WC.ret (WX.thenR ?_)))
    refine WX.ret1 Try.results5 rfl ⟨_, rfl, rfl, hE3⟩
  ·
    refine WC.skip (WX.next (WC.seq (WC.region ?_)))
    refine WO.op rfl rfl rfl (R.loadK Try.isAgg24 Try.sizeOf24 rfl (by rfl) hB3.cells) ?_
    refine WO.op rfl rfl rfl (R.move rfl) ?_
    refine WO.call rfl rfl rfl (F.call (vs := [_, _]) Try.call18 rfl) (post_ok n root es _ D w3 hes3) ?_
    rintro _ w4 ⟨u, rfl, hu0, hu1, hk4⟩
    have hB4 := hk4.blk hB3 (fun h => h)
    have hes4 := hes3.ext stable_pair hk4
    refine WO.op rfl rfl rfl (R.move rfl) ?_
    refine WO.op rfl rfl rfl (R.extract rfl rfl) ?_
    refine WO.op rfl rfl rfl (R.extract rfl rfl) ?_
    refine WO.op rfl rfl rfl (R.assign rfl) ?_
    refine WO.op rfl rfl rfl (R.assign rfl) ?_
    refine WO.nil (WX.next (WC.seq (WC.region ?_)))
    refine WO.op rfl rfl rfl (R.loadK Try.isAgg24 Try.sizeOf24 rfl (by rfl) hB4.cells) ?_
    refine WO.op rfl rfl rfl (R.move rfl) ?_
    refine WO.call rfl rfl rfl (F.call (vs := [_, _]) Try.call19 rfl) (control_ok n root es _ D w4 hes4 (by omega)) ?_
    rintro _ w5 ⟨u2, rfl, hv0, hv1, hk5⟩
    have hB5 := hk5.blk hB4 (fun h => h)
    have hes5 := hes4.ext stable_pair hk5
    refine WO.op rfl rfl rfl (R.move rfl) ?_
    refine WO.op rfl rfl rfl (R.extract rfl rfl) ?_
    refine WO.op rfl rfl rfl (R.extract rfl rfl) ?_
    refine WO.op rfl rfl rfl (R.assign rfl) ?_
    refine WO.op rfl rfl rfl (R.assign rfl) ?_
    refine WO.nil (WX.next (WC.seq (WC.seq (WC.region ?_))))
    refine WO.op rfl rfl rfl (R.loadK Try.isAgg24 Try.sizeOf24 rfl (by rfl) hB5.cells) ?_
    refine WO.op rfl rfl rfl (R.move rfl) ?_
    refine WO.call rfl rfl rfl (F.call (vs := [_, _]) Try.call13 rfl) (code_ok n root es _ D w5 hes5) ?_
    rintro _ w6 ⟨rfl, hk6⟩
    have hE6 := ((hE3.ext hk4).ext hk5).ext hk6
    have hB6 := hk6.blk hB5 (fun h => h)
    have hes6 := hes5.ext stable_pair hk6
    refine WO.op rfl rfl rfl (R.assign rfl) ?_
    refine WO.nil (WX.next (WC.seq (WC.region ?_)))
    refine WO.op rfl rfl rfl (R.move rfl) ?_
    refine WO.op rfl rfl rfl (R.neq rfl rfl) ?_
    refine WO.nil (WX.next ?_)
    refine WC.ite rfl (fun hc => ?_) (fun hc => ?_)
    · have hu := hu0 hc
      have hv := hv0 hc
      subst hu
      subst hv
      refine WC.seq (WC.region ?_)
      refine WO.op rfl rfl rfl (R.move rfl) ?_
      refine WO.op rfl rfl rfl (R.move rfl) ?_
      refine WO.op rfl rfl rfl (R.eql rfl rfl) ?_
      refine WO.op rfl rfl rfl (R.move rfl) ?_
      refine WO.yes rfl rfl (decide_eq_true rfl) ?_
      refine WO.op rfl rfl rfl (R.move rfl) ?_
      refine WO.yes rfl rfl (decide_eq_true rfl) ?_
      refine WO.op rfl rfl rfl (R.move rfl) ?_
      refine WO.yes rfl rfl (decide_eq_true rfl) ?_
      refine WO.op rfl rfl rfl (R.eql rfl rfl) ?_
      refine WO.op rfl rfl rfl (R.pickT rfl (decide_eq_true rfl) rfl) ?_
      refine WO.op rfl rfl rfl (R.move rfl) ?_
      refine WO.yes rfl rfl (decide_eq_true rfl) ?_
      refine WO.op rfl rfl rfl (R.move rfl) ?_
      refine WO.yes rfl rfl (decide_eq_true rfl) ?_
      refine WO.op rfl rfl rfl (R.lenS rfl Try.runUnderlying27 rfl) ?_
      refine WO.yes rfl rfl (decide_eq_true rfl) ?_
      refine WO.op rfl rfl rfl (R.eql rfl rfl) ?_
      refine WO.op rfl rfl rfl (R.pickT rfl (decide_eq_true rfl) rfl) ?_
      refine WO.op rfl rfl rfl (R.move rfl) ?_
      refine WO.yes rfl rfl (decide_eq_true rfl) ?_
      refine WO.op rfl rfl rfl (R.move rfl) ?_
      refine WO.yes rfl rfl (decide_eq_true rfl) ?_
      refine WO.op rfl rfl rfl (R.lenS rfl Try.runUnderlying22 rfl) ?_
      refine WO.yes rfl rfl (decide_eq_true rfl) ?_
      refine WO.op rfl rfl rfl (R.eql rfl rfl) ?_
      refine WO.op rfl rfl rfl (R.pickT rfl (decide_eq_true rfl) rfl) ?_
      refine WO.op rfl rfl rfl (R.assign rfl) ?_
      refine WO.nil (WX.next (WC.ret (WX.thenR ?_)))
      refine WX.ret1 Try.results5 rfl ⟨_, rfl, by simp, hE6⟩
    · have hc0 : codeOf n es root = 0 := by simpa using hc
      obtain ⟨s, Rw, order, pl, T, hTs, hK, hT⟩ := hu1 hc0
      obtain ⟨s', Rw', order', pl', T', S, hTs', hK', hS, hsS⟩ := hv1 hc0
      have hz := code_zero hc0
      obtain ⟨m, rfl⟩ := Int.eq_ofNat_of_zero_le (show 0 ≤ n by omega)
      obtain ⟨rt, rfl⟩ := Int.eq_ofNat_of_zero_le hz.2.1
      simp only [Int.toNat_natCast] at hK hK' hS
      have hall := (Gr.check_zero hz.1).2.2.2
      rw [hc0]
      refine WC.skip (WX.next (WC.seq (WC.region ?_)))
      refine WO.op rfl rfl rfl (R.loadK Try.isAgg24 Try.sizeOf24 rfl (by rfl) hB6.cells) ?_
      refine WO.call rfl rfl rfl (F.call (vs := [_]) Try.call20 rfl) (refReverse_ok m es _ D w6 hes6 hz.1) ?_
      rintro _ w7 ⟨vb, sb, rfl, hSb, hslb, hk7⟩
      have he1 := turned_eq hall hTs hSb
      have he2 := turned_eq hall hTs' hSb
      subst he1
      subst he2
      have hsall := (Gr.check_zero (check_turned hz.1 hTs)).2.2.2
      have hB7 := hk7.blk hB6 (fun h => h)
      obtain ⟨a7, c7, rfl⟩ : ∃ a7 c7, vb = .slice a7 s'.length c7 := by obtain ⟨ao, cap, rfl, _⟩ := hslb; exact ⟨_, _, rfl⟩
      refine WO.op rfl rfl rfl (R.move rfl) ?_
      refine WO.op rfl rfl rfl (R.extract rfl rfl) ?_
      refine WO.op rfl rfl rfl (R.extract rfl rfl) ?_
      refine WO.mem rfl rfl rfl (M.alloc (cs := _) Try.zeroValue24 rfl) ?_
      rintro _ w8 ⟨b8, rfl, hb8, hs8, hB8, hk8⟩
      refine WO.mem0 rfl rfl (M.storeK Try.sizeOf24 rfl rfl rfl rfl (by simp [Value.oneCell']) hB8 (by simp)) ?_
      rintro w9 ⟨hs9, hB9, hk9⟩
      have hk79 : Ext w7 w9 := hk8.trans hk9 (fun q hq h => by omega)
      have hE9 := (hE6.ext hk7).ext hk79
      refine WO.op rfl rfl rfl (R.assign rfl) ?_
      refine WO.nil (WX.next (WC.seq (WC.region ?_)))
      refine WO.op rfl rfl rfl (R.move rfl) ?_
      refine WO.op rfl rfl rfl (R.eql rfl rfl) ?_
      refine WO.op rfl rfl rfl (R.move rfl) ?_
      refine WO.yes rfl rfl rfl ?_
      refine WO.op rfl rfl rfl (R.move rfl) ?_
      refine WO.yes rfl rfl rfl ?_
      refine WO.op rfl rfl rfl (R.eql rfl rfl) ?_
      refine WO.op rfl rfl rfl (R.pickT rfl rfl rfl) ?_
      refine WO.op rfl rfl rfl (R.move rfl) ?_
      refine WO.yes rfl rfl rfl ?_
      refine WO.op rfl rfl rfl (R.move rfl) ?_
      refine WO.yes rfl rfl rfl ?_
      refine WO.op rfl rfl rfl (R.loadK Try.isAgg24 Try.sizeOf24 rfl (by rfl) hB9.cells) ?_
      refine WO.yes rfl rfl rfl ?_
      refine WO.op rfl rfl rfl (R.move rfl) ?_
      refine WO.yes rfl rfl rfl ?_
      refine WO.call rfl rfl rfl (F.call (vs := [_, _]) Try.call15 rfl) (refTree_ok m rt s' _ _ w9 (hslb.ext stable_pair hk79) (by omega) hsall (by omega)) ?_
      rintro u' w10 ⟨M', T2, hM, hT2, hsl2, hk10⟩
      have hTe := tree_unique hK hsall hM hT2
      subst hTe
      refine WO.yes rfl rfl rfl ?_
      refine WO.call rfl rfl rfl (F.call (vs := [_, _]) Try.call14 rfl) (same_ok T T u u' _ _ w10 (((((hT.ext stable_int hk5).ext stable_int hk6).ext stable_int hk7).ext stable_int hk79).ext stable_int hk10) hsl2) ?_
      rintro _ w11 ⟨rfl, hk11⟩
      refine WO.op rfl rfl rfl (R.pickT rfl rfl rfl) ?_
      refine WO.op rfl rfl rfl (R.move rfl) ?_
      have hk711 := (hk79.ext hk10).ext hk11
      have hB11 := hk711.blk hB7 (fun h => h)
      refine WO.yes rfl rfl (by simp) ?_
      refine WO.op rfl rfl rfl (R.move rfl) ?_
      refine WO.yes rfl rfl (by simp) ?_
      refine WO.op rfl rfl rfl (R.loadK Try.isAgg24 Try.sizeOf24 rfl (by rfl) hB11.cells) ?_
      refine WO.yes rfl rfl (by simp) ?_
      refine WO.op rfl rfl rfl (R.move rfl) ?_
      refine WO.yes rfl rfl (by simp) ?_
      refine WO.call rfl rfl rfl (F.call (vs := [_, _]) Try.call22 rfl) (refControl_ok m rt es _ D w11 ((hes6.ext stable_pair hk7).ext stable_pair hk711) hz.1 (by omega)) ?_
      rintro u3 w12 ⟨s2, M2, acc, hS2, hM2, hP, hsl3, hk12⟩
      have he3 := turned_eq hall hTs hS2
      subst he3
      have hsw : ∀ x y : Nat, ((x : Int), (y : Int)) ∈ s' ↔ ((y : Int), (x : Int)) ∈ es := by
        intro x y
        rw [hTs.2.1]
        constructor
        · intro h
          obtain ⟨f, hf, hf2⟩ := List.mem_map.1 h
          injection hf2 with hf3 hf4
          rw [← hf3, ← hf4]; exact hf
        · intro h; exact List.mem_map.2 ⟨_, h, rfl⟩
      have hce := control_eq hsw hK' hsall hM2 hS hP
      subst hce
      refine WO.yes rfl rfl (by simp) ?_
      refine WO.call rfl rfl rfl (F.call (vs := [_, _]) Try.call21 rfl) (samePairs_ok S S u2 u3 _ _ w12 ((((hsS.ext stable_pair hk6).ext stable_pair hk7).ext stable_pair hk711).ext stable_pair hk12) hsl3) ?_
      rintro _ w13 ⟨rfl, hk13⟩
      refine WO.op rfl rfl rfl (R.pickT rfl (by simp) rfl) ?_
      refine WO.op rfl rfl rfl (R.assign rfl) ?_
      refine WO.nil (WX.next (WC.ret ?_))
      refine WX.ret1 Try.results5 rfl ⟨_, rfl, by simp, (((hE6.ext hk7).ext hk711).ext hk12).ext hk13⟩
end Go.Proofs.Yteilalejfphkgaa
