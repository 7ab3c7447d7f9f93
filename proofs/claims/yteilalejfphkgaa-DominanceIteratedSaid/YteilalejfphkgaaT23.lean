/-
  The reference's frontiers, and the law DominanceFrontiers: walks. Nothing here is a claim.
-/
import Derived.Test.YteilalejfphkgaaT22
namespace Go.Proofs.Yteilalejfphkgaa
open Go.GL Go.GL.Dom Go.GL.Dfs

/-- b is in the frontier of a, as the reference has it. -/
def FB (M : List (List Bool)) (es : List (Int × Int)) (a b : Nat) : Prop := (∃ c : Nat, ((c : Int), (b : Int)) ∈ es ∧ dm M a c) ∧ ¬ (a ≠ b ∧ dm M a b)
open Classical in
noncomputable def rowB (M : List (List Bool)) (es : List (Int × Int)) (a k : Nat) : List Int := ((List.range k).filter (fun b => decide (FB M es a b))).map (fun (b : Nat) => (b : Int))
section
variable {M : List (List Bool)} {es : List (Int × Int)} {a k m : Nat}
theorem rowB_yes (h : FB M es a k) : rowB M es a (k + 1) = rowB M es a k ++ [(k : Int)] := by
  unfold rowB
  rw [List.range_succ, List.filter_append, List.map_append]
  simp [h]
theorem rowB_no (h : ¬ FB M es a k) : rowB M es a (k + 1) = rowB M es a k := by
  unfold rowB
  rw [List.range_succ, List.filter_append, List.map_append]
  simp [h]
theorem rowB_mem (y : Int) : y ∈ rowB M es a k ↔ ∃ b : Nat, y = (b : Int) ∧ b < k ∧ FB M es a b := by
  unfold rowB
  simp only [List.mem_map, List.mem_filter, List.mem_range, decide_eq_true_eq]
  constructor
  · rintro ⟨b, ⟨h1, h2⟩, rfl⟩; exact ⟨b, rfl, h1, h2⟩
  · rintro ⟨b, rfl, h1, h2⟩; exact ⟨b, ⟨h1, h2⟩, rfl⟩
theorem rowB_len : (rowB M es a k).length ≤ k := by
  unfold rowB
  rw [List.length_map]
  exact Nat.le_trans (List.length_filter_le _ _) (by simp)
theorem rowB_sorted : (rowB M es a k).Pairwise (· < ·) := by
  unfold rowB
  rw [List.pairwise_map]
  exact (List.Pairwise.filter _ (List.pairwise_lt_range)).imp (fun h => by omega)

/-- The rows when b of row a are through. -/
structure FrP (M : List (List Bool)) (es : List (Int × Int)) (m a b : Nat) (rows : List (List Int)) : Prop where
  len : rows.length = m
  at_ : ∀ c, c < m → rows[c]? = some (rowB M es c (if c < a then m else if c = a then b else 0))
theorem FrP.start : FrP M es m 0 0 (List.replicate m []) := by
  refine ⟨by simp, fun c hc => ?_⟩
  rw [List.getElem?_replicate, if_pos hc]
  split
  · omega
  · split <;> rfl
theorem FrP.row {b : Nat} {rows : List (List Int)} (h : FrP M es m a b rows) (ha : a < m) : rows[a]? = some (rowB M es a b) := by
  have := h.at_ a ha
  simpa using this
theorem FrP.no {b : Nat} {rows : List (List Int)} (h : FrP M es m a b rows) (hn : ¬ FB M es a b) : FrP M es m a (b + 1) rows := by
  refine ⟨h.len, fun c hc => ?_⟩
  rw [h.at_ c hc]
  by_cases h1 : c < a
  · simp [h1]
  · by_cases h2 : c = a
    · subst h2; simp [rowB_no hn]
    · simp [h1, h2]
theorem FrP.yes {b : Nat} {rows : List (List Int)} (h : FrP M es m a b rows) (ha : a < m) (hn : FB M es a b) : FrP M es m a (b + 1) (rows.set a (rowB M es a b ++ [(b : Int)])) := by
  refine ⟨by simp [h.len], fun c hc => ?_⟩
  by_cases h2 : c = a
  · subst h2
    rw [List.getElem?_set_self (by rw [h.len]; exact ha)]
    simp [rowB_yes hn]
  · rw [List.getElem?_set_ne (fun h => h2 h.symm), h.at_ c hc]
    simp [h2]
theorem FrP.next {rows : List (List Int)} (h : FrP M es m a m rows) : FrP M es m (a + 1) 0 rows := by
  refine ⟨h.len, fun c hc => ?_⟩
  rw [h.at_ c hc]
  by_cases h1 : c < a
  · rw [if_pos h1, if_pos (by omega)]
  · by_cases h2 : c = a
    · subst h2; simp
    · rw [if_neg h1, if_neg h2, if_neg (by omega)]
      split <;> rfl
end

theorem refFront_ok (m root : Nat) (es : List (Int × Int)) (ev : Value) (D : Nat → Prop) (w : World) (hes : SlR 2 RPair D w ev es) (hm : m ≤ 4096) (hall : es.all (Gr.okE m) = true) (hr : root < m) : Calls Try.prog 17 #[.agg #[.int .i64 m, ev], .int .i64 root] w (Ret fun u w' => ∃ M rows, DomMat es root m M ∧ FrP M es m m 0 rows ∧ SlR 1 (RSl 1 RInt) (fun b => w.heap.size ≤ b) w' u rows ∧ Ext w w') := by
  have hes' := hes
  obtain ⟨ao, cap, rfl, hlc, hcm, hel⟩ := hes'
  have hed : ∀ e ∈ es, 0 ≤ e.1 ∧ e.1 < m ∧ 0 ≤ e.2 ∧ e.2 < m := by
    intro e he
    have := List.all_eq_true.1 hall e he
    simp [Gr.okE] at this
    omega
  refine calls Try.func17 rfl [(0, .agg #[.int .i64 m, .slice ao es.length cap]), (1, .int .i64 root)] 79 ⟨Nat.le_of_ble_eq_true rfl, Try.ntmps17⟩ (argsOk (Sub.cons rfl (Sub.cons rfl Sub.nil))) ?_
  refine WC.seq (WC.region ?_)
  refine WO.mem rfl rfl rfl (M.box rfl rfl) ?_
  rintro _ w1 ⟨g, rfl, hg, hs1, hB1, hk1⟩
  refine WO.op rfl rfl rfl (R.assign rfl) ?_
  refine WO.nil (WX.next (WC.seq (WC.region ?_)))
  refine WO.op rfl rfl rfl (R.loadK Try.isAgg24 Try.sizeOf24 rfl (by rfl) hB1.cells) ?_
  refine WO.op rfl rfl rfl (R.move rfl) ?_
  refine WO.call rfl rfl rfl (F.call (vs := [_, _]) Try.call30 rfl) (domMat_ok m root es _ D w1 (hes.ext stable_pair hk1) hm hall hr) ?_
  rintro _ w2 ⟨Mx, hM, hsl, hk2⟩
  have hBb2 := hk2.blk hB1 (fun h => h)
  have hE2 := hk1.ext hk2
  have hsl' := hsl
  obtain ⟨ua, uc, rfl, _⟩ := hsl'
  have hat := mat_at hsl hM.len (fun a r h => (hM.row a r h).1)
  refine WO.op rfl rfl rfl (R.assign rfl) ?_
  refine WO.nil (WX.next (WC.seq (WC.region ?_)))
  refine WO.op rfl rfl rfl (R.fieldAddr Try.runUnderlying24 rfl Try.sizeOf3 rfl) ?_
  refine WO.op rfl rfl rfl (R.load Try.isAgg3 rfl (hBb2.cells 0 _ rfl)) ?_
  refine WO.mem rfl rfl rfl (M.make Try.underlying35 Try.el27 rfl rfl (by omega) (by omega) (madeNil m)) ?_
  rintro _ w3 ⟨bt, rfl, hbt, hs3, hB3, hk3⟩
  have hBb3 := hk3.blk hBb2 (fun h => h)
  have hgbt : g ≠ bt := by have := hBb2.lt; omega
  have hM3 : Mat (Value.int .i64) 3 27 w3.heap.size w3 bt (List.replicate m (.slice none 0 0)) (List.replicate m ([] : List Int)) := Mat.start hB3
  have hE3 := hE2.ext hk3
  refine WO.op rfl rfl rfl (R.assign rfl) ?_
  refine WO.nil (WX.next (WC.seq (WC.seq (WC.region ?_))))
  refine WO.op rfl rfl rfl (R.fieldAddr Try.runUnderlying24 rfl Try.sizeOf3 rfl) ?_
  refine WO.op rfl rfl rfl (R.load Try.isAgg3 rfl (hBb3.cells 0 _ rfl)) ?_
  refine WO.op rfl rfl rfl (R.move rfl) ?_
  refine WO.nil (WX.next (WC.block ?_))
  refine WC.loop (σ := Nat × List Value × List (List Int)) (fun ⟨a, rv, rows⟩ => [(2, .pointer (some ⟨g, 0, none⟩)), (5, .slice ua Mx.length uc), (6, .slice (some ⟨bt, 0, none⟩) m m), (19, .int .i64 m), (20, .int .i64 a)]) (fun ⟨a, rv, rows⟩ => fun w' => a ≤ m ∧ FrP Mx es m a 0 rows ∧ Mat (Value.int .i64) 3 27 w3.heap.size w' bt rv rows ∧ Keep (fun q => q = bt) w3 w') (fun ⟨a, rv, rows⟩ => m - a) ((0, List.replicate m (.slice none 0 0), List.replicate m [])) (Sub.cons rfl (Sub.cons rfl (Sub.cons rfl (Sub.cons rfl (Sub.cons rfl Sub.nil))))) (⟨Nat.zero_le _, FrP.start, hM3, Keep.refl _ _⟩) ?_
  rintro ⟨a, rv, rows⟩ w4 ⟨ham, hF4, hM4, hk4⟩
  show WC _ _ _ _ [(2, .pointer (some ⟨g, 0, none⟩)), (5, .slice ua Mx.length uc), (6, .slice (some ⟨bt, 0, none⟩) m m), (19, .int .i64 m), (20, .int .i64 a)] _
  refine WC.seq (WC.region ?_)
  refine WO.op rfl rfl rfl (R.lss rfl rfl) ?_
  refine WO.nil (WX.next (WC.seq ?_))
  refine WC.ite rfl (fun hla => ?_) (fun hga => ?_)
  ·
    refine WC.skip (WX.next (WC.seq (WC.block (WC.seq (WC.region ?_)))))
    refine WO.op rfl rfl rfl (R.move rfl) ?_
    refine WO.op rfl rfl rfl (R.assign rfl) ?_
    refine WO.nil (WX.next (WC.seq (WC.region ?_)))
    refine WO.op rfl rfl rfl (R.fieldAddr Try.runUnderlying24 rfl Try.sizeOf3 rfl) ?_
    refine WO.op rfl rfl rfl (R.load Try.isAgg3 rfl ((hk4.blk hBb3 hgbt).cells 0 _ rfl)) ?_
    refine WO.op rfl rfl rfl (R.move rfl) ?_
    refine WO.nil (WX.next (WC.block ?_))
    obtain ⟨rowa, raa, rca, boa, ooa, hMa, hua, hca, hrowa⟩ := hat a (by omega)
    refine WC.loop (σ := Nat × List Value × List (List Int)) (fun ⟨b, rv, rows⟩ => [(2, .pointer (some ⟨g, 0, none⟩)), (5, .slice ua Mx.length uc), (6, .slice (some ⟨bt, 0, none⟩) m m), (19, .int .i64 m), (20, .int .i64 a), (7, .int .i64 a), (24, .int .i64 m), (25, .int .i64 b)]) (fun ⟨b, rv, rows⟩ => fun w' => b ≤ m ∧ FrP Mx es m a b rows ∧ Mat (Value.int .i64) 3 27 w3.heap.size w' bt rv rows ∧ Keep (fun q => q = bt) w3 w') (fun ⟨b, rv, rows⟩ => m - b) ((0, rv, rows)) (Sub.cons rfl (Sub.cons rfl (Sub.cons rfl (Sub.cons rfl (Sub.cons rfl (Sub.cons rfl (Sub.cons rfl (Sub.cons rfl Sub.nil)))))))) (⟨Nat.zero_le _, hF4, hM4, hk4⟩) ?_
    rintro ⟨b, rv, rows⟩ w5 ⟨hbm, hF5, hM5, hk5⟩
    show WC _ _ _ _ [(2, .pointer (some ⟨g, 0, none⟩)), (5, .slice ua Mx.length uc), (6, .slice (some ⟨bt, 0, none⟩) m m), (19, .int .i64 m), (20, .int .i64 a), (7, .int .i64 a), (24, .int .i64 m), (25, .int .i64 b)] _
    refine WC.seq (WC.region ?_)
    refine WO.op rfl rfl rfl (R.lss rfl rfl) ?_
    refine WO.nil (WX.next (WC.seq ?_))
    refine WC.ite rfl (fun hlb => ?_) (fun hgb => ?_)
    · have hk25 : Ext w2 w5 := hk3.trans hk5 (fun q hq h => by have h : q = bt := h; omega)
      have hE05 : Ext w w5 := hE2.ext hk25
      refine WC.skip (WX.next (WC.seq (WC.block (WC.seq (WC.region ?_)))))
      refine WO.op rfl rfl rfl (R.move rfl) ?_
      refine WO.op rfl rfl rfl (R.assign rfl) ?_
      refine WO.nil (WX.next (WC.seq (WC.region ?_)))
      refine WO.op rfl rfl rfl (R.assign rfl) ?_
      refine WO.nil (WX.next (WC.seq (WC.seq (WC.region ?_))))
      refine WO.op rfl rfl rfl (R.fieldAddr Try.runUnderlying24 rfl Try.sizeOf22 rfl) ?_
      refine WO.op rfl rfl rfl (R.load Try.isAgg22 rfl ((hk5.blk hBb3 hgbt).cells 1 _ rfl)) ?_
      refine WO.op rfl rfl rfl (R.lenS rfl Try.runUnderlying22 rfl) ?_
      refine WO.op rfl rfl rfl (R.move rfl) ?_
      refine WO.nil (WX.next (WC.block ?_))
      obtain ⟨sab, rbab, roab, hsab, hraab, hcab⟩ := hrowa b (by omega)
      refine WC.loop (σ := Nat × Bool) (fun ⟨j, p⟩ => [(2, .pointer (some ⟨g, 0, none⟩)), (5, .slice ua Mx.length uc), (6, .slice (some ⟨bt, 0, none⟩) m m), (19, .int .i64 m), (20, .int .i64 a), (7, .int .i64 a), (24, .int .i64 m), (25, .int .i64 b), (8, .int .i64 b), (9, .bool p), (29, .slice ao es.length cap), (30, .int .i64 es.length), (31, .int .i64 j)]) (fun ⟨j, p⟩ => fun w' => j ≤ es.length ∧ (p = true ↔ ∃ c : Nat, ((c : Int), (b : Int)) ∈ es.take j ∧ dm Mx a c) ∧ Ext w5 w') (fun ⟨j, p⟩ => es.length - j) ((0, false)) (Sub.cons rfl (Sub.cons rfl (Sub.cons rfl (Sub.cons rfl (Sub.cons rfl (Sub.cons rfl (Sub.cons rfl (Sub.cons rfl (Sub.cons rfl (Sub.cons rfl (Sub.cons rfl (Sub.cons rfl (Sub.cons rfl Sub.nil))))))))))))) (⟨Nat.zero_le _, by simp, Keep.refl _ _⟩) ?_
      rintro ⟨j, p⟩ w6 ⟨hje, hp, hk6⟩
      show WC _ _ _ _ [(2, .pointer (some ⟨g, 0, none⟩)), (5, .slice ua Mx.length uc), (6, .slice (some ⟨bt, 0, none⟩) m m), (19, .int .i64 m), (20, .int .i64 a), (7, .int .i64 a), (24, .int .i64 m), (25, .int .i64 b), (8, .int .i64 b), (9, .bool p), (29, .slice ao es.length cap), (30, .int .i64 es.length), (31, .int .i64 j)] _
      refine WC.seq (WC.region ?_)
      refine WO.op rfl rfl rfl (R.lss rfl rfl) ?_
      refine WO.nil (WX.next (WC.seq ?_))
      refine WC.ite rfl (fun hlj => ?_) (fun hgj => ?_)
      · obtain ⟨e, he⟩ : ∃ e, es[j]? = some e := ⟨_, List.getElem?_eq_getElem (by omega)⟩
        obtain ⟨be, oe, ce, hao, hDb, hcl, hcs, rfl⟩ := hel j e he
        have hee := hed e (List.mem_of_getElem? he)
        obtain ⟨c, hc⟩ : ∃ c : Nat, e.1 = (c : Int) := ⟨e.1.toNat, by omega⟩
        obtain ⟨sac, rbac, roac, hsac, hraac, hcac⟩ := hrowa c (by omega)
        have hstep : ∀ q : Bool, (q = true ↔ p = true ∨ (e.2 = (b : Int) ∧ sac = true)) → (q = true ↔ ∃ c : Nat, ((c : Int), (b : Int)) ∈ es.take (j + 1) ∧ dm Mx a c) := by
          intro q hq
          rw [hq, hp, ← dm_iff hMa hsac, List.take_add_one, he]
          constructor
          · rintro (⟨x, h1, h2⟩ | ⟨h1, h2⟩)
            · exact ⟨x, List.mem_append_left _ h1, h2⟩
            · exact ⟨c, List.mem_append_right _ (by simp [← hc, ← h1]), h2⟩
          · rintro ⟨x, h1, h2⟩
            rcases List.mem_append.1 h1 with h3 | h3
            · exact .inl ⟨x, h3, h2⟩
            · simp at h3
              refine .inr ⟨by rw [← h3], ?_⟩
              have : x = c := by have : (x : Int) = e.1 := by rw [← h3]
                                 omega
              rw [← this]; exact h2
        have hk26 := hk25.ext hk6
        refine WC.skip (WX.next (WC.seq (WC.block (WC.seq (WC.region ?_)))))
        refine WO.op rfl rfl rfl (R.indexS Try.runUnderlying22 Try.sizeOf49 rfl rfl hao (by omega)) ?_
        refine WO.op rfl rfl rfl (R.loadK Try.isAgg49 Try.sizeOf49 rfl (by rfl) ((hE2.ext hk26).cells hcs (fun h => h))) ?_
        refine WO.mem rfl rfl rfl (M.alloc (cs := _) Try.zeroValue49 rfl) ?_
        rintro _ w7 ⟨b7, rfl, hb7, hs7, hB7, hk7⟩
        refine WO.mem0 rfl rfl (M.storeK Try.sizeOf49 rfl rfl rfl rfl (encP_one e) hB7 (by simp)) ?_
        rintro w8 ⟨hs8, hB8, hk8⟩
        have hk68 : Ext w6 w8 := hk7.trans hk8 (fun q hq h => by omega)
        have hk28 := hk26.ext hk68
        refine WO.nil (WX.next (WC.seq ?_))
        refine WC.quiet (by kernel_rfl) (by kernel_rfl) ?_
        refine WQ.op rfl rfl rfl (fun w1 hw1 => R.indexA Try.runUnderlying49 Try.sizeOf3 rfl rfl (by omega)) ?_
        refine WQ.op rfl rfl rfl (fun w1 hw1 => R.load Try.isAgg3 rfl ((hw1.blk hB8 (fun h => h)).cells 1 _ rfl)) ?_
        refine WQ.op rfl rfl rfl (fun w1 hw1 => R.move rfl) ?_
        refine WQ.op rfl rfl rfl (fun w1 hw1 => R.eql rfl rfl) ?_
        refine WQ.op rfl rfl rfl (fun w1 hw1 => R.move rfl) ?_
        refine WQ.cases (p := e.2 = (b : Int)) (fun hb => ?_) (fun hb => ?_)
        ·
          refine WQ.yes rfl rfl (decide_eq_true hb) ?_
          refine WQ.op rfl rfl rfl (fun w1 hw1 => R.move rfl) ?_
          refine WQ.yes rfl rfl (decide_eq_true hb) ?_
          refine WQ.op rfl rfl rfl (fun w1 hw1 => R.move rfl) ?_
          refine WQ.yes rfl rfl (decide_eq_true hb) ?_
          refine WQ.op rfl rfl rfl (fun w1 hw1 => R.indexS Try.runUnderlying60 Try.sizeOf53 rfl rfl hua (by have := hM.len; omega)) ?_
          refine WQ.yes rfl rfl (decide_eq_true hb) ?_
          refine WQ.op rfl rfl rfl (fun w1 hw1 => R.load Try.isAgg53 rfl ((hk28.ext hw1).cell hca (fun h => h))) ?_
          refine WQ.yes rfl rfl (decide_eq_true hb) ?_
          refine WQ.op rfl rfl rfl (fun w1 hw1 => R.indexA Try.runUnderlying49 Try.sizeOf3 rfl rfl (by omega)) ?_
          refine WQ.yes rfl rfl (decide_eq_true hb) ?_
          refine WQ.op rfl rfl rfl (fun w1 hw1 => R.load Try.isAgg3 rfl ((hw1.blk hB8 (fun h => h)).cells 0 _ rfl)) ?_
          refine WQ.yes rfl rfl (decide_eq_true hb) ?_
          refine WQ.op rfl rfl rfl (fun w1 hw1 => R.indexS Try.runUnderlying53 Try.sizeOf4 rfl rfl hraac (by omega)) ?_
          refine WQ.yes rfl rfl (decide_eq_true hb) ?_
          refine WQ.op rfl rfl rfl (fun w1 hw1 => R.load Try.isAgg4 rfl (by rw [hc]; exact (hk28.ext hw1).cell hcac (fun h => h))) ?_
          refine WQ.op rfl rfl rfl (fun w1 hw1 => R.pickT rfl (decide_eq_true hb) rfl) ?_
          refine WQ.nil (fun w9 hk9 => ?_)
          have hk69 := hk6.ext (hk68.ext hk9)
          refine WX.next ?_
          refine WC.bool rfl (fun hs => ?_) (fun hs => ?_)
          ·
            refine WC.region ?_
            refine WO.op rfl rfl rfl (R.assign rfl) ?_
            refine WO.nil (WX.blockN (WX.next (WC.region ?_)))
            refine WO.op rfl rfl rfl (R.add rfl rfl (wrap_i64_in (by omega))) ?_
            refine WO.op rfl rfl rfl (R.move rfl) ?_
            refine WO.nil ?_
            refine WX.back ((j + 1, true)) (Sub.cons rfl (Sub.cons rfl (Sub.cons rfl (Sub.cons rfl (Sub.cons rfl (Sub.cons rfl (Sub.cons rfl (Sub.cons rfl (Sub.cons rfl (Sub.cons rfl (Sub.cons rfl (Sub.cons rfl (Sub.cons rfl Sub.nil))))))))))))) (⟨by omega, hstep true (by simp [hb, hs]), hk69⟩) (by first | omega | (dsimp only; omega))
          ·
            refine WC.skip (WX.blockN (WX.next (WC.region ?_)))
            refine WO.op rfl rfl rfl (R.add rfl rfl (wrap_i64_in (by omega))) ?_
            refine WO.op rfl rfl rfl (R.move rfl) ?_
            refine WO.nil ?_
            refine WX.back ((j + 1, p)) (Sub.cons rfl (Sub.cons rfl (Sub.cons rfl (Sub.cons rfl (Sub.cons rfl (Sub.cons rfl (Sub.cons rfl (Sub.cons rfl (Sub.cons rfl (Sub.cons rfl (Sub.cons rfl (Sub.cons rfl (Sub.cons rfl Sub.nil))))))))))))) (⟨by omega, hstep p (by simp [hs]), hk69⟩) (by first | omega | (dsimp only; omega))
        ·
          refine WQ.no rfl rfl (decide_eq_false hb) rfl ?_
          refine WQ.no rfl rfl (decide_eq_false hb) rfl ?_
          refine WQ.no rfl rfl (decide_eq_false hb) rfl ?_
          refine WQ.no rfl rfl (decide_eq_false hb) rfl ?_
          refine WQ.no rfl rfl (decide_eq_false hb) rfl ?_
          refine WQ.no rfl rfl (decide_eq_false hb) rfl ?_
          refine WQ.no rfl rfl (decide_eq_false hb) rfl ?_
          refine WQ.no rfl rfl (decide_eq_false hb) rfl ?_
          refine WQ.op rfl rfl rfl (fun w1 hw1 => R.pickF rfl (decide_eq_false hb) rfl) ?_
          refine WQ.nil (fun w9 hk9 => ?_)
          have hk69 := hk6.ext (hk68.ext hk9)
          refine WX.next ?_
          refine WC.ff rfl (rfl) ?_
          refine WC.skip (WX.blockN (WX.next (WC.region ?_)))
          refine WO.op rfl rfl rfl (R.add rfl rfl (wrap_i64_in (by omega))) ?_
          refine WO.op rfl rfl rfl (R.move rfl) ?_
          refine WO.nil ?_
          refine WX.back ((j + 1, p)) (Sub.cons rfl (Sub.cons rfl (Sub.cons rfl (Sub.cons rfl (Sub.cons rfl (Sub.cons rfl (Sub.cons rfl (Sub.cons rfl (Sub.cons rfl (Sub.cons rfl (Sub.cons rfl (Sub.cons rfl (Sub.cons rfl Sub.nil))))))))))))) (⟨by omega, hstep p (by simp [hb]), hk69⟩) (by first | omega | (dsimp only; omega))
      · have hje' : j = es.length := by omega
        subst hje'
        rw [List.take_length] at hp
        have hk36 := hk5.ext hk6
        have hM6 := hM5.ext hk6
        refine WC.exit (WX.thenE (WX.thenE (WX.hit (WX.next (WC.seq ?_)))))
        refine WC.cut (σ := Bool) (fun q => [(2, .pointer (some ⟨g, 0, none⟩)), (5, .slice ua Mx.length uc), (6, .slice (some ⟨bt, 0, none⟩) m m), (19, .int .i64 m), (20, .int .i64 a), (7, .int .i64 a), (24, .int .i64 m), (25, .int .i64 b), (8, .int .i64 b), (65, .bool q)]) (fun q => fun w' => (q = true ↔ FB Mx es a b) ∧ w' = w6) ?_ ?_
        ·
          refine WC.region ?_
          refine WO.op rfl rfl rfl (R.move rfl) ?_
          refine WO.op rfl rfl rfl (R.move rfl) ?_
          refine WO.cases (p := p = true) (fun hpt => ?_) (fun hpt => ?_)
          · subst hpt
            have hex := hp.1 rfl
            refine WO.yes rfl rfl rfl ?_
            refine WO.op rfl rfl rfl (R.move rfl) ?_
            refine WO.yes rfl rfl rfl ?_
            refine WO.op rfl rfl rfl (R.move rfl) ?_
            refine WO.yes rfl rfl rfl ?_
            refine WO.op rfl rfl rfl (R.neq rfl rfl) ?_
            refine WO.yes rfl rfl rfl ?_
            refine WO.op rfl rfl rfl (R.move rfl) ?_
            refine WO.cases (p := (a : Int) ≠ (b : Int)) (fun hab => ?_) (fun hab => ?_)
            · have hab' : a ≠ b := fun h => hab (by rw [h])
              refine WO.yes rfl rfl (decide_eq_true hab) ?_
              refine WO.op rfl rfl rfl (R.move rfl) ?_
              refine WO.yes rfl rfl (decide_eq_true hab) ?_
              refine WO.op rfl rfl rfl (R.move rfl) ?_
              refine WO.yes rfl rfl (decide_eq_true hab) ?_
              refine WO.op rfl rfl rfl (R.indexS Try.runUnderlying60 Try.sizeOf53 rfl rfl hua (by have := hM.len; omega)) ?_
              refine WO.yes rfl rfl (decide_eq_true hab) ?_
              refine WO.op rfl rfl rfl (R.load Try.isAgg53 rfl ((hk25.ext hk6).cell hca (fun h => h))) ?_
              refine WO.yes rfl rfl (decide_eq_true hab) ?_
              refine WO.op rfl rfl rfl (R.move rfl) ?_
              refine WO.yes rfl rfl (decide_eq_true hab) ?_
              refine WO.op rfl rfl rfl (R.indexS Try.runUnderlying53 Try.sizeOf4 rfl rfl hraab (by omega)) ?_
              refine WO.yes rfl rfl (decide_eq_true hab) ?_
              refine WO.op rfl rfl rfl (R.load Try.isAgg4 rfl ((hk25.ext hk6).cell hcab (fun h => h))) ?_
              refine WO.yes rfl rfl rfl ?_
              refine WO.op rfl rfl rfl (R.pickT rfl (decide_eq_true hab) rfl) ?_
              refine WO.yes rfl rfl rfl ?_
              refine WO.op rfl rfl rfl (R.not rfl) ?_
              refine WO.op rfl rfl rfl (R.pickT rfl rfl rfl) ?_
              refine WO.nil ?_
              refine WX.meet ((!sab)) (Sub.cons rfl (Sub.cons rfl (Sub.cons rfl (Sub.cons rfl (Sub.cons rfl (Sub.cons rfl (Sub.cons rfl (Sub.cons rfl (Sub.cons rfl (Sub.cons rfl Sub.nil)))))))))) (⟨by unfold FB; rw [dm_iff hMa hsab]; simp [hab', hex], rfl⟩)
            · have hab' : a = b := by omega
              refine WO.no rfl rfl (decide_eq_false hab) rfl ?_
              refine WO.no rfl rfl (decide_eq_false hab) rfl ?_
              refine WO.no rfl rfl (decide_eq_false hab) rfl ?_
              refine WO.no rfl rfl (decide_eq_false hab) rfl ?_
              refine WO.no rfl rfl (decide_eq_false hab) rfl ?_
              refine WO.no rfl rfl (decide_eq_false hab) rfl ?_
              refine WO.no rfl rfl (decide_eq_false hab) rfl ?_
              refine WO.yes rfl rfl rfl ?_
              refine WO.op rfl rfl rfl (R.pickF rfl (decide_eq_false hab) rfl) ?_
              refine WO.yes rfl rfl rfl ?_
              refine WO.op rfl rfl rfl (R.not rfl) ?_
              refine WO.op rfl rfl rfl (R.pickT rfl rfl rfl) ?_
              refine WO.nil ?_
              refine WX.meet (true) (Sub.cons rfl (Sub.cons rfl (Sub.cons rfl (Sub.cons rfl (Sub.cons rfl (Sub.cons rfl (Sub.cons rfl (Sub.cons rfl (Sub.cons rfl (Sub.cons rfl Sub.nil)))))))))) (⟨by unfold FB; simp [hab'] at hex ⊢; exact hex, rfl⟩)
          · have hpf : p = false := by simpa using hpt
            subst hpf
            refine WO.no rfl rfl rfl rfl ?_
            refine WO.no rfl rfl rfl rfl ?_
            refine WO.no rfl rfl rfl rfl ?_
            refine WO.no rfl rfl rfl rfl ?_
            refine WO.noU rfl rfl rfl ?_
            refine WO.noU rfl rfl rfl ?_
            refine WO.noU rfl rfl rfl ?_
            refine WO.noU rfl rfl rfl ?_
            refine WO.noU rfl rfl rfl ?_
            refine WO.noU rfl rfl rfl ?_
            refine WO.noU rfl rfl rfl ?_
            refine WO.no rfl rfl rfl rfl ?_
            refine WO.no rfl rfl rfl rfl ?_
            refine WO.op rfl rfl rfl (R.pickF rfl rfl rfl) ?_
            refine WO.nil ?_
            refine WX.meet (false) (Sub.cons rfl (Sub.cons rfl (Sub.cons rfl (Sub.cons rfl (Sub.cons rfl (Sub.cons rfl (Sub.cons rfl (Sub.cons rfl (Sub.cons rfl (Sub.cons rfl Sub.nil)))))))))) (⟨by unfold FB; rw [← hp]; simp, rfl⟩)
        ·
          rintro q w9 ⟨hq, hw9⟩
          show WX _ _ _ [(2, .pointer (some ⟨g, 0, none⟩)), (5, .slice ua Mx.length uc), (6, .slice (some ⟨bt, 0, none⟩) m m), (19, .int .i64 m), (20, .int .i64 a), (7, .int .i64 a), (24, .int .i64 m), (25, .int .i64 b), (8, .int .i64 b), (65, .bool q)] _
          subst hw9
          refine WX.next ?_
          refine WC.bool rfl (fun hqt => ?_) (fun hqf => ?_)
          · have hFB := hq.1 hqt
            have hm6 := hM6.at (i := a) (by rw [hF5.len]; omega)
            obtain ⟨v, r, hv, hr⟩ := hm6
            have hrr := hF5.row (show a < m by omega)
            rw [hr] at hrr
            cases hrr
            have hrl := rowB_len (M := Mx) (es := es) (a := a) (k := b)
            refine WC.region ?_
            refine WO.op rfl rfl rfl (R.move rfl) ?_
            refine WO.op rfl rfl rfl (R.move rfl) ?_
            refine WO.op rfl rfl rfl (R.move rfl) ?_
            refine WO.op rfl rfl rfl (R.move rfl) ?_
            refine WO.op rfl rfl rfl (R.indexS Try.runUnderlying35 Try.sizeOf27 rfl rfl rfl (by omega)) ?_
            refine WO.op rfl rfl rfl (R.load Try.isAgg27 rfl (hM6.out.cells.el1 a rfl hv)) ?_
            refine WO.op rfl rfl rfl (R.move rfl) ?_
            refine WO.mem rfl rfl rfl (M.buildSlice (cs := [.int .i64 b]) [(0, _)] Try.runUnderlying27 Try.sizeOf3 Try.zeroValue3 (by decide) rfl (by kernel_rfl)) ?_
            rintro _ w10 ⟨b10, rfl, hb10, hs10, hB10, hk10⟩
            have hM10 := hM6.ext hk10
            have hrow := hM10.row a v _ hv hr
            refine WO.mem rfl rfl rfl (M.append Try.underlying27 Try.el3 rfl (by decide) rfl rfl hrow rfl (Cells.add hB10.cells) (by simp; rfl) (by omega) (by omega)) ?_
            rintro v' w11 ⟨hown11, hfr11, hk11, _⟩
            obtain ⟨av, cv, rfl⟩ := own_form hown11
            have hbo11 : v.ownBlock ≠ some bt := fun h => (hM10.far a v bt hv h).2 rfl
            refine WO.op rfl rfl rfl (R.indexS Try.runUnderlying35 Try.sizeOf27 rfl rfl rfl (by omega)) ?_
            refine WO.mem0 rfl rfl (M.store Try.sizeOf27 rfl rfl rfl rfl (hk11.blk hM10.out hbo11) (by rw [hM10.len, hF5.len]; omega)) ?_
            rintro w12 hW12
            rw [show 0 + (a : Int).toNat * 1 = a from by omega] at hW12
            have hk1012 : Keep (fun q => v.ownBlock = some q ∨ q = bt) w10 w12 := (hk11.mono (fun _ _ h => .inl h)).trans hW12.2.2 (fun _ _ h => .inr h)
            have hsz3 := hk36.size
            have hsz10 := hk10.size
            have hMp := hM10.push (by omega) hv hr hown11 hfr11 hk11 hW12
            refine WO.nil (WX.blockN (WX.next (WC.region ?_)))
            refine WO.op rfl rfl rfl (R.add rfl rfl (wrap_i64_in (by omega))) ?_
            refine WO.op rfl rfl rfl (R.move rfl) ?_
            refine WO.nil ?_
            refine WX.back ((b + 1, rv.set a (.slice av ((rowB Mx es a b).length + 1) cv), rows.set a (rowB Mx es a b ++ [(b : Int)]))) (Sub.cons rfl (Sub.cons rfl (Sub.cons rfl (Sub.cons rfl (Sub.cons rfl (Sub.cons rfl (Sub.cons rfl (Sub.cons rfl Sub.nil)))))))) (⟨by omega, hF5.yes (by omega) hFB, hMp, ?_⟩) (by first | omega | (dsimp only; omega))
            exact (hk36.ext hk10).trans hk1012 (fun q hq' h => by rcases h with h | h <;> first | exact h | (have := (hM10.far a v q hv h).1; omega))
          ·
            refine WC.skip (WX.blockN (WX.next (WC.region ?_)))
            refine WO.op rfl rfl rfl (R.add rfl rfl (wrap_i64_in (by omega))) ?_
            refine WO.op rfl rfl rfl (R.move rfl) ?_
            refine WO.nil ?_
            refine WX.back ((b + 1, rv, rows)) (Sub.cons rfl (Sub.cons rfl (Sub.cons rfl (Sub.cons rfl (Sub.cons rfl (Sub.cons rfl (Sub.cons rfl (Sub.cons rfl Sub.nil)))))))) (⟨by omega, hF5.no (fun h => by rw [hq.2 h] at hqf; cases hqf), hM6, hk36⟩) (by first | omega | (dsimp only; omega))
    · have hb' : b = m := by omega
      subst hb'
      refine WC.exit (WX.thenE (WX.thenE (WX.hit (WX.blockN (WX.next (WC.region ?_))))))
      refine WO.op rfl rfl rfl (R.add rfl rfl (wrap_i64_in (by omega))) ?_
      refine WO.op rfl rfl rfl (R.move rfl) ?_
      refine WO.nil ?_
      refine WX.back ((a + 1, rv, rows)) (Sub.cons rfl (Sub.cons rfl (Sub.cons rfl (Sub.cons rfl (Sub.cons rfl Sub.nil))))) (⟨by omega, hF5.next, hM5, hk5⟩) (by first | omega | (dsimp only; omega))
  · have ha' : a = m := by omega
    subst ha'
    refine WC.exit (WX.thenE (WX.thenE (WX.hit (WX.next (WC.seq (WC.region ?_))))))
    refine WO.op rfl rfl rfl (R.move rfl) ?_
    refine WO.op rfl rfl rfl (R.assign rfl) ?_
    refine WO.nil (WX.next (WC.ret ?_))
    refine WX.ret1 Try.results17 rfl ⟨_, rfl, Mx, rows, hM, hF4, ?_, hE3.trans hk4 (fun q hq h => by have h : q = bt := h; have := hE2.size; omega)⟩
    exact hM4.sl (fun _ => rfl) (by have := hE2.size; omega) (fun i v g hv hg => by have := (hM4.far i v g hv hg).1; have := hE3.size; omega) (by rw [hF4.len]) (by rw [hF4.len]; omega) (by omega)

theorem front_eq {m root : Nat} {es : List (Int × Int)} {Rw : List (List Int)} {order : List Nat} {pl T : List Int} {M : List (List Bool)} {F rows : List (List Int)} (h : Known m root es Rw order pl T) (hall : es.all (Gr.okE m) = true) (hM : DomMat es root m M)
    (hF : FrontRows Rw root m F) (hP : FrP M es m m 0 rows) : F = rows := by
  apply List.ext_getElem?
  intro x
  by_cases hx : x < m
  · have h1 := hP.at_ x hx
    rw [if_pos hx] at h1
    obtain ⟨r, hr⟩ : ∃ r, F[x]? = some r := ⟨_, List.getElem?_eq_getElem (by rw [hF.len]; exact hx)⟩
    rw [h1, hr]
    congr 1
    refine sorted_unique (lt := fun a b : Int => a < b) (fun a h => by omega) (fun a b h h' => by omega) _ _ (hF.sorted x r hr) rowB_sorted (fun y => ?_)
    rw [hF.mem x r hr, rowB_mem]
    constructor
    · rintro ⟨b, rfl, hb⟩
      have := (front_dm h hall hM x b).1 hb
      exact ⟨b, rfl, this.2.1, this.2.2⟩
    · rintro ⟨b, rfl, h2, h3⟩
      exact ⟨b, rfl, (front_dm h hall hM x b).2 ⟨hx, h2, h3⟩⟩
  · rw [List.getElem?_eq_none (by rw [hF.len]; omega), List.getElem?_eq_none (by rw [hP.len]; omega)]

theorem lawFrontiers_ok (n root : Int) (es : List (Int × Int)) (ev : Value) (D : Nat → Prop) (w : World) (hes : SlR 2 RPair D w ev es) : Calls Try.prog 4 #[.agg #[.int .i64 n, ev], .int .i64 root] w (Ret fun r w' => r = .bool true ∧ Ext w w') := by
  have hes' := hes
  obtain ⟨ao, cap, rfl, _⟩ := hes'
  refine calls Try.func4 rfl [(0, .agg #[.int .i64 n, .slice ao es.length cap]), (1, .int .i64 root)] 62 ⟨Nat.le_of_ble_eq_true rfl, Try.ntmps4⟩ (argsOk (Sub.cons rfl (Sub.cons rfl Sub.nil))) ?_
  refine WC.seq (WC.region ?_)
  refine WO.mem rfl rfl rfl (M.box rfl rfl) ?_
  rintro _ w1 ⟨b, rfl, hb, hs1, hB1, hk1⟩
  refine WO.op rfl rfl rfl (R.assign rfl) ?_
  refine WO.nil (WX.next (WC.seq (WC.seq (WC.region ?_))))
  refine WO.call rfl rfl rfl (F.call (vs := []) Try.call10 rfl) (known_ok w1) ?_
  rintro _ w2 ⟨rfl, hk2⟩
  have hB2 := hk2.blk hB1 (fun h => h)
  have hes2 := (hes.ext stable_pair hk1).ext stable_pair hk2
  refine WO.op rfl rfl rfl (R.not rfl) ?_
  refine WO.nil (WX.next ?_)
  refine WC.ff rfl (rfl) ?_
  refine WC.skip (WX.next (WC.seq (WC.seq (WC.region ?_))))
  refine WO.op rfl rfl rfl (R.loadK Try.isAgg24 Try.sizeOf24 rfl (by rfl) hB2.cells) ?_
  refine WO.call rfl rfl rfl (F.call (vs := [_]) Try.call11 rfl) (few_ok n es _ D w2 hes2) ?_
  rintro _ w3 ⟨rfl, hk3⟩
  have hB3 := hk3.blk hB2 (fun h => h)
  have hes3 := hes2.ext stable_pair hk3
  have hE3 := (hk1.ext hk2).ext hk3
  refine WO.op rfl rfl rfl (R.notD rfl) ?_
  refine WO.nil (WX.next ?_)
  refine WC.ite rfl (fun hf => ?_) (fun hf => ?_)
  ·
    refine WC.seq (WC.region ?_)
    refine WO.op rfl rfl rfl (R.assign rfl) ?_
    refine WO.nil (WX.next (WC.ret (WX.thenR ?_)))
    refine WX.ret1 Try.results4 rfl ⟨_, rfl, rfl, hE3⟩
  ·
    refine WC.skip (WX.next (WC.seq (WC.region ?_)))
    refine WO.op rfl rfl rfl (R.loadK Try.isAgg24 Try.sizeOf24 rfl (by rfl) hB3.cells) ?_
    refine WO.op rfl rfl rfl (R.move rfl) ?_
    refine WO.call rfl rfl rfl (F.call (vs := [_, _]) Try.call16 rfl) (frontier_ok n root es _ D w3 hes3 (by omega)) ?_
    rintro _ w4 ⟨u, rfl, hu0, hu1, hk4⟩
    have hB4 := hk4.blk hB3 (fun h => h)
    have hes4 := hes3.ext stable_pair hk4
    refine WO.op rfl rfl rfl (R.move rfl) ?_
    refine WO.op rfl rfl rfl (R.extract rfl rfl) ?_
    refine WO.op rfl rfl rfl (R.extract rfl rfl) ?_
    refine WO.op rfl rfl rfl (R.assign rfl) ?_
    refine WO.op rfl rfl rfl (R.assign rfl) ?_
    refine WO.nil (WX.next (WC.seq (WC.seq (WC.region ?_))))
    refine WO.op rfl rfl rfl (R.loadK Try.isAgg24 Try.sizeOf24 rfl (by rfl) hB4.cells) ?_
    refine WO.op rfl rfl rfl (R.move rfl) ?_
    refine WO.call rfl rfl rfl (F.call (vs := [_, _]) Try.call13 rfl) (code_ok n root es _ D w4 hes4) ?_
    rintro _ w5 ⟨rfl, hk5⟩
    have hE5 := (hE3.ext hk4).ext hk5
    have hB5 := hk5.blk hB4 (fun h => h)
    have hes5 := hes4.ext stable_pair hk5
    refine WO.op rfl rfl rfl (R.assign rfl) ?_
    refine WO.nil (WX.next (WC.seq (WC.region ?_)))
    refine WO.op rfl rfl rfl (R.move rfl) ?_
    refine WO.op rfl rfl rfl (R.neq rfl rfl) ?_
    refine WO.nil (WX.next ?_)
    refine WC.ite rfl (fun hc => ?_) (fun hc => ?_)
    · have hu := hu0 hc
      subst hu
      refine WC.seq (WC.region ?_)
      refine WO.op rfl rfl rfl (R.move rfl) ?_
      refine WO.op rfl rfl rfl (R.move rfl) ?_
      refine WO.op rfl rfl rfl (R.eql rfl rfl) ?_
      refine WO.op rfl rfl rfl (R.move rfl) ?_
      refine WO.yes rfl rfl (decide_eq_true rfl) ?_
      refine WO.op rfl rfl rfl (R.move rfl) ?_
      refine WO.yes rfl rfl (decide_eq_true rfl) ?_
      refine WO.op rfl rfl rfl (R.lenS rfl Try.runUnderlying35 rfl) ?_
      refine WO.yes rfl rfl (decide_eq_true rfl) ?_
      refine WO.op rfl rfl rfl (R.eql rfl rfl) ?_
      refine WO.op rfl rfl rfl (R.pickT rfl (decide_eq_true rfl) rfl) ?_
      refine WO.op rfl rfl rfl (R.assign rfl) ?_
      refine WO.nil (WX.next (WC.ret (WX.thenR ?_)))
      refine WX.ret1 Try.results4 rfl ⟨_, rfl, by simp, hE5⟩
    · have hc0 : codeOf n es root = 0 := by simpa using hc
      obtain ⟨Rw, order, pl, T, Fr, hK, hF, hsF⟩ := hu1 hc0
      have hz := code_zero hc0
      obtain ⟨m, rfl⟩ := Int.eq_ofNat_of_zero_le (show 0 ≤ n by omega)
      obtain ⟨rt, rfl⟩ := Int.eq_ofNat_of_zero_le hz.2.1
      simp only [Int.toNat_natCast] at hK hF
      have hall := (Gr.check_zero hz.1).2.2.2
      rw [hc0]
      refine WC.skip (WX.next (WC.seq (WC.region ?_)))
      refine WO.op rfl rfl rfl (R.loadK Try.isAgg24 Try.sizeOf24 rfl (by rfl) hB5.cells) ?_
      refine WO.op rfl rfl rfl (R.move rfl) ?_
      refine WO.call rfl rfl rfl (F.call (vs := [_, _]) Try.call17 rfl) (refFront_ok m rt es _ D w5 hes5 (by omega) hall (by omega)) ?_
      rintro u' w6 ⟨M', rows, hM, hP, hsl, hk6⟩
      have hTe := front_eq hK hall hM hF hP
      subst hTe
      have hsF6 := ((hsF.ext (stable_sl stable_int) hk5).ext (stable_sl stable_int) hk6)
      obtain ⟨au, cu, rfl, _, _, helu⟩ := hsF6
      obtain ⟨av, cv, rfl, _, _, helv⟩ := hsl
      refine WO.op rfl rfl rfl (R.assign rfl) ?_
      refine WO.nil (WX.next (WC.seq (WC.seq (WC.region ?_))))
      refine WO.op rfl rfl rfl (R.move rfl) ?_
      refine WO.op rfl rfl rfl (R.neq rfl rfl) ?_
      refine WO.op rfl rfl rfl (R.move rfl) ?_
      refine WO.yes rfl rfl rfl ?_
      refine WO.op rfl rfl rfl (R.move rfl) ?_
      refine WO.yes rfl rfl rfl ?_
      refine WO.op rfl rfl rfl (R.lenS rfl Try.runUnderlying35 rfl) ?_
      refine WO.yes rfl rfl rfl ?_
      refine WO.op rfl rfl rfl (R.move rfl) ?_
      refine WO.yes rfl rfl rfl ?_
      refine WO.op rfl rfl rfl (R.lenS rfl Try.runUnderlying35 rfl) ?_
      refine WO.yes rfl rfl rfl ?_
      refine WO.op rfl rfl rfl (R.neq rfl rfl) ?_
      refine WO.op rfl rfl rfl (R.pickF rfl rfl rfl) ?_
      refine WO.nil (WX.next ?_)
      refine WC.ff rfl ((by simp)) ?_
      refine WC.skip (WX.next (WC.seq (WC.seq (WC.region ?_))))
      refine WO.op rfl rfl rfl (R.move rfl) ?_
      refine WO.op rfl rfl rfl (R.lenS rfl Try.runUnderlying35 rfl) ?_
      refine WO.op rfl rfl rfl (R.move rfl) ?_
      refine WO.nil (WX.next (WC.block ?_))
      refine WC.loop (σ := Nat) (fun k => [(5, .slice au Fr.length cu), (8, .slice av Fr.length cv), (47, .int .i64 Fr.length), (48, .int .i64 k)]) (fun k => fun w' => k ≤ Fr.length ∧ Ext w6 w') (fun k => Fr.length - k) (0) (Sub.cons rfl (Sub.cons rfl (Sub.cons rfl (Sub.cons rfl Sub.nil)))) (⟨Nat.zero_le _, Keep.refl _ _⟩) ?_
      rintro k w7 ⟨hkl, hk7⟩
      show WC _ _ _ _ [(5, .slice au Fr.length cu), (8, .slice av Fr.length cv), (47, .int .i64 Fr.length), (48, .int .i64 k)] _
      refine WC.seq (WC.region ?_)
      refine WO.op rfl rfl rfl (R.lss rfl rfl) ?_
      refine WO.nil (WX.next (WC.seq ?_))
      refine WC.ite rfl (fun hlt => ?_) (fun hge => ?_)
      · obtain ⟨r, hr⟩ : ∃ r, Fr[k]? = some r := ⟨_, List.getElem?_eq_getElem (by omega)⟩
        obtain ⟨b1, o1, c1, hao1, _, hcl1, hcs1, x1, rfl, hx1⟩ := helu k r hr
        obtain ⟨b2, o2, c2, hao2, _, hcl2, hcs2, x2, rfl, hx2⟩ := helv k r hr
        refine WC.skip (WX.next (WC.seq (WC.block (WC.seq (WC.region ?_)))))
        refine WO.op rfl rfl rfl (R.move rfl) ?_
        refine WO.op rfl rfl rfl (R.assign rfl) ?_
        refine WO.nil (WX.next (WC.seq ?_))
        refine WC.draw (fun w' => Ext w6 w') [] (by kernel_rfl) (fun w8 hE8 hh8 => ?_)
        have hE68 := hk7.ext hE8
        refine WD.takeW 0 rfl (by kernel_rfl) rfl rfl rfl (fun w1 => R.move rfl) ?_
        refine WD.takeW 1 rfl (by kernel_rfl) rfl rfl rfl (fun w1 => R.move rfl) ?_
        refine WD.takeW 2 rfl (by kernel_rfl) rfl rfl rfl (fun w1 => R.indexS Try.runUnderlying35 Try.sizeOf27 rfl rfl hao1 (by omega)) ?_
        refine WD.take 3 rfl (by kernel_rfl) rfl rfl rfl hE68 (fun w1 hw1 => R.load Try.isAgg27 rfl (hw1.cells hcs1 (fun h => h) 0 _ rfl)) ?_
        refine WD.takeW 4 rfl (by kernel_rfl) rfl rfl rfl (fun w1 => R.move rfl) ?_
        refine WD.takeW 5 rfl (by kernel_rfl) rfl rfl rfl (fun w1 => R.move rfl) ?_
        refine WD.takeW 6 rfl (by kernel_rfl) rfl rfl rfl (fun w1 => R.indexS Try.runUnderlying35 Try.sizeOf27 rfl rfl hao2 (by omega)) ?_
        refine WD.take 7 rfl (by kernel_rfl) rfl rfl rfl hE68 (fun w1 hw1 => R.load Try.isAgg27 rfl (hw1.cells hcs2 (fun h => h) 0 _ rfl)) ?_
        refine WD.call 8 rfl (by kernel_rfl) rfl rfl rfl (F.call (vs := [_, _]) Try.call14 rfl) (same_ok r r _ _ _ _ w8 (hx1.ext stable_int hE68) (hx2.ext stable_int hE68)) ?_
        rintro _ w9 ⟨rfl, hk9⟩
        refine ⟨fun _ => hE68.ext hk9, ?_⟩
        refine WD.takeW 9 rfl (by kernel_rfl) rfl rfl rfl (fun w1 => R.notD rfl) ?_
        refine WD.done (by kernel_rfl) ?_ _
        refine WX.next ?_
        refine WC.ff rfl ((by simp)) ?_
        refine WC.skip (WX.blockN (WX.next (WC.region ?_)))
        refine WO.op rfl rfl rfl (R.add rfl rfl (wrap_i64_in (by omega))) ?_
        refine WO.op rfl rfl rfl (R.move rfl) ?_
        refine WO.nil ?_
        refine WX.back (k + 1) (Sub.cons rfl (Sub.cons rfl (Sub.cons rfl (Sub.cons rfl Sub.nil)))) (⟨by omega, hE68.ext hk9⟩) (by first | omega | (dsimp only; omega))
      ·
        refine WC.exit (WX.thenE (WX.thenE (WX.hit (WX.next (WC.seq (WC.region ?_))))))
        refine WO.op rfl rfl rfl (R.assign rfl) ?_
        refine WO.nil (WX.next (WC.ret ?_))
        refine WX.ret1 Try.results4 rfl ⟨_, rfl, rfl, (hE5.ext hk6).ext hk7⟩
end Go.Proofs.Yteilalejfphkgaa
