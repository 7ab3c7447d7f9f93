/-
  The reference: dominates. Contract; nothing here is a claim.
-/
import Derived.Test.YteilalejfphkgaaT16
namespace Go.GL
theorem SlR.mapped {α β : Type} {k : Nat} {R : Rel β} {f : α → β} {D : Nat → Prop} {w : World} {v : Value} {l : List α} (h : SlR k (fun D w x cs => R D w (f x) cs) D w v l) : SlR k R D w v (l.map f) := by
  obtain ⟨ao, c, rfl, h1, h2, h3⟩ := h
  refine ⟨ao, c, by rw [List.length_map], by rw [List.length_map]; exact h1, h2, fun i x hx => ?_⟩
  rw [List.getElem?_map] at hx
  cases hy : l[i]? with
  | none => rw [hy] at hx; cases hx
  | some y =>
    rw [hy] at hx
    cases hx
    exact h3 i y hy
end Go.GL
namespace Go.Proofs.Yteilalejfphkgaa
open Go.GL Go.GL.Dom Go.GL.Dfs

/-- The matrix of dominance. -/
structure DomMat (es : List (Int × Int)) (root m : Nat) (M : List (List Bool)) : Prop where
  len : M.length = m
  row : ∀ (a : Nat) r, M[a]? = some r → r.length = m ∧ ∀ b : Nat, r[b]? = some true ↔ RE es root (-1) b ∧ ¬ RE es root (a : Int) b

def encR (m : Nat) (p : List Bool × Nat) : Value := .slice (some ⟨p.2, 0, none⟩) m m

theorem domMat_ok (m root : Nat) (es : List (Int × Int)) (ev : Value) (D : Nat → Prop) (w : World) (hes : SlR 2 RPair D w ev es) (hm : m ≤ 4096) (hall : es.all (Gr.okE m) = true) (hr : root < m) : Calls Try.prog 30 #[.agg #[.int .i64 m, ev], .int .i64 root] w (Ret fun u w' => ∃ M, DomMat es root m M ∧ SlR 1 (RSl 1 RBool) (fun b => w.heap.size ≤ b) w' u M ∧ Ext w w') := by
  have hes' := hes
  obtain ⟨ao, cap, rfl, hlc, hcm, _⟩ := hes'
  refine calls Try.func30 rfl [(0, .agg #[.int .i64 m, .slice ao es.length cap]), (1, .int .i64 root)] 52 ⟨Nat.le_of_ble_eq_true rfl, Try.ntmps30⟩ (argsOk (Sub.cons rfl (Sub.cons rfl Sub.nil))) ?_
  refine WC.seq (WC.region ?_)
  refine WO.mem rfl rfl rfl (M.box rfl rfl) ?_
  rintro _ w1 ⟨b, rfl, hb, hs1, hB1, hk1⟩
  refine WO.op rfl rfl rfl (R.assign rfl) ?_
  refine WO.nil (WX.next (WC.seq (WC.region ?_)))
  refine WO.op rfl rfl rfl (R.loadK Try.isAgg24 Try.sizeOf24 rfl (by rfl) hB1.cells) ?_
  refine WO.op rfl rfl rfl (R.move rfl) ?_
  refine WO.call rfl rfl rfl (F.call (vs := [_, _, _]) Try.call47 rfl) (reach_ok m root (-1) es _ D w1 (hes.ext stable_pair hk1) hm hall hr) ?_
  rintro _ w2 ⟨b0, bs0, rfl, hl0, hre0, hb0, hB0, hk2⟩
  have hBb2 := hk2.blk hB1 (fun h => h)
  have hE2 := hk1.ext hk2
  refine WO.op rfl rfl rfl (R.assign rfl) ?_
  refine WO.nil (WX.next (WC.seq (WC.region ?_)))
  refine WO.op rfl rfl rfl (R.assign rfl) ?_
  refine WO.nil (WX.next (WC.seq (WC.seq (WC.region ?_))))
  refine WO.op rfl rfl rfl (R.fieldAddr Try.runUnderlying24 rfl Try.sizeOf3 rfl) ?_
  refine WO.op rfl rfl rfl (R.load Try.isAgg3 rfl (hBb2.cells 0 _ rfl)) ?_
  refine WO.op rfl rfl rfl (R.move rfl) ?_
  refine WO.nil (WX.next (WC.block ?_))
  refine WC.loop (σ := Nat × Value × List (List Bool × Nat)) (fun ⟨k, v, L⟩ => [(2, .pointer (some ⟨b, 0, none⟩)), (1, .int .i64 root), (5, .slice (some ⟨b0, 0, none⟩) m m), (6, v), (15, .int .i64 m), (16, .int .i64 k)]) (fun ⟨k, v, L⟩ => fun w' => k ≤ m ∧ L.length = k ∧ w'.ownsRow 0 53 1 v k (L.map (encR m)) ∧ (∀ (i : Nat) p, L[i]? = some p → p.1.length = m ∧ (∀ c : Nat, p.1[c]? = some true ↔ RE es root (-1) c ∧ ¬ RE es root (i : Int) c) ∧ w.heap.size ≤ p.2 ∧ Blk w' p.2 (p.1.map .bool) 4 ∧ v.ownBlock ≠ some p.2) ∧ (∀ g, v.ownBlock = some g → w2.heap.size ≤ g) ∧ Ext w2 w') (fun ⟨k, v, L⟩ => m - k) ((0, .slice none 0 0, [])) (Sub.cons rfl (Sub.cons rfl (Sub.cons rfl (Sub.cons rfl (Sub.cons rfl (Sub.cons rfl Sub.nil)))))) (⟨Nat.zero_le _, rfl, own_nil _ _ _, fun i p h => by simp at h, fun g hg => by simp [Value.ownBlock] at hg, Keep.refl _ _⟩) ?_
  rintro ⟨k, v, L⟩ w3 ⟨hkm, hLk, hown, hL, hv, hk3⟩
  show WC _ _ _ _ [(2, .pointer (some ⟨b, 0, none⟩)), (1, .int .i64 root), (5, .slice (some ⟨b0, 0, none⟩) m m), (6, v), (15, .int .i64 m), (16, .int .i64 k)] _
  have hBb3 := hk3.blk hBb2 (fun h => h)
  refine WC.seq (WC.region ?_)
  refine WO.op rfl rfl rfl (R.lss rfl rfl) ?_
  refine WO.nil (WX.next (WC.seq ?_))
  refine WC.ite rfl (fun hlt => ?_) (fun hge => ?_)
  ·
    refine WC.skip (WX.next (WC.seq (WC.block (WC.seq (WC.region ?_)))))
    refine WO.op rfl rfl rfl (R.move rfl) ?_
    refine WO.op rfl rfl rfl (R.assign rfl) ?_
    refine WO.nil (WX.next (WC.seq (WC.region ?_)))
    refine WO.op rfl rfl rfl (R.fieldAddr Try.runUnderlying24 rfl Try.sizeOf3 rfl) ?_
    refine WO.op rfl rfl rfl (R.load Try.isAgg3 rfl (hBb3.cells 0 _ rfl)) ?_
    refine WO.mem rfl rfl rfl (M.make Try.underlying53 Try.el4 rfl rfl (by omega) (by omega) (made1 _ m rfl)) ?_
    rintro _ w4 ⟨br, rfl, hbr, hs4, hB4, hk4⟩
    have hBb4 := hk4.blk hBb3 (fun h => h)
    have hE4 := (hE2.ext hk3).ext hk4
    refine WO.op rfl rfl rfl (R.assign rfl) ?_
    refine WO.nil (WX.next (WC.seq (WC.region ?_)))
    refine WO.op rfl rfl rfl (R.loadK Try.isAgg24 Try.sizeOf24 rfl (by rfl) hBb4.cells) ?_
    refine WO.op rfl rfl rfl (R.move rfl) ?_
    refine WO.op rfl rfl rfl (R.move rfl) ?_
    refine WO.call rfl rfl rfl (F.call (vs := [_, _, _]) Try.call47 rfl) (reach_ok m root k es _ D w4 (hes.ext stable_pair hE4) hm hall hr) ?_
    rintro _ w5 ⟨b1, bs1, rfl, hl1, hre1, hb1, hB5, hk5⟩
    have hBb5 := hk5.blk hBb4 (fun h => h)
    have hBr5 : Blk w5 br ((List.replicate m false).map .bool) 4 := by rw [List.map_replicate]; exact hk5.blk hB4 (fun h => h)
    have hB05 := ((hk3.ext hk4).ext hk5).blk hB0 (fun h => h)
    have hbr1 : b1 ≠ br := by have := hB4.lt; omega
    have hbr0 : b0 ≠ br := by have := hB0.lt; have := hk3.size; omega
    refine WO.op rfl rfl rfl (R.assign rfl) ?_
    refine WO.nil (WX.next (WC.seq (WC.seq (WC.region ?_))))
    refine WO.op rfl rfl rfl (R.fieldAddr Try.runUnderlying24 rfl Try.sizeOf3 rfl) ?_
    refine WO.op rfl rfl rfl (R.load Try.isAgg3 rfl (hBb5.cells 0 _ rfl)) ?_
    refine WO.op rfl rfl rfl (R.move rfl) ?_
    refine WO.nil (WX.next (WC.block ?_))
    refine WC.loop (σ := Nat × List Bool) (fun ⟨j, row⟩ => [(2, .pointer (some ⟨b, 0, none⟩)), (1, .int .i64 root), (5, .slice (some ⟨b0, 0, none⟩) m m), (6, v), (15, .int .i64 m), (16, .int .i64 k), (8, .slice (some ⟨br, 0, none⟩) m m), (9, .slice (some ⟨b1, 0, none⟩) m m), (27, .int .i64 m), (28, .int .i64 j)]) (fun ⟨j, row⟩ => fun w' => j ≤ m ∧ row.length = m ∧ (∀ c : Nat, c < j → (row[c]? = some true ↔ RE es root (-1) c ∧ ¬ RE es root (k : Int) c)) ∧ Blk w' br (row.map .bool) 4 ∧ Keep (fun q => q = br) w5 w') (fun ⟨j, row⟩ => m - j) ((0, List.replicate m false)) (Sub.cons rfl (Sub.cons rfl (Sub.cons rfl (Sub.cons rfl (Sub.cons rfl (Sub.cons rfl (Sub.cons rfl (Sub.cons rfl (Sub.cons rfl (Sub.cons rfl Sub.nil)))))))))) (⟨Nat.zero_le _, by simp, fun c hc => absurd hc (Nat.not_lt_zero _), hBr5, Keep.refl _ _⟩) ?_
    rintro ⟨j, row⟩ w6 ⟨hjm, hrl, hrow, hBr6, hk6⟩
    show WC _ _ _ _ [(2, .pointer (some ⟨b, 0, none⟩)), (1, .int .i64 root), (5, .slice (some ⟨b0, 0, none⟩) m m), (6, v), (15, .int .i64 m), (16, .int .i64 k), (8, .slice (some ⟨br, 0, none⟩) m m), (9, .slice (some ⟨b1, 0, none⟩) m m), (27, .int .i64 m), (28, .int .i64 j)] _
    refine WC.seq (WC.region ?_)
    refine WO.op rfl rfl rfl (R.lss rfl rfl) ?_
    refine WO.nil (WX.next (WC.seq ?_))
    refine WC.ite rfl (fun hj => ?_) (fun hj => ?_)
    · obtain ⟨s0, hs0⟩ : ∃ s, bs0[j]? = some s := ⟨_, List.getElem?_eq_getElem (by omega)⟩
      obtain ⟨s1, hs1'⟩ : ∃ s, bs1[j]? = some s := ⟨_, List.getElem?_eq_getElem (by omega)⟩
      have hsv0 : (bs0.map Value.bool)[j]? = some (.bool s0) := by rw [List.getElem?_map, hs0]; rfl
      have hsv1 : (bs1.map Value.bool)[j]? = some (.bool s1) := by rw [List.getElem?_map, hs1']; rfl
      have hB06 := hk6.blk hB05 hbr0
      have hB16 := hk6.blk hB5 hbr1
      have hset : ∀ u : Bool, (u = true ↔ s0 = true ∧ ¬ s1 = true) → ∀ c : Nat, c < j + 1 → ((row.set j u)[c]? = some true ↔ RE es root (-1) c ∧ ¬ RE es root (k : Int) c) := by
        intro u hu c hc
        by_cases e : j = c
        · subst e
          rw [List.getElem?_set_self (by omega), ← hre0 j, ← hre1 j, hs0, hs1']
          simpa using hu
        · rw [List.getElem?_set_ne e]; exact hrow c (by omega)
      refine WC.skip (WX.next (WC.seq (WC.block (WC.seq (WC.region ?_)))))
      refine WO.op rfl rfl rfl (R.move rfl) ?_
      refine WO.op rfl rfl rfl (R.assign rfl) ?_
      refine WO.nil (WX.next (WC.region ?_))
      refine WO.op rfl rfl rfl (R.move rfl) ?_
      refine WO.op rfl rfl rfl (R.move rfl) ?_
      refine WO.op rfl rfl rfl (R.move rfl) ?_
      refine WO.op rfl rfl rfl (R.move rfl) ?_
      refine WO.op rfl rfl rfl (R.indexS Try.runUnderlying53 Try.sizeOf4 rfl rfl rfl (by omega)) ?_
      refine WO.op rfl rfl rfl (R.load Try.isAgg4 rfl (hB06.cells.el1 j rfl hsv0)) ?_
      refine WO.op rfl rfl rfl (R.move rfl) ?_
      refine WO.cases (p := s0 = true) (fun ht => ?_) (fun ht => ?_)
      · subst ht
        refine WO.yes rfl rfl rfl ?_
        refine WO.op rfl rfl rfl (R.move rfl) ?_
        refine WO.yes rfl rfl rfl ?_
        refine WO.op rfl rfl rfl (R.move rfl) ?_
        refine WO.yes rfl rfl rfl ?_
        refine WO.op rfl rfl rfl (R.indexS Try.runUnderlying53 Try.sizeOf4 rfl rfl rfl (by omega)) ?_
        refine WO.yes rfl rfl rfl ?_
        refine WO.op rfl rfl rfl (R.load Try.isAgg4 rfl (hB16.cells.el1 j rfl hsv1)) ?_
        refine WO.yes rfl rfl rfl ?_
        refine WO.op rfl rfl rfl (R.not rfl) ?_
        refine WO.op rfl rfl rfl (R.pickT rfl rfl rfl) ?_
        refine WO.op rfl rfl rfl (R.indexS Try.runUnderlying53 Try.sizeOf4 rfl rfl rfl (by omega)) ?_
        refine WO.mem0 rfl rfl (M.store Try.sizeOf4 rfl rfl rfl rfl hBr6 (by rw [List.length_map]; omega)) ?_
        rintro w7 ⟨hs7, hB7, hk7⟩
        rw [show 0 + (j : Int).toNat * 1 = j from by omega, ← List.map_set] at hB7
        refine WO.nil (WX.blockN (WX.next (WC.region ?_)))
        refine WO.op rfl rfl rfl (R.add rfl rfl (wrap_i64_in (by omega))) ?_
        refine WO.op rfl rfl rfl (R.move rfl) ?_
        refine WO.nil ?_
        refine WX.back ((j + 1, row.set j (!s1))) (Sub.cons rfl (Sub.cons rfl (Sub.cons rfl (Sub.cons rfl (Sub.cons rfl (Sub.cons rfl (Sub.cons rfl (Sub.cons rfl (Sub.cons rfl (Sub.cons rfl Sub.nil)))))))))) (⟨by omega, by rw [List.length_set]; exact hrl, hset _ (by cases s1 <;> simp), hB7, hk6.trans hk7 (fun _ _ h => h)⟩) (by first | omega | (dsimp only; omega))
      · have hsf : s0 = false := by simpa using ht
        subst hsf
        refine WO.no rfl rfl rfl rfl ?_
        refine WO.no rfl rfl rfl rfl ?_
        refine WO.no rfl rfl rfl rfl ?_
        refine WO.no rfl rfl rfl rfl ?_
        refine WO.no rfl rfl rfl rfl ?_
        refine WO.op rfl rfl rfl (R.pickF rfl rfl rfl) ?_
        refine WO.op rfl rfl rfl (R.indexS Try.runUnderlying53 Try.sizeOf4 rfl rfl rfl (by omega)) ?_
        refine WO.mem0 rfl rfl (M.store Try.sizeOf4 rfl rfl rfl rfl hBr6 (by rw [List.length_map]; omega)) ?_
        rintro w7 ⟨hs7, hB7, hk7⟩
        rw [show 0 + (j : Int).toNat * 1 = j from by omega, ← List.map_set] at hB7
        refine WO.nil (WX.blockN (WX.next (WC.region ?_)))
        refine WO.op rfl rfl rfl (R.add rfl rfl (wrap_i64_in (by omega))) ?_
        refine WO.op rfl rfl rfl (R.move rfl) ?_
        refine WO.nil ?_
        refine WX.back ((j + 1, row.set j false)) (Sub.cons rfl (Sub.cons rfl (Sub.cons rfl (Sub.cons rfl (Sub.cons rfl (Sub.cons rfl (Sub.cons rfl (Sub.cons rfl (Sub.cons rfl (Sub.cons rfl Sub.nil)))))))))) (⟨by omega, by rw [List.length_set]; exact hrl, hset _ (by simp), hB7, hk6.trans hk7 (fun _ _ h => h)⟩) (by first | omega | (dsimp only; omega))
    · have hj' : j = m := by omega
      subst hj'
      have hk36 : Ext w3 w6 := (hk4.ext hk5).trans hk6 (fun q hq h => by have h : q = br := h; omega)
      have hown6 := own_keep hown hk36 (fun _ _ h => h)
      obtain ⟨av, cv, rfl⟩ := own_form hown6
      refine WC.exit (WX.thenE (WX.thenE (WX.hit (WX.next (WC.region ?_)))))
      refine WO.op rfl rfl rfl (R.move rfl) ?_
      refine WO.op rfl rfl rfl (R.move rfl) ?_
      refine WO.mem rfl rfl rfl (M.buildSlice (cs := [.slice (some ⟨br, 0, none⟩) j j]) [(0, _)] Try.runUnderlying60 Try.sizeOf53 Try.zeroValue53 (by decide) rfl (by kernel_rfl)) ?_
      rintro _ w7 ⟨b7, rfl, hb7, hs7, hB7, hk7⟩
      have hown7 := own_keep hown6 hk7 (fun _ _ h => h)
      refine WO.mem rfl rfl rfl (M.append Try.underlying60 Try.el53 rfl (by decide) rfl rfl hown7 rfl (Cells.add hB7.cells) (by simp; rfl) (by omega) (by omega)) ?_
      rintro v' w8 ⟨hown8, hfr8, hk8, _⟩
      have hs36 := hk36.size
      have hvlt : ∀ g, (Value.slice av k cv).ownBlock = some g → g < w3.heap.size := fun g hg => own_lt hown hg
      have hv' : ∀ q, q < w7.heap.size → (Value.slice av k cv).ownBlock ≠ some q → v'.ownBlock ≠ some q := by
        intro q hq hne h
        rcases hfr8 with h1 | ⟨g', h1, h2⟩
        · rw [h1] at h; exact hne h
        · rw [h1] at h; cases h; omega
      have hw2 := hE2.size
      have hs23 := hk3.size
      refine WO.op rfl rfl rfl (R.assign rfl) ?_
      refine WO.nil (WX.blockN (WX.next (WC.region ?_)))
      refine WO.op rfl rfl rfl (R.add rfl rfl (wrap_i64_in (by omega))) ?_
      refine WO.op rfl rfl rfl (R.move rfl) ?_
      refine WO.nil ?_
      refine WX.back ((k + 1, v', L ++ [(row, br)])) (Sub.cons rfl (Sub.cons rfl (Sub.cons rfl (Sub.cons rfl (Sub.cons rfl (Sub.cons rfl Sub.nil)))))) (⟨by omega, by simp [hLk], ?_, ?_, ?_, ?_⟩) (by first | omega | (dsimp only; omega))
      · rw [List.map_append]; exact hown8
      · intro i p hp
        by_cases e : i < L.length
        · rw [List.getElem?_append_left e] at hp
          obtain ⟨h1, h2, h3, h4, h5⟩ := hL i p hp
          have h6 := h4.lt
          exact ⟨h1, h2, h3, hk8.blk ((hk36.ext hk7).blk h4 (fun h => h)) h5, hv' _ (by omega) h5⟩
        · rw [List.getElem?_append_right (by omega)] at hp
          have e2 : i = L.length := by
            have := (List.getElem?_eq_some_iff.1 hp).1
            simp at this; omega
          subst e2
          simp at hp
          subst hp
          have h5 : (Value.slice av k cv).ownBlock ≠ some br := fun h => by have := hvlt br h; omega
          have h6 := hBr6.lt
          refine ⟨hrl, fun c => ?_, by dsimp only; omega, hk8.blk (hk7.blk hBr6 (fun h => h)) h5, hv' br (by omega) h5⟩
          by_cases hc : c < j
          · rw [hLk]; exact hrow c hc
          · dsimp only
            rw [List.getElem?_eq_none (by omega)]
            constructor
            · intro h; cases h
            · rintro ⟨h, _⟩
              have := (hre0 c).2 h
              rw [List.getElem?_eq_none (by omega)] at this
              cases this
      · intro g hg
        rcases hfr8 with h1 | ⟨g', h1, h2⟩
        · rw [h1] at hg; exact hv g hg
        · rw [h1] at hg; cases hg; omega
      · exact (hk3.ext (hk36.ext hk7)).trans hk8 (fun q hq h => by have := hv q h; omega)
  · have hk' : k = m := by omega
    subst hk'
    have hw2 := hE2.size
    refine WC.exit (WX.thenE (WX.thenE (WX.hit (WX.next (WC.seq (WC.region ?_))))))
    refine WO.op rfl rfl rfl (R.move rfl) ?_
    refine WO.op rfl rfl rfl (R.assign rfl) ?_
    refine WO.nil (WX.next (WC.ret ?_))
    refine WX.ret1 Try.results30 rfl ⟨_, rfl, L.map Prod.fst, ⟨by rw [List.length_map, hLk], ?_⟩, ?_, hE2.ext hk3⟩
    · intro a r hr'
      rw [List.getElem?_map] at hr'
      cases hp : L[a]? with
      | none => rw [hp] at hr'; cases hr'
      | some p =>
        rw [hp] at hr'
        cases hr'
        obtain ⟨h1, h2, _⟩ := hL a p hp
        exact ⟨h1, h2⟩
    · refine SlR.mapped (SlR.ofRow1 (encR k) (fun p hp => ?_) hown (fun g hg => by have := hv g hg; omega))
      obtain ⟨i, hi⟩ := List.mem_iff_getElem?.1 hp
      obtain ⟨h1, _, h3, h4, _⟩ := hL i p hi
      exact ⟨_, rfl, SlR.ofBlk1 .bool (fun _ _ => rfl) h4 h3 (by rw [List.take_of_length_le (by rw [List.length_map]; omega)]) h1.symm (by omega) (by omega)⟩
end Go.Proofs.Yteilalejfphkgaa
