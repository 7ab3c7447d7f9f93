/-
  How data lie in memory: slices over elements of k cells; D: the blocks that they may use. Nothing here is a claim.
-/
import Derived.Test.YteilalejfphkgaaDraw
namespace Go.GL

/-- How a value of α is laid in cells. -/
abbrev Rel (α : Type) := (Nat → Prop) → World → α → List Value → Prop

def SlR {α : Type} (k : Nat) (R : Rel α) (D : Nat → Prop) (w : World) (v : Value) (l : List α) : Prop :=
  ∃ ao cap, v = .slice ao l.length cap ∧ l.length ≤ cap ∧ cap ≤ 9223372036854775807 ∧
    ∀ i x, l[i]? = some x → ∃ b o cs, ao = some ⟨b, o, none⟩ ∧ D b ∧ cs.length = k ∧ Cells w b (o + i * k) cs ∧ R D w x cs

def RInt : Rel Int := fun _ _ x cs => cs = [.int .i64 x]
def RBool : Rel Bool := fun _ _ x cs => cs = [.bool x]
def RPair : Rel (Int × Int) := fun _ _ p cs => cs = [.int .i64 p.1, .int .i64 p.2]
def RSl {α : Type} (k : Nat) (R : Rel α) : Rel (List α) := fun D w l cs => ∃ v, cs = [v] ∧ SlR k R D w v l

/-- What lies in blocks of D lies on where these are kept. -/
def Stable {α : Type} (R : Rel α) : Prop := ∀ (D D' : Nat → Prop) (w w' : World), (∀ b, D b → D' b) → (∀ b, D b → b < w.heap.size → w'.heap[b]? = w.heap[b]?) → ∀ x cs, R D w x cs → R D' w' x cs

theorem Cells.same {w w' : World} {b o : Nat} {cs : List Value} (h : Cells w b o cs) (hk : b < w.heap.size → w'.heap[b]? = w.heap[b]?) : Cells w' b o cs := by
  intro j v hv
  have h1 := h j v hv
  have hlt := World.block_lt_of_cell? w _ h1
  rw [World.cell?_of_block (w := w) (hk hlt)]
  exact h1

theorem stable_int : Stable RInt := fun _ _ _ _ _ _ _ _ h => h
theorem stable_bool : Stable RBool := fun _ _ _ _ _ _ _ _ h => h
theorem stable_pair : Stable RPair := fun _ _ _ _ _ _ _ _ h => h
theorem SlR.stable {α : Type} {k : Nat} {R : Rel α} (hR : Stable R) {D D' : Nat → Prop} {w w' : World} (hD : ∀ b, D b → D' b) (hk : ∀ b, D b → b < w.heap.size → w'.heap[b]? = w.heap[b]?) {v : Value} {l : List α} (h : SlR k R D w v l) : SlR k R D' w' v l := by
  obtain ⟨ao, cap, rfl, h1, h2, h3⟩ := h
  refine ⟨ao, cap, rfl, h1, h2, fun i x hx => ?_⟩
  obtain ⟨b, o, cs, ha, hb, hl, hc, hr⟩ := h3 i x hx
  exact ⟨b, o, cs, ha, hD b hb, hl, hc.same (hk b hb), hR D D' w w' hD hk x cs hr⟩
theorem stable_sl {α : Type} {k : Nat} {R : Rel α} (hR : Stable R) : Stable (RSl k R) := by
  intro D D' w w' hD hk x cs ⟨v, hv, h⟩
  exact ⟨v, hv, h.stable hR hD hk⟩

theorem SlR.keep {α : Type} {k : Nat} {R : Rel α} (hR : Stable R) {D S : Nat → Prop} {w w' : World} {v : Value} {l : List α} (h : SlR k R D w v l) (hk : Keep S w w') (hS : ∀ b, D b → b < w.heap.size → ¬ S b) : SlR k R D w' v l :=
  h.stable hR (fun _ h => h) (fun b hb hlt => hk.block b hlt (hS b hb hlt))
theorem SlR.ext {α : Type} {k : Nat} {R : Rel α} (hR : Stable R) {D : Nat → Prop} {w w' : World} {v : Value} {l : List α} (h : SlR k R D w v l) (hk : Ext w w') : SlR k R D w' v l := h.keep hR hk (fun _ _ _ h => h)
theorem SlR.wide {α : Type} {k : Nat} {R : Rel α} (hR : Stable R) {D D' : Nat → Prop} {w : World} {v : Value} {l : List α} (h : SlR k R D w v l) (hD : ∀ b, D b → D' b) : SlR k R D' w v l := h.stable hR hD (fun _ _ _ => rfl)

theorem SlR.nil {α : Type} {k : Nat} {R : Rel α} {D : Nat → Prop} {w : World} : SlR k R D w (.slice none 0 0) ([] : List α) := ⟨none, 0, rfl, Nat.le_refl _, by omega, fun i x h => by simp at h⟩

/-- A whole block as a slice, its elements one behind the other. -/
theorem SlR.ofBlk {α : Type} {k : Nat} {R : Rel α} {D : Nat → Prop} {w : World} {b n cap : Nat} {cs : List Value} {e : TypeId} {l : List α} (hb : Blk w b cs e) (hD : D b) (hn : n = l.length) (hc : l.length ≤ cap) (hm : cap ≤ 9223372036854775807)
    (he : ∀ i x, l[i]? = some x → ∃ us, us.length = k ∧ (∀ j u, us[j]? = some u → cs[i * k + j]? = some u) ∧ R D w x us) : SlR k R D w (.slice (some ⟨b, 0, none⟩) n cap) l := by
  subst hn
  refine ⟨_, _, rfl, hc, hm, fun i x hx => ?_⟩
  obtain ⟨us, h1, h2, h3⟩ := he i x hx
  refine ⟨b, 0, us, rfl, hD, h1, ?_, h3⟩
  exact hb.cells.part (i * k) h2

/-- Elements of one cell each. -/
theorem SlR.ofBlk1 {α : Type} {R : Rel α} {D : Nat → Prop} {w : World} {b n cap : Nat} {cs : List Value} {e : TypeId} {l : List α} (enc : α → Value) (hR : ∀ x, x ∈ l → R D w x [enc x]) (hb : Blk w b cs e) (hD : D b) (hcs : cs.take n = l.map enc) (hn : n = l.length) (hc : l.length ≤ cap) (hm : cap ≤ 9223372036854775807) : SlR 1 R D w (.slice (some ⟨b, 0, none⟩) n cap) l := by
  refine SlR.ofBlk hb hD hn hc hm (fun i x hx => ⟨[enc x], rfl, ?_, hR x (List.mem_of_getElem? hx)⟩)
  intro j u hu
  cases j with
  | zero =>
    simp at hu
    subst hu
    have hlt : i < l.length := (List.getElem?_eq_some_iff.1 hx).1
    have h1 : (cs.take n)[i]? = some (enc x) := by rw [hcs]; simp [hx]
    rw [List.getElem?_take] at h1
    simp only [Nat.mul_one, Nat.add_zero]
    rw [if_pos (by omega)] at h1
    exact h1
  | succ j => simp at hu

/-- A row that the call owns, elements of one cell. -/
theorem SlR.ofRow1 {α : Type} {R : Rel α} {D : Nat → Prop} {w : World} {v : Value} {n : Nat} {e : TypeId} {l : List α} (enc : α → Value) (hR : ∀ x, x ∈ l → R D w x [enc x]) (h : w.ownsRow 0 e 1 v n (l.map enc)) (hD : ∀ g, v.ownBlock = some g → D g) : SlR 1 R D w v l := by
  obtain ⟨h1, h2⟩ := h
  have hn : l.length = n := by simpa using h1
  rcases h2 with ⟨rfl, rfl⟩ | ⟨g, cap, cur, rfl, _, hg, hnc, hcm, _, htake⟩
  · have : l = [] := List.eq_nil_of_length_eq_zero hn
    subst this
    exact SlR.nil
  · have hb : Blk w g cur.toList e := by unfold Blk; simpa using hg
    refine SlR.ofBlk1 enc hR hb (hD g rfl) (by simpa using htake) hn.symm (by omega) (by simpa [maxLen] using hcm)

/-- A row that the call owns, elements of k cells. -/
theorem SlR.ofRowK {α : Type} {k : Nat} {R : Rel α} {D : Nat → Prop} {w : World} {v : Value} {n : Nat} {e : TypeId} {l : List α} (hk : 0 < k) (enc : α → List Value) (hl : ∀ x, (enc x).length = k) (hR : ∀ x, x ∈ l → R D w x (enc x)) (h : w.ownsRow 0 e k v n (l.flatMap enc)) (hD : ∀ g, v.ownBlock = some g → D g) : SlR k R D w v l := by
  have flat : ∀ (l : List α), (l.flatMap enc).length = l.length * k := by
    intro l
    induction l with
    | nil => simp
    | cons x r ih => simp [hl, ih, Nat.add_mul, Nat.add_comm]
  have at' : ∀ (l : List α) (i : Nat) (x : α), l[i]? = some x → ∀ j u, (enc x)[j]? = some u → (l.flatMap enc)[i * k + j]? = some u := by
    intro l
    induction l with
    | nil => intro i x h; simp at h
    | cons y r ih =>
      intro i x hx j u hu
      have hj : j < k := by rw [← hl x]; exact (List.getElem?_eq_some_iff.1 hu).1
      cases i with
      | zero =>
        simp at hx
        subst hx
        simp only [List.flatMap_cons, Nat.zero_mul, Nat.zero_add]
        rw [List.getElem?_append_left (by rw [hl]; exact hj)]
        exact hu
      | succ i =>
        simp only [List.getElem?_cons_succ] at hx
        simp only [List.flatMap_cons]
        rw [List.getElem?_append_right (by rw [hl, Nat.succ_mul]; omega), hl]
        have := ih i x hx j u hu
        rw [show (i + 1) * k + j - k = i * k + j from by rw [Nat.succ_mul]; omega]
        exact this
  obtain ⟨h1, h2⟩ := h
  have hn : l.length = n := by
    rw [flat] at h1
    exact Nat.eq_of_mul_eq_mul_right hk h1
  rcases h2 with ⟨rfl, rfl⟩ | ⟨g, cap, cur, rfl, _, hg, hnc, hcm, _, htake⟩
  · have : l = [] := List.eq_nil_of_length_eq_zero hn
    subst this
    exact SlR.nil
  · have hb : Blk w g cur.toList e := by unfold Blk; simpa using hg
    refine SlR.ofBlk hb (hD g rfl) hn.symm (by omega) (by simpa [maxLen] using hcm) (fun i x hx => ⟨enc x, hl x, ?_, hR x (List.mem_of_getElem? hx)⟩)
    intro j u hu
    have h3 := at' l i x hx j u hu
    rw [← htake, List.getElem?_take] at h3
    split at h3
    · exact h3
    · cases h3

/-! rows that the call owns: what becomes of them -/
theorem own_keep {w w' : World} {S : Nat → Prop} {e : TypeId} {k : Nat} {v : Value} {n : Nat} {xs : List Value} (h : w.ownsRow 0 e k v n xs) (hk : Keep S w w') (hS : ∀ g, v.ownBlock = some g → ¬ S g) : w'.ownsRow 0 e k v n xs := by
  obtain ⟨h1, h2⟩ := h
  refine ⟨h1, ?_⟩
  rcases h2 with h2 | ⟨g, cap, cur, rfl, hb, hg, r⟩
  · exact .inl h2
  · refine .inr ⟨g, cap, cur, rfl, hb, ?_, r⟩
    rw [hk.block g (Array.getElem?_eq_some_iff.1 hg).1 (hS g rfl)]
    exact hg
theorem own_lt {w : World} {e : TypeId} {k : Nat} {v : Value} {n : Nat} {xs : List Value} (h : w.ownsRow 0 e k v n xs) {g : Nat} (hg : v.ownBlock = some g) : g < w.heap.size := (World.ownsRow.lt h g hg).2
theorem own_blk {w : World} {b n cap : Nat} {cs : List Value} {e : TypeId} {k : Nat} (h : Blk w b cs e) (hn : n ≤ cap) (hc : cap ≤ 9223372036854775807) (hl : cs.length = cap * k) : w.ownsRow 0 e k (.slice (some ⟨b, 0, none⟩) n cap) n (cs.take (n * k)) := by
  refine ⟨by rw [List.length_take, hl]; exact Nat.min_eq_left (Nat.mul_le_mul_right _ hn), .inr ⟨b, cap, cs.toArray, rfl, Nat.zero_le _, h, hn, by simpa [maxLen] using hc, by simpa using hl, by simp⟩⟩
theorem own_form {w : World} {e : TypeId} {k : Nat} {v : Value} {n : Nat} {xs : List Value} (h : w.ownsRow 0 e k v n xs) : ∃ ao c, v = .slice ao n c := by
  rcases h.2 with ⟨rfl, rfl⟩ | ⟨g, cap, cur, rfl, _⟩ <;> exact ⟨_, _, rfl⟩
theorem own_nil (w : World) (e : TypeId) (k : Nat) : w.ownsRow 0 e k (.slice none 0 0) 0 [] := World.ownsRow_nil w 0 e k


/-! elements of c cells each, one behind the other -/
section
variable {α : Type} {c : Nat} {enc : α → List Value}
theorem flat_len (hc : ∀ x, (enc x).length = c) : ∀ (L : List α), (L.flatMap enc).length = L.length * c
  | [] => by simp
  | x :: r => by simp [hc, flat_len hc r, Nat.add_mul, Nat.add_comm]
theorem flat_take (hc : ∀ x, (enc x).length = c) : ∀ (k : Nat) (L : List α), (L.flatMap enc).take (k * c) = (L.take k).flatMap enc
  | 0, L => by simp
  | k + 1, [] => by simp
  | k + 1, x :: r => by
    rw [List.take_succ_cons, List.flatMap_cons, List.flatMap_cons, Nat.succ_mul, Nat.add_comm, List.take_append, hc]
    rw [List.take_of_length_le (by rw [hc]; omega), show c + k * c - c = k * c from by omega, flat_take hc k r]
theorem flat_drop (hc : ∀ x, (enc x).length = c) : ∀ (k : Nat) (L : List α), (L.flatMap enc).drop (k * c) = (L.drop k).flatMap enc
  | 0, L => by simp
  | k + 1, [] => by simp
  | k + 1, x :: r => by
    rw [List.drop_succ_cons, List.flatMap_cons, Nat.succ_mul, Nat.add_comm, List.drop_append, hc]
    rw [List.drop_of_length_le (by rw [hc]; omega), show c + k * c - c = k * c from by omega, flat_drop hc k r, List.nil_append]
theorem flat_set (hc : ∀ x, (enc x).length = c) {L : List α} {k : Nat} (hk : k < L.length) (x : α) (sp : List Value) :
    (L.flatMap enc ++ sp).take (k * c) ++ enc x ++ (L.flatMap enc ++ sp).drop (k * c + c) = (L.set k x).flatMap enc ++ sp := by
  have hl := flat_len hc L
  have h1 : (k + 1) * c ≤ L.length * c := Nat.mul_le_mul_right _ hk
  have h2 : (k + 1) * c = k * c + c := Nat.succ_mul _ _
  rw [List.take_append_of_le_length (by omega), List.drop_append_of_le_length (by omega), flat_take hc, ← h2, flat_drop hc]
  rw [List.set_eq_take_append_cons_drop, if_pos hk]
  simp
theorem flat_at (hc : ∀ x, (enc x).length = c) {L : List α} {i : Nat} {x : α} (hx : L[i]? = some x) (sp : List Value) : ∀ j u, (enc x)[j]? = some u → (L.flatMap enc ++ sp)[i * c + j]? = some u := by
  obtain ⟨hi, rfl⟩ := List.getElem?_eq_some_iff.1 hx
  intro j u hu
  have hj : j < c := by rw [← hc L[i]]; exact (List.getElem?_eq_some_iff.1 hu).1
  have hl := flat_len hc L
  have h1 : (i + 1) * c ≤ L.length * c := Nat.mul_le_mul_right _ hi
  have h2 : (i + 1) * c = i * c + c := Nat.succ_mul _ _
  rw [List.getElem?_append_left (by omega), ← List.getElem?_drop, flat_drop hc, List.drop_eq_getElem_cons hi, List.flatMap_cons]
  rw [List.getElem?_append_left (by rw [hc]; exact hj)]
  exact hu
theorem flat_cells (hc : ∀ x, (enc x).length = c) {w : World} {b : Nat} {e : TypeId} {L : List α} {sp : List Value} (hb : Blk w b (L.flatMap enc ++ sp) e) {i : Nat} {x : α} (hx : L[i]? = some x) : Cells w b (0 + i * c) (enc x) :=
  hb.cells.part (i * c) (flat_at hc hx sp)

/-- An owned row that is not empty, laid open. -/
theorem own_open (hc : ∀ x, (enc x).length = c) (hc0 : 0 < c) {w : World} {e : TypeId} {v : Value} {n : Nat} {L : List α} (h : w.ownsRow 0 e c v n (L.flatMap enc)) (hL : L ≠ []) :
    ∃ g cap sp, v = .slice (some ⟨g, 0, none⟩) n cap ∧ n = L.length ∧ n ≤ cap ∧ cap ≤ 9223372036854775807 ∧ Blk w g (L.flatMap enc ++ sp) e ∧ (L.flatMap enc ++ sp).length = cap * c := by
  obtain ⟨h1, h2⟩ := h
  have hn : L.length = n := by
    rw [flat_len hc] at h1
    exact Nat.eq_of_mul_eq_mul_right hc0 h1
  rcases h2 with ⟨_, rfl⟩ | ⟨g, cap, cur, rfl, _, hg, hnc, hcm, hcs, htake⟩
  · exact absurd (List.eq_nil_of_length_eq_zero hn) hL
  · refine ⟨g, cap, cur.toList.drop (n * c), rfl, hn.symm, hnc, by simpa [maxLen] using hcm, ?_, ?_⟩
    · rw [← htake, List.take_append_drop]
      unfold Blk
      simpa using hg
    · rw [← htake, List.take_append_drop]
      simpa using hcs
theorem own_shut (hc : ∀ x, (enc x).length = c) {w : World} {e : TypeId} {g cap k : Nat} {L : List α} {sp : List Value} (hb : Blk w g (L.flatMap enc ++ sp) e) (hl : (L.flatMap enc ++ sp).length = cap * c) (hk : k ≤ L.length) (hkc : k ≤ cap) (hm : cap ≤ 9223372036854775807) :
    w.ownsRow 0 e c (.slice (some ⟨g, 0, none⟩) k cap) k ((L.take k).flatMap enc) := by
  have h := own_blk (k := c) hb hkc hm hl
  have h1 : k * c ≤ L.length * c := Nat.mul_le_mul_right _ hk
  rw [List.take_append_of_le_length (by rw [flat_len hc]; exact h1), flat_take hc] at h
  exact h
end

/-! elements of one cell -/
section
variable {α : Type} {f : α → Value}
theorem map_flat (l : List α) : l.map f = l.flatMap (fun x => [f x]) := by
  induction l with
  | nil => rfl
  | cons x r ih => simp [ih]
theorem own_open1 {w : World} {e : TypeId} {v : Value} {n : Nat} {L : List α} (h : w.ownsRow 0 e 1 v n (L.map f)) (hL : L ≠ []) :
    ∃ g cap sp, v = .slice (some ⟨g, 0, none⟩) n cap ∧ n = L.length ∧ n ≤ cap ∧ cap ≤ 9223372036854775807 ∧ Blk w g (L.map f ++ sp) e ∧ (L.map f ++ sp).length = cap := by
  rw [map_flat] at h
  obtain ⟨g, cap, sp, h1, h2, h3, h4, h5, h6⟩ := own_open (c := 1) (fun _ => rfl) (by decide) h hL
  rw [← map_flat] at h5 h6
  exact ⟨g, cap, sp, h1, h2, h3, h4, h5, by rw [h6, Nat.mul_one]⟩
theorem own_shut1 {w : World} {e : TypeId} {g cap : Nat} {L : List α} {sp : List Value} (hb : Blk w g (L.map f ++ sp) e) (hl : (L.map f ++ sp).length = cap) (hm : cap ≤ 9223372036854775807) :
    w.ownsRow 0 e 1 (.slice (some ⟨g, 0, none⟩) L.length cap) L.length (L.map f) := by
  have h := own_blk (k := 1) (n := L.length) hb (by rw [← hl]; simp) hm (by rw [hl, Nat.mul_one])
  rw [Nat.mul_one, List.take_append_of_le_length (by simp), List.take_of_length_le (by simp)] at h
  exact h
theorem own_len1 {w : World} {e : TypeId} {v : Value} {n : Nat} {L : List α} (h : w.ownsRow 0 e 1 v n (L.map f)) : n = L.length := by
  have := h.1
  simpa using this.symm
end

/-! a list of rows under construction: the outer block, and a row of its own for each entry -/
structure Mat {α : Type} (enc : α → Value) (e eo : TypeId) (B : Nat) (w : World) (bo : Nat) (rv : List Value) (rows : List (List α)) : Prop where
  out : Blk w bo rv eo
  len : rv.length = rows.length
  row : ∀ (i : Nat) (v : Value) (r : List α), rv[i]? = some v → rows[i]? = some r → w.ownsRow 0 e 1 v r.length (r.map enc)
  far : ∀ (i : Nat) (v : Value) (g : Nat), rv[i]? = some v → v.ownBlock = some g → B ≤ g ∧ g ≠ bo
  apart : ∀ (i j : Nat) (vi vj : Value) (g : Nat), i ≠ j → rv[i]? = some vi → rv[j]? = some vj → vi.ownBlock = some g → vj.ownBlock ≠ some g

section
variable {α : Type} {enc : α → Value} {e eo : TypeId} {B : Nat} {w w' w1 w2 : World} {bo : Nat} {rv : List Value} {rows : List (List α)}
theorem Mat.keep {S : Nat → Prop} (h : Mat enc e eo B w bo rv rows) (hk : Keep S w w') (hbo : ¬ S bo) (hS : ∀ (i : Nat) v g, rv[i]? = some v → v.ownBlock = some g → ¬ S g) : Mat enc e eo B w' bo rv rows :=
  ⟨hk.blk h.out hbo, h.len, fun i v r hv hr => own_keep (h.row i v r hv hr) hk (fun g hg => hS i v g hv hg), h.far, h.apart⟩
theorem Mat.ext (h : Mat enc e eo B w bo rv rows) (hk : Ext w w') : Mat enc e eo B w' bo rv rows := h.keep hk (fun h => h) (fun _ _ _ _ _ h => h)
theorem Mat.at (h : Mat enc e eo B w bo rv rows) {i : Nat} (hi : i < rows.length) : ∃ v r, rv[i]? = some v ∧ rows[i]? = some r :=
  ⟨_, _, List.getElem?_eq_getElem (by rw [h.len]; exact hi), List.getElem?_eq_getElem hi⟩
theorem Mat.blk (h : Mat enc e eo B w bo rv rows) {i : Nat} {v : Value} {g : Nat} (hv : rv[i]? = some v) (hg : v.ownBlock = some g) : g < w.heap.size := by
  have hi : i < rows.length := by rw [← h.len]; exact (List.getElem?_eq_some_iff.1 hv).1
  exact own_lt (h.row i v _ hv (List.getElem?_eq_getElem hi)) hg

/-- A row has grown by an append; its new header has been stored. -/
theorem Mat.push (h : Mat enc e eo B w bo rv rows) (hB : B ≤ w.heap.size) {i : Nat} {v v' : Value} {r : List α} {x : α} (hv : rv[i]? = some v) (_hr : rows[i]? = some r)
    (hown : w1.ownsRow 0 e 1 v' (r.length + 1) (r.map enc ++ [enc x])) (hfr : v'.ownBlock = v.ownBlock ∨ ∃ g, v'.ownBlock = some g ∧ w.heap.size ≤ g) (hk : Keep (fun q => v.ownBlock = some q) w w1)
    (hst : Wrote w1 bo (rv.set i v') eo w2) : Mat enc e eo B w2 bo (rv.set i v') (rows.set i (r ++ [x])) := by
  obtain ⟨hs2, hB2, hk2⟩ := hst
  have hbo := h.out.lt
  have hnew : ∀ g, v'.ownBlock = some g → B ≤ g ∧ g ≠ bo ∧ (v.ownBlock = some g ∨ w.heap.size ≤ g) := by
    intro g hg
    rcases hfr with h1 | ⟨g', h1, h2⟩
    · rw [h1] at hg
      have := h.far i v g hv hg
      exact ⟨this.1, this.2, .inl hg⟩
    · rw [h1] at hg
      cases hg
      exact ⟨by omega, by omega, .inr h2⟩
  have hi : i < rv.length := (List.getElem?_eq_some_iff.1 hv).1
  refine ⟨hB2, by simp [h.len], ?_, ?_, ?_⟩
  · intro j u s hu hs
    by_cases hij : i = j
    · subst hij
      rw [List.getElem?_set_self hi] at hu
      rw [List.getElem?_set_self (by rw [← h.len]; exact hi)] at hs
      cases hu; cases hs
      have h1 := own_keep hown hk2 (fun g hg h => by have := (hnew g hg).2.1; exact this h)
      simpa using h1
    · rw [List.getElem?_set_ne hij] at hu hs
      have h1 := h.row j u s hu hs
      have h2 := own_keep h1 hk (fun g hg hv' => h.apart i j v u g hij hv hu hv' hg)
      exact own_keep h2 hk2 (fun g hg h' => (h.far j u g hu hg).2 h')
  · intro j u g hu hg
    by_cases hij : i = j
    · subst hij
      rw [List.getElem?_set_self hi] at hu
      cases hu
      exact ⟨(hnew g hg).1, (hnew g hg).2.1⟩
    · rw [List.getElem?_set_ne hij] at hu
      exact h.far j u g hu hg
  · intro j k u s g hjk hu hs hg hg'
    by_cases hij : i = j
    · subst hij
      rw [List.getElem?_set_self hi] at hu
      rw [List.getElem?_set_ne hjk] at hs
      cases hu
      rcases (hnew g hg).2.2 with h1 | h1
      · exact h.apart i k v s g hjk hv hs h1 hg'
      · have := h.blk hs hg'; omega
    · rw [List.getElem?_set_ne hij] at hu
      by_cases hik : i = k
      · subst hik
        rw [List.getElem?_set_self hi] at hs
        cases hs
        rcases (hnew g hg').2.2 with h1 | h1
        · exact h.apart i j v u g hij hv hu h1 hg
        · have := h.blk hu hg; omega
      · rw [List.getElem?_set_ne hik] at hs
        exact h.apart j k u s g hjk hu hs hg hg'

/-- It reads as a slice of slices. -/
theorem Mat.sl {R : Rel α} {D : Nat → Prop} (h : Mat enc e eo B w bo rv rows) (hR : ∀ x, R D w x [enc x]) (hbo : D bo) (hD : ∀ (i : Nat) v g, rv[i]? = some v → v.ownBlock = some g → D g) {n cap : Nat} (hn : n = rows.length) (hc : rows.length ≤ cap) (hm : cap ≤ 9223372036854775807) : SlR 1 (RSl 1 R) D w (.slice (some ⟨bo, 0, none⟩) n cap) rows := by
  refine SlR.ofBlk h.out hbo hn hc hm (fun i r hr => ?_)
  have hi : i < rows.length := (List.getElem?_eq_some_iff.1 hr).1
  obtain ⟨v, r', hv, hr'⟩ := h.at hi
  rw [hr] at hr'
  cases hr'
  refine ⟨[v], rfl, ?_, v, rfl, ?_⟩
  · intro j u hu
    cases j with
    | zero => simp at hu; subst hu; simpa using hv
    | succ j => simp at hu
  · exact SlR.ofRow1 enc (fun x _ => hR x) (h.row i v r hv hr) (fun g hg => hD i v g hv hg)

/-- At the start: nil rows. -/
theorem Mat.start {n : Nat} (hb : Blk w bo (List.replicate n (.slice none 0 0)) eo) : Mat enc e eo B w bo (List.replicate n (.slice none 0 0)) (List.replicate n ([] : List α)) := by
  have hnil : ∀ (i : Nat) v, (List.replicate n (Value.slice none 0 0))[i]? = some v → v = .slice none 0 0 := by
    intro i v hv
    have := List.mem_of_getElem? hv
    exact List.eq_of_mem_replicate this
  refine ⟨hb, by simp, ?_, ?_, ?_⟩
  · intro i v r hv hr
    have h1 := hnil i v hv
    have h2 := List.eq_of_mem_replicate (List.mem_of_getElem? hr)
    subst h1; subst h2
    exact own_nil _ _ _
  · intro i v g hv hg
    rw [hnil i v hv] at hg; simp [Value.ownBlock] at hg
  · intro i j vi vj g _ hvi _ hg
    rw [hnil i vi hvi] at hg; simp [Value.ownBlock] at hg
end
end Go.GL
