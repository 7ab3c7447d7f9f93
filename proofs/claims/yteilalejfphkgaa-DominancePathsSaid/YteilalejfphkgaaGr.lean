/-
  Graphs as plain data: no program in sight. Nothing here is a claim.
-/
namespace Go.GL.Gr

def okE (n : Int) (e : Int × Int) : Bool := decide (0 ≤ e.1 ∧ e.1 < n) && decide (0 ≤ e.2 ∧ e.2 < n)
/-- The code of a graph. -/
def check (n : Int) (es : List (Int × Int)) : Int := if n < 0 then 1 else if 4096 < n ∨ 1048576 < es.length then 4 else if es.all (okE n) then 0 else 3

theorem all_take_succ {α : Type} {p : α → Bool} {l : List α} {k : Nat} {x : α} (hx : l[k]? = some x) (h : (l.take k).all p = true) (hp : p x = true) : (l.take (k + 1)).all p = true := by
  obtain ⟨hk, rfl⟩ := List.getElem?_eq_some_iff.1 hx
  rw [List.take_succ_eq_append_getElem hk, List.all_append, h]
  simp [hp]
theorem all_false {α : Type} {p : α → Bool} {l : List α} {k : Nat} {x : α} (hx : l[k]? = some x) (hp : p x = false) : l.all p = false := by
  rw [List.all_eq_false]
  exact ⟨x, List.mem_of_getElem? hx, by simp [hp]⟩


theorem check_zero {n : Int} {es : List (Int × Int)} (h : check n es = 0) : 0 ≤ n ∧ n ≤ 4096 ∧ es.length ≤ 1048576 ∧ es.all (okE n) = true := by
  unfold check at h
  split at h
  · cases h
  · split at h
    · cases h
    · split at h
      · rename_i h1 h2 h3
        exact ⟨by omega, by omega, by omega, h3⟩
      · cases h

/-! adjacent equals struck -/
section
variable {α : Type} [DecidableEq α]
def cstep (acc : List α) (x : α) : List α := if acc.getLast? = some x then acc else acc ++ [x]
def compactL (l : List α) : List α := l.foldl cstep []

theorem getLast_cstep (acc : List α) (x : α) : (cstep acc x).getLast? = some x := by
  unfold cstep
  split
  · assumption
  · simp
theorem compactL_snoc (l : List α) (x : α) : compactL (l ++ [x]) = cstep (compactL l) x := by simp [compactL]
theorem compactL_take {l : List α} {k : Nat} {x : α} (hx : l[k]? = some x) : compactL (l.take (k + 1)) = cstep (compactL (l.take k)) x := by
  obtain ⟨hk, rfl⟩ := List.getElem?_eq_some_iff.1 hx
  rw [List.take_succ_eq_append_getElem hk, compactL_snoc]
theorem compactL_last {l : List α} {k : Nat} {x : α} (hx : l[k]? = some x) : (compactL (l.take (k + 1))).getLast? = some x := by
  rw [compactL_take hx, getLast_cstep]
theorem compactL_len (l : List α) : (compactL l).length ≤ l.length := by
  have : ∀ (l acc : List α), (l.foldl cstep acc).length ≤ acc.length + l.length := by
    intro l
    induction l with
    | nil => intro acc; simp
    | cons x r ih =>
      intro acc
      have h1 := ih (cstep acc x)
      have h2 : (cstep acc x).length ≤ acc.length + 1 := by unfold cstep; split <;> simp
      simp only [List.foldl_cons, List.length_cons]
      omega
  simpa [compactL] using this l []
theorem compactL_mem (l : List α) (x : α) : x ∈ compactL l ↔ x ∈ l := by
  have : ∀ (l acc : List α), x ∈ l.foldl cstep acc ↔ x ∈ acc ∨ x ∈ l := by
    intro l
    induction l with
    | nil => intro acc; simp
    | cons y r ih =>
      intro acc
      rw [List.foldl_cons, ih]
      have h2 : x ∈ cstep acc y ↔ x ∈ acc ∨ x = y := by
        unfold cstep
        split
        · rename_i h
          constructor
          · exact .inl
          · rintro (h' | rfl)
            · exact h'
            · exact List.mem_of_getLast? h
        · simp
      rw [h2]
      simp [or_assoc]
  simpa [compactL] using this l []
/-- A list in ascending order: strictly ascending. -/
theorem compactL_strict {le : α → α → Prop} (hanti : ∀ a b, le a b → le b a → a = b) {l : List α} (h : l.Pairwise le) : (compactL l).Pairwise (fun a b => le a b ∧ a ≠ b) := by
  have : ∀ (l acc : List α), acc.Pairwise (fun a b => le a b ∧ a ≠ b) → (∀ a ∈ acc, ∀ b ∈ l, le a b) → l.Pairwise le → (l.foldl cstep acc).Pairwise (fun a b => le a b ∧ a ≠ b) := by
    intro l
    induction l with
    | nil => intro acc h1 _ _; exact h1
    | cons x r ih =>
      intro acc h1 h2 h3
      rw [List.pairwise_cons] at h3
      rw [List.foldl_cons]
      refine ih _ ?_ ?_ h3.2
      · unfold cstep
        split
        · exact h1
        · rename_i hne
          rw [List.pairwise_append]
          refine ⟨h1, List.pairwise_singleton _ _, ?_⟩
          intro a ha b hb
          rw [List.mem_singleton] at hb
          subst hb
          refine ⟨h2 a ha _ (List.mem_cons_self ..), ?_⟩
          rintro rfl
          -- a is in acc, all of acc come before its last, the last is not a
          apply hne
          obtain ⟨z, hz⟩ : ∃ z, acc.getLast? = some z := by
            cases hacc : acc.getLast? with
            | none => rw [List.getLast?_eq_none_iff] at hacc; subst hacc; simp at ha
            | some z => exact ⟨z, rfl⟩
          rw [hz]
          have hzm := List.mem_of_getLast? hz
          have hza := h2 z hzm a (List.mem_cons_self ..)
          by_cases e : a = z
          · rw [e]
          · obtain ⟨ini, rfl⟩ : ∃ ini, acc = ini ++ [z] := by
              rw [List.getLast?_eq_some_iff] at hz; obtain ⟨ys, h⟩ := hz; exact ⟨ys, h⟩
            rw [List.mem_append, List.mem_singleton] at ha
            rcases ha with ha | ha
            · rw [List.pairwise_append] at h1
              have := (h1.2.2 a ha z (by simp)).1
              rw [hanti a z this hza]
            · exact absurd ha e
      · intro a ha b hb
        have : a ∈ acc ∨ a = x := by
          unfold cstep at ha
          split at ha
          · exact .inl ha
          · simpa using ha
        rcases this with ha | rfl
        · exact h2 a ha b (List.mem_cons_of_mem _ hb)
        · exact h3.1 b hb
  exact this l [] List.Pairwise.nil (by simp) h
end

/-! the lists of successors -/
def rowsOf (n : Nat) (s : List (Int × Int)) : List (List Int) := (List.range n).map fun (a : Nat) => (s.filter fun e => decide (e.1 = (a : Int))).map (·.2)

theorem rowsOf_len (n : Nat) (s : List (Int × Int)) : (rowsOf n s).length = n := by simp [rowsOf]
theorem rowsOf_nil (n : Nat) : rowsOf n [] = List.replicate n [] := by
  apply List.ext_getElem
  · simp [rowsOf]
  · intro i h1 h2
    simp [rowsOf]
theorem rowsOf_at {n : Nat} {s : List (Int × Int)} {a : Nat} (ha : a < n) : (rowsOf n s)[a]? = some ((s.filter fun e => decide (e.1 = (a : Int))).map (·.2)) := by
  simp [rowsOf, ha]
theorem rowsOf_snoc {n : Nat} {s : List (Int × Int)} {a : Nat} {b : Int} {r : List Int} (hr : (rowsOf n s)[a]? = some r) : rowsOf n (s ++ [((a : Int), b)]) = (rowsOf n s).set a (r ++ [b]) := by
  have ha : a < n := by
    have := (List.getElem?_eq_some_iff.1 hr).1
    rwa [rowsOf_len] at this
  rw [rowsOf_at ha] at hr
  cases hr
  apply List.ext_getElem?
  intro i
  by_cases hi : i < n
  · rw [rowsOf_at hi]
    by_cases hia : a = i
    · subst hia
      rw [List.getElem?_set_self (by rw [rowsOf_len]; exact hi)]
      simp [List.filter_append]
    · rw [List.getElem?_set_ne hia, rowsOf_at hi]
      have : ¬ ((a : Int) = (i : Int)) := by omega
      simp [List.filter_append, this]
  · rw [List.getElem?_eq_none (by rw [rowsOf_len]; omega), List.getElem?_eq_none (by rw [List.length_set, rowsOf_len]; omega)]
theorem rowsOf_take {n : Nat} {s : List (Int × Int)} {k : Nat} {a : Nat} {b : Int} {r : List Int} (hk : s[k]? = some ((a : Int), b)) (hr : (rowsOf n (s.take k))[a]? = some r) : rowsOf n (s.take (k + 1)) = (rowsOf n (s.take k)).set a (r ++ [b]) := by
  obtain ⟨hlt, he⟩ := List.getElem?_eq_some_iff.1 hk
  rw [List.take_succ_eq_append_getElem hlt, he]
  exact rowsOf_snoc hr
theorem rowsOf_mem {n : Nat} {s : List (Int × Int)} {a : Nat} {r : List Int} (hr : (rowsOf n s)[a]? = some r) (b : Int) : b ∈ r ↔ ((a : Int), b) ∈ s := by
  have ha : a < n := by
    have := (List.getElem?_eq_some_iff.1 hr).1
    rwa [rowsOf_len] at this
  rw [rowsOf_at ha] at hr
  cases hr
  simp only [List.mem_map, List.mem_filter, decide_eq_true_eq]
  constructor
  · rintro ⟨e, ⟨h1, h2⟩, rfl⟩
    rw [← h2]; exact h1
  · intro h
    exact ⟨_, ⟨h, rfl⟩, rfl⟩
theorem rowsOf_sorted {n : Nat} {s : List (Int × Int)} {a : Nat} {r : List Int} (hr : (rowsOf n s)[a]? = some r) (hs : s.Pairwise fun x y => x.1 < y.1 ∨ x.1 = y.1 ∧ x.2 < y.2) : r.Pairwise (· < ·) := by
  have ha : a < n := by
    have := (List.getElem?_eq_some_iff.1 hr).1
    rwa [rowsOf_len] at this
  rw [rowsOf_at ha] at hr
  cases hr
  rw [List.pairwise_map, List.pairwise_filter]
  refine hs.imp ?_
  intro x y h hx hy
  simp only [decide_eq_true_eq] at hx hy
  omega

end Go.GL.Gr
