/-
  Dominators by iteration, as plain mathematics: no program in sight. Nothing here is a claim.
-/
namespace Go.GL.Dom

def lk (l : List Int) (i : Nat) : Int := l[i]?.getD (-1)

theorem lk_some {l : List Int} {i : Nat} {x : Int} (h : l[i]? = some x) : lk l i = x := by simp [lk, h]
theorem lk_get {l : List Int} {i : Nat} (h : 0 ≤ lk l i) : l[i]? = some (lk l i) := by
  unfold lk at *
  cases hx : l[i]? with
  | none => rw [hx] at h; simp at h
  | some x => simp
theorem lk_set_same {l : List Int} {i : Nat} {x : Int} (h : i < l.length) : lk (l.set i x) i = x := by simp [lk, h]
theorem lk_set_ne {l : List Int} {i j : Nat} {x : Int} (h : i ≠ j) : lk (l.set i x) j = lk l j := by simp [lk, List.getElem?_set_ne h]

/-- A tree under way: parents have been looked at and come earlier. -/
structure Chain (pl T : List Int) (root : Nat) : Prop where
  rootT : lk T root = root
  rootP : lk pl root = 0
  inj : ∀ a b : Nat, 0 ≤ lk pl a → lk pl a = lk pl b → a = b
  proc : ∀ b : Nat, 0 ≤ lk T b → 0 ≤ lk pl b
  par : ∀ b : Nat, 0 ≤ lk T b → b ≠ root → ∃ p : Nat, lk T b = p ∧ lk pl p < lk pl b ∧ 0 ≤ lk T p

inductive Anc (T : List Int) (root : Nat) : Nat → Nat → Prop
  | refl (b : Nat) : Anc T root b b
  | up {x b p : Nat} : b ≠ root → lk T b = (p : Int) → Anc T root x p → Anc T root x b

section
variable {pl T : List Int} {root : Nat}

theorem Anc.place (hc : Chain pl T root) {x b : Nat} (h : Anc T root x b) (hb : 0 ≤ lk T b) : lk pl x ≤ lk pl b ∧ 0 ≤ lk T x := by
  induction h with
  | refl => exact ⟨Int.le_refl _, hb⟩
  | up hne hp _ ih =>
    obtain ⟨p', h1, h2, h3⟩ := hc.par _ hb hne
    rw [hp] at h1
    have : (p' : Int) = _ := h1.symm
    have e := Int.ofNat.inj this
    subst e
    obtain ⟨h4, h5⟩ := ih h3
    exact ⟨by omega, h5⟩
theorem Anc.trans {x y b : Nat} (h : Anc T root x y) (h' : Anc T root y b) : Anc T root x b := by
  induction h' with
  | refl => exact h
  | up h1 h2 _ ih => exact .up h1 h2 ih
theorem Anc.of_root {x : Nat} (h : Anc T root x root) : x = root := by
  cases h with
  | refl => rfl
  | up h1 _ _ => exact absurd rfl h1
/-- .. of b, other than b: of its parent. -/
theorem Anc.parent {x b p : Nat} (h : Anc T root x b) (hne : x ≠ b) (hp : lk T b = (p : Int)) : Anc T root x p := by
  cases h with
  | refl => exact absurd rfl hne
  | up h1 h2 h3 =>
    rw [hp] at h2
    have e := Int.ofNat.inj h2
    subst e
    exact h3
/-- Two of one chain: the earlier one is above. -/
theorem Anc.total {x y b : Nat} (hx : Anc T root x b) (hy : Anc T root y b) : Anc T root x y ∨ Anc T root y x := by
  induction hx with
  | refl => exact .inr hy
  | @up b p h1 h2 h3 ih =>
    by_cases e : y = b
    · subst e; exact .inl (.up h1 h2 h3)
    · exact ih (hy.parent e h2)
theorem Anc.top (hc : Chain pl T root) : ∀ (k : Nat) {b : Nat}, lk pl b ≤ k → 0 ≤ lk T b → Anc T root root b
  | k, b, hk, hb => by
    by_cases e : b = root
    · subst e; exact .refl _
    · obtain ⟨p, h1, h2, h3⟩ := hc.par b hb e
      have h4 := hc.proc p h3
      match k with
      | 0 => omega
      | k + 1 => exact .up e h1 (Anc.top hc k (by omega) h3)

/-- m is the nearest that is above a and b. -/
structure Meet (T : List Int) (root a b m : Nat) : Prop where
  l : Anc T root m a
  r : Anc T root m b
  top : ∀ x, Anc T root x a → Anc T root x b → Anc T root x m

/-- What the walk of 'meet' carries: from (a0, b0) it has come to (a, b). -/
structure MeetInv (T : List Int) (root a0 b0 a b : Nat) : Prop where
  l : Anc T root a a0
  r : Anc T root b b0
  top : ∀ x, Anc T root x a0 → Anc T root x b0 → Anc T root x a ∧ Anc T root x b

theorem MeetInv.start (a b : Nat) : MeetInv T root a b a b := ⟨.refl _, .refl _, fun _ h1 h2 => ⟨h1, h2⟩⟩
theorem MeetInv.done {a0 b0 a : Nat} (h : MeetInv T root a0 b0 a a) : Meet T root a0 b0 a := ⟨h.l, h.r, fun x h1 h2 => (h.top x h1 h2).1⟩
theorem MeetInv.left (hc : Chain pl T root) {a0 b0 a b p : Nat} (h : MeetInv T root a0 b0 a b) (ha : 0 ≤ lk T a) (hb : 0 ≤ lk T b) (hlt : lk pl b < lk pl a) (hp : lk T a = (p : Int)) : MeetInv T root a0 b0 p b := by
  have har : a ≠ root := by
    rintro rfl
    have := hc.proc b hb
    rw [hc.rootP] at hlt
    omega
  refine ⟨Anc.trans (.up har hp (.refl _)) h.l, h.r, fun x h1 h2 => ?_⟩
  obtain ⟨h3, h4⟩ := h.top x h1 h2
  refine ⟨h3.parent ?_ hp, h4⟩
  rintro rfl
  have := (h4.place hc hb).1
  omega
theorem MeetInv.right (hc : Chain pl T root) {a0 b0 a b p : Nat} (h : MeetInv T root a0 b0 a b) (ha : 0 ≤ lk T a) (hb : 0 ≤ lk T b) (hne : a ≠ b) (hge : ¬ lk pl b < lk pl a) (hp : lk T b = (p : Int)) : MeetInv T root a0 b0 a p := by
  have hlt : lk pl a < lk pl b := by
    rcases Int.lt_or_eq_of_le (Int.not_lt.1 hge) with h | h
    · exact h
    · exact absurd (hc.inj a b (hc.proc a ha) h) hne
  have hbr : b ≠ root := by
    rintro rfl
    have := hc.proc a ha
    rw [hc.rootP] at hlt
    omega
  refine ⟨h.l, Anc.trans (.up hbr hp (.refl _)) h.r, fun x h1 h2 => ?_⟩
  obtain ⟨h3, h4⟩ := h.top x h1 h2
  refine ⟨h3, h4.parent ?_ hp⟩
  rintro rfl
  have := (h3.place hc ha).1
  omega
end
end Go.GL.Dom
