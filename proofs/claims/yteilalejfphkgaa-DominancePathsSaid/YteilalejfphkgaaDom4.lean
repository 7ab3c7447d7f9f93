/-
  Dominance frontiers, as plain mathematics. Nothing here is a claim.
-/
import Derived.Test.YteilalejfphkgaaDom3
namespace Go.GL.Dom
open Go.GL.Dfs

section
variable {R : List (List Int)} {root n : Nat} {pl T : List Int} {order : List Nat}

theorem Solved.up (h : Solved R root n pl T) {x b : Nat} (hb : Reach R root b) (hd : Dom R root x b) : x = b ∨ ∃ p : Nat, b ≠ root ∧ T[b]? = some (p : Int) ∧ Dom R root x p ∧ lk pl p < lk pl b ∧ Reach R root p := by
  by_cases e : x = b
  · exact .inl e
  · have hbr : b ≠ root := by rintro rfl; exact e (Dom.atRoot hd)
    obtain ⟨p, h1, h2, h3, h4, h5, h6⟩ := h.idom b hb hbr
    exact .inr ⟨p, hbr, h1, h4 x e hd, h5, h6⟩
theorem reach_place (hO : Order R root order) (hP : Place n order pl) {b : Nat} (hb : Reach R root b) : 0 ≤ lk pl b := by
  obtain ⟨i, hi⟩ := List.mem_iff_getElem?.1 ((hO.mem b).2 hb)
  rw [lk_some (hP.inn i b hi)]
  omega
theorem Solved.before (h : Solved R root n pl T) (hO : Order R root order) (hP : Place n order pl) : ∀ (k : Nat) {x b : Nat}, lk pl b ≤ k → Reach R root b → Dom R root x b → x = b ∨ lk pl x < lk pl b
  | k, x, b, hk, hb, hd => by
    rcases h.up hb hd with h1 | ⟨p, h1, h2, h3, h4, h5⟩
    · exact .inl h1
    · have h6 := reach_place hO hP h5
      match k with
      | 0 => omega
      | k + 1 =>
        rcases Solved.before h hO hP k (by omega) h5 h3 with h7 | h7
        · subst h7; exact .inr h4
        · exact .inr (by omega)
theorem Solved.lt (h : Solved R root n pl T) (hO : Order R root order) (hP : Place n order pl) {x b : Nat} (hb : Reach R root b) (hd : Dom R root x b) (hne : x ≠ b) : lk pl x < lk pl b :=
  (h.before hO hP (lk pl b).toNat (by have := reach_place hO hP hb; omega) hb hd).resolve_left hne

/-- What the walk from a has visited when it stands at x. -/
def Vis (R : List (List Int)) (root : Nat) (x : Int) (a y : Nat) : Prop := Dom R root y a ∧ ∀ c : Nat, x = (c : Int) → ¬ Dom R root y c
/-- It belongs to the frontier: through a. -/
def Thru (R : List (List Int)) (root : Nat) (b a y : Nat) : Prop := Dom R root y a ∧ ¬ (y ≠ b ∧ Dom R root y b)
/-- Where the walk from a for b stands. -/
structure At (R : List (List Int)) (root : Nat) (T : List Int) (b a : Nat) (x : Int) : Prop where
  pos : (x = -1 ∧ lk T b = -1) ∨ ∃ c : Nat, x = (c : Int) ∧ Reach R root c ∧ Dom R root c a ∧ ∀ q : Nat, lk T b = (q : Int) → Dom R root q c

theorem Solved.tree_or (h : Solved R root n pl T) {b : Nat} (hb : Reach R root b) (hlt : b < n) : (b = root ∧ lk T b = -1) ∨ ∃ q : Nat, b ≠ root ∧ lk T b = (q : Int) ∧ q ≠ b ∧ Dom R root q b ∧ (∀ x, x ≠ b → Dom R root x b → Dom R root x q) ∧ Reach R root q ∧ lk pl q < lk pl b := by
  by_cases e : b = root
  · exact .inl ⟨e, lk_some (h.out b hlt (.inr e))⟩
  · obtain ⟨p, h1, h2, h3, h4, h5, h6⟩ := h.idom b hb e
    exact .inr ⟨p, e, lk_some h1, h2, h3, h4, h6, h5⟩

theorem At.start (h : Solved R root n pl T) {a b : Nat} (hab : Edge R a b) (ha : Reach R root a) (hlt : b < n) : At R root T b a a := by
  refine ⟨.inr ⟨a, rfl, ha, Dom.refl a, fun q hq => ?_⟩⟩
  rcases h.tree_or (.step ha hab) hlt with ⟨_, h1⟩ | ⟨q', _, h1, h2, h3, _⟩
  · omega
  · rw [h1] at hq
    have := Int.ofNat.inj hq
    subst this
    exact h3.pred h2 hab
theorem Vis.start (a y : Nat) : ¬ Vis R root a a y := fun h => h.2 a rfl h.1

theorem At.step (h : Solved R root n pl T) {a b c : Nat} (hA : At R root T b a c) (hne : (c : Int) ≠ lk T b) (hn : ∀ x, Reach R root x → x < n) : At R root T b a (lk T c) := by
  rcases hA.pos with ⟨h1, _⟩ | ⟨c', h1, h2, h3, h4⟩
  · omega
  · have := Int.ofNat.inj h1
    subst this
    rcases h.tree_or h2 (hn _ h2) with ⟨e, h5⟩ | ⟨p, e, h5, h6, h7, h8, h9, _⟩
    · subst e
      refine ⟨.inl ⟨h5, ?_⟩⟩
      by_cases hb : 0 ≤ lk T b
      · obtain ⟨q, hq⟩ := Int.eq_ofNat_of_zero_le hb
        have := Dom.atRoot (h4 q hq)
        rw [this] at hq
        exact absurd hq.symm hne
      · have : lk T b = -1 := by
          unfold lk at hb ⊢
          cases hx : T[b]? with
          | none => rfl
          | some x =>
            rw [hx] at hb
            have hbl : b < n := by rw [← h.len]; exact (List.getElem?_eq_some_iff.1 hx).1
            by_cases hr : Reach R c b
            · by_cases hbr : b = c
              · have := h.out b hbl (.inr hbr); rw [hx] at this; simpa using this
              · obtain ⟨p, h1, _⟩ := h.idom b hr hbr
                rw [hx] at h1
                cases h1
                simp at hb
            · have := h.out b hbl (.inl hr); rw [hx] at this; simpa using this
        exact this
    · rw [h5]
      refine ⟨.inr ⟨p, rfl, h9, h7.trans h3, fun q hq => h8 q (fun e => hne (by rw [← e, hq])) (h4 q hq)⟩⟩
theorem Vis.step (h : Solved R root n pl T) (hO : Order R root order) (hP : Place n order pl) {a b c : Nat} (hA : At R root T b a c) (hn : ∀ x, Reach R root x → x < n) (y : Nat) : Vis R root (lk T c) a y ↔ Vis R root c a y ∨ y = c := by
  rcases hA.pos with ⟨h1, _⟩ | ⟨c', h1, h2, h3, _⟩
  · omega
  · have := Int.ofNat.inj h1
    subst this
    unfold Vis
    rcases h.tree_or h2 (hn _ h2) with ⟨e, h5⟩ | ⟨p, e, h5, h6, h7, h8, h9, h10⟩
    · rw [h5]
      constructor
      · rintro ⟨h6, _⟩
        by_cases ey : y = c
        · exact .inr ey
        · refine .inl ⟨h6, fun c' hc hd => ?_⟩
          have := Int.ofNat.inj hc
          subst this
          subst e
          exact ey (Dom.atRoot hd)
      · rintro (⟨h6, _⟩ | rfl)
        · exact ⟨h6, fun c' hc => by omega⟩
        · exact ⟨h3, fun c' hc => by omega⟩
    · rw [h5]
      constructor
      · rintro ⟨h11, h12⟩
        by_cases ey : y = c
        · exact .inr ey
        · refine .inl ⟨h11, fun c' hc hd => ?_⟩
          have := Int.ofNat.inj hc
          subst this
          exact h12 p rfl (h8 y ey hd)
      · rintro (⟨h11, h12⟩ | rfl)
        · refine ⟨h11, fun c' hc hd => ?_⟩
          have := Int.ofNat.inj hc
          subst this
          exact h12 c rfl (hd.trans h7)
        · refine ⟨h3, fun c' hc hd => ?_⟩
          have := Int.ofNat.inj hc
          subst this
          have := h.lt hO hP h9 hd (fun e => h6 e.symm)
          omega
/-- The walk is over. -/
theorem Vis.done (h : Solved R root n pl T) (hO : Order R root order) (hP : Place n order pl) {a b : Nat} {x : Int} (hA : At R root T b a x) (hb : Reach R root b) (hlt : b < n) (hx : x < 0 ∨ x = lk T b) (y : Nat) : Vis R root x a y ↔ Thru R root b a y := by
  unfold Vis Thru
  rcases h.tree_or hb hlt with ⟨e, h5⟩ | ⟨q, e, h5, h6, h7, h8, h9, h10⟩
  · have hx1 : x = -1 := by
      rcases hA.pos with ⟨h1, _⟩ | ⟨c', h1, _⟩
      · exact h1
      · rcases hx with hx | hx <;> omega
    subst hx1
    constructor
    · rintro ⟨h1, _⟩
      refine ⟨h1, fun h2 => ?_⟩
      subst e
      exact h2.1 (Dom.atRoot h2.2)
    · rintro ⟨h1, _⟩
      exact ⟨h1, fun c hc => by omega⟩
  · have hxq : x = (q : Int) := by
      rcases hA.pos with ⟨_, h1⟩ | ⟨c', h1, _⟩
      · omega
      · rcases hx with hx | hx <;> omega
    subst hxq
    constructor
    · rintro ⟨h1, h2⟩
      exact ⟨h1, fun h3 => h2 q rfl (h8 y h3.1 h3.2)⟩
    · rintro ⟨h1, h2⟩
      refine ⟨h1, fun c hc hd => ?_⟩
      have := Int.ofNat.inj hc
      subst this
      refine h2 ⟨?_, hd.trans h7⟩
      rintro rfl
      have := h.lt hO hP h9 hd (fun e => h6 e.symm)
      omega

/-- The frontier. -/
def Front (R : List (List Int)) (root : Nat) (x b : Nat) : Prop := ∃ a, Reach R root a ∧ Edge R a b ∧ Thru R root b a x

/-- Rows and what they hold. -/
structure Noted (n : Nat) (rows : List (List Int)) (N : Nat → Nat → Prop) : Prop where
  len : rows.length = n
  mem : ∀ (x : Nat) r, rows[x]? = some r → ∀ y : Int, y ∈ r ↔ ∃ b : Nat, y = (b : Int) ∧ N x b
theorem Noted.congr {rows : List (List Int)} {N N' : Nat → Nat → Prop} (h : Noted n rows N) (hN : ∀ x b, N x b ↔ N' x b) : Noted n rows N' :=
  ⟨h.len, fun x r hr y => by rw [h.mem x r hr y]; exact ⟨fun ⟨b, h1, h2⟩ => ⟨b, h1, (hN x b).1 h2⟩, fun ⟨b, h1, h2⟩ => ⟨b, h1, (hN x b).2 h2⟩⟩⟩
theorem Noted.push {rows : List (List Int)} {N : Nat → Nat → Prop} (h : Noted n rows N) {c b : Nat} {r : List Int} (hr : rows[c]? = some r) : Noted n (rows.set c (r ++ [(b : Int)])) (fun x b' => N x b' ∨ (x = c ∧ b' = b)) := by
  refine ⟨by rw [List.length_set]; exact h.len, fun x q hq y => ?_⟩
  by_cases e : c = x
  · subst e
    rw [List.getElem?_set_self (List.getElem?_eq_some_iff.1 hr).1] at hq
    cases hq
    rw [List.mem_append, List.mem_singleton, h.mem c r hr y]
    constructor
    · rintro (⟨b', h1, h2⟩ | rfl)
      · exact ⟨b', h1, .inl h2⟩
      · exact ⟨b, rfl, .inr ⟨rfl, rfl⟩⟩
    · rintro ⟨b', rfl, h2 | ⟨_, rfl⟩⟩
      · exact .inl ⟨b', rfl, h2⟩
      · exact .inr rfl
  · rw [List.getElem?_set_ne e] at hq
    rw [h.mem x q hq y]
    constructor
    · rintro ⟨b', h1, h2⟩; exact ⟨b', h1, .inl h2⟩
    · rintro ⟨b', rfl, h2 | ⟨h3, _⟩⟩
      · exact ⟨b', rfl, h2⟩
      · exact absurd h3.symm e
theorem Noted.start : Noted n (List.replicate n ([] : List Int)) (fun _ _ => False) := by
  refine ⟨by simp, fun x r hr y => ?_⟩
  have : r = [] := List.eq_of_mem_replicate (List.mem_of_getElem? hr)
  subst this
  simp
end
end Go.GL.Dom
