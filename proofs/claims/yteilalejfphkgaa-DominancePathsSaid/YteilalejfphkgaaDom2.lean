/-
  The iteration that finds dominators, as plain mathematics. Nothing here is a claim.
-/
import Derived.Test.YteilalejfphkgaaDom
import Derived.Test.YteilalejfphkgaaDfs
namespace Go.GL.Dom
open Go.GL.Dfs

/-- b can be reached by k edges without x. -/
inductive AvN (R : List (List Int)) (root x : Nat) : Nat → Nat → Prop
  | start : root ≠ x → AvN R root x 0 root
  | step {k a b : Nat} : AvN R root x k a → Edge R a b → b ≠ x → AvN R root x (k + 1) b
def Dom (R : List (List Int)) (root x b : Nat) : Prop := ∀ k, ¬ AvN R root x k b

section
variable {R : List (List Int)} {root : Nat} {pl T : List Int}

theorem AvN.ne {x k b : Nat} (h : AvN R root x k b) : b ≠ x := by
  cases h with
  | start h => exact h
  | step _ _ h => exact h
theorem AvN.reach {x k b : Nat} (h : AvN R root x k b) : Reach R root b := by
  induction h with
  | start => exact .refl
  | step _ h _ ih => exact .step ih h
theorem AvN.thru (d : Nat) {x j c : Nat} (h : AvN R root x j c) : AvN R root d j c ∨ ∃ j', j' ≤ j ∧ AvN R root x j' d := by
  induction h with
  | start h =>
    by_cases e : root = d
    · subst e; exact .inr ⟨0, Nat.le_refl _, .start h⟩
    · exact .inl (.start e)
  | @step k a b ha he hb ih =>
    rcases ih with ih | ⟨j', h1, h2⟩
    · by_cases e : b = d
      · subst e; exact .inr ⟨k + 1, Nat.le_refl _, .step ha he hb⟩
      · exact .inl (.step ih he e)
    · exact .inr ⟨j', by omega, h2⟩
theorem Dom.refl (b : Nat) : Dom R root b b := fun _ h => h.ne rfl
theorem Dom.pred {x a b : Nat} (h : Dom R root x b) (hne : x ≠ b) (he : Edge R a b) : Dom R root x a := fun k ha => h (k + 1) (.step ha he (fun e => hne e.symm))
theorem Dom.atRoot {x : Nat} (h : Dom R root x root) : x = root := by
  by_cases e : root = x
  · exact e.symm
  · exact absurd (.start e) (h 0)
theorem Dom.of_preds {x b : Nat} (hb : b ≠ root) (h : ∀ p, Reach R root p → Edge R p b → Dom R root x p) : Dom R root x b := by
  intro k hk
  cases hk with
  | start => exact hb rfl
  | step ha he _ => exact h _ ha.reach he _ ha
theorem Dom.trans {x y b : Nat} (h : Dom R root x y) (h' : Dom R root y b) : Dom R root x b := by
  intro k hk
  rcases hk.thru y with h1 | ⟨j, _, h1⟩
  · exact h' _ h1
  · exact h _ h1

/-- The tree under way: what dominates a node from above dominates its parent. -/
structure Up (R : List (List Int)) (root : Nat) (pl T : List Int) : Prop extends Chain pl T root where
  sdom : ∀ b : Nat, 0 ≤ lk T b → b ≠ root → ∀ x, x ≠ b → Dom R root x b → ∀ p : Nat, lk T b = (p : Int) → Dom R root x p

theorem Up.anc (hu : Up R root pl T) : ∀ (k : Nat) {b x : Nat}, lk pl b ≤ k → 0 ≤ lk T b → Dom R root x b → Anc T root x b
  | k, b, x, hk, hb, hd => by
    by_cases e : b = root
    · subst e
      rw [Dom.atRoot hd]
      exact .refl _
    · by_cases ex : x = b
      · subst ex; exact .refl _
      · obtain ⟨p, h1, h2, h3⟩ := hu.par b hb e
        have h4 := hu.proc p h3
        have h5 := hu.sdom b hb e x ex hd p h1
        match k with
        | 0 => omega
        | k + 1 => exact .up e h1 (Up.anc hu k (by omega) h3 h5)
theorem Up.anc' (hu : Up R root pl T) {b x : Nat} (hb : 0 ≤ lk T b) (hd : Dom R root x b) : Anc T root x b := hu.anc (lk pl b).toNat (by omega) hb hd
theorem Anc.anti (hc : Chain pl T root) {x y : Nat} (h : Anc T root x y) (h' : Anc T root y x) (hy : 0 ≤ lk T y) : x = y := by
  obtain ⟨h1, h2⟩ := h.place hc hy
  obtain ⟨h3, _⟩ := h'.place hc h2
  exact hc.inj x y (hc.proc x h2) (by omega)
theorem Up.side (hu : Up R root pl T) {x y p : Nat} (h : Anc T root y p) (hp : 0 ≤ lk T p) (hd : Dom R root x p) : Dom R root x y ∨ (Anc T root x p ∧ Anc T root y x) := by
  induction h with
  | refl => exact .inl hd
  | @up b q hne hq h3 ih =>
    by_cases e : x = b
    · subst e; exact .inr ⟨.refl _, .up hne hq h3⟩
    · obtain ⟨q', h4, _, h5⟩ := hu.par b hp hne
      rw [hq] at h4
      have e4 := Int.ofNat.inj h4
      subst e4
      rcases ih h5 (hu.sdom b hp hne x e hd q hq) with h6 | ⟨h6, h7⟩
      · exact .inl h6
      · exact .inr ⟨.up hne hq h6, h7⟩

/-- m is the nearest above all of them. -/
structure MeetAll (T : List Int) (root : Nat) (ps : List Nat) (m : Nat) : Prop where
  l : ∀ p ∈ ps, Anc T root m p
  top : ∀ x, (∀ p ∈ ps, Anc T root x p) → Anc T root x m
  ok : 0 ≤ lk T m

theorem MeetAll.one {p : Nat} (h : 0 ≤ lk T p) : MeetAll T root [p] p := ⟨fun q hq => by rw [List.mem_singleton.1 hq]; exact .refl _, fun x hx => hx p (List.mem_singleton.2 rfl), h⟩
theorem MeetAll.step {ps : List Nat} {m p m' : Nat} (h : MeetAll T root ps m) (hm : Meet T root m p m') (ho : 0 ≤ lk T m') : MeetAll T root (ps ++ [p]) m' := by
  refine ⟨fun q hq => ?_, fun x hx => ?_, ho⟩
  · rcases List.mem_append.1 hq with hq | hq
    · exact hm.l.trans (h.l q hq)
    · rw [List.mem_singleton.1 hq]; exact hm.r
  · exact hm.top x (h.top x (fun q hq => hx q (List.mem_append.2 (.inl hq)))) (hx p (List.mem_append.2 (.inr (List.mem_singleton.2 rfl))))

theorem MeetAll.dom (hu : Up R root pl T) {ps : List Nat} {m x : Nat} (h : MeetAll T root ps m) (hp : ∀ p ∈ ps, 0 ≤ lk T p ∧ Dom R root x p) : Dom R root x m := by
  by_cases hd : Dom R root x m
  · exact hd
  have hall : ∀ p ∈ ps, Anc T root x p ∧ Anc T root m x := by
    intro p hpp
    rcases hu.side (h.l p hpp) (hp p hpp).1 (hp p hpp).2 with h1 | h1
    · exact absurd h1 hd
    · exact h1
  have h1 := h.top x (fun p hpp => (hall p hpp).1)
  cases ps with
  | nil =>
    have h2 := ((h.top T.length (fun p hpp => by cases hpp)).place hu.toChain h.ok).2
    unfold lk at h2
    rw [List.getElem?_eq_none (Nat.le_refl _)] at h2
    exact absurd h2 (by decide)
  | cons p r =>
    have h2 := (hall p (List.mem_cons_self ..)).2
    have h3 := Anc.anti hu.toChain h1 h2 h.ok
    rw [h3]
    exact Dom.refl _

/-! a node is given a new parent -/
section
variable {d m : Nat}

theorem Anc.of_set (hd : d < T.length) {x c : Nat} (h : Anc (T.set d (m : Int)) root x c) : Anc T root x c ∨ (Anc T root d c ∧ Anc (T.set d (m : Int)) root x d) := by
  induction h with
  | refl => exact .inl (.refl _)
  | @up b p hne hp h3 ih =>
    by_cases e : b = d
    · subst e; exact .inr ⟨.refl _, .up hne hp h3⟩
    · rw [lk_set_ne (fun e' => e e'.symm)] at hp
      rcases ih with h4 | ⟨h4, h5⟩
      · exact .inl (.up hne hp h4)
      · exact .inr ⟨.up hne hp h4, h5⟩

theorem Up.update (hu : Up R root pl T) (hd : d < T.length) (hr : d ≠ root) (hdp : 0 ≤ lk pl d) {ps : List Nat} (hm : MeetAll T root ps m) (hps : ∀ p ∈ ps, 0 ≤ lk T p ∧ Edge R p d) (hlt : lk pl m < lk pl d) : Up R root pl (T.set d (m : Int)) := by
  have hmd : m ≠ d := by rintro rfl; omega
  refine ⟨⟨?_, hu.rootP, hu.inj, ?_, ?_⟩, ?_⟩
  · rw [lk_set_ne hr]; exact hu.rootT
  · intro b hb
    by_cases e : d = b
    · subst e; exact hdp
    · rw [lk_set_ne e] at hb; exact hu.proc b hb
  · intro b hb hbr
    by_cases e : d = b
    · subst e
      refine ⟨m, lk_set_same hd, hlt, ?_⟩
      rw [lk_set_ne (fun e => hmd e.symm)]
      exact hm.ok
    · rw [lk_set_ne e] at hb ⊢
      obtain ⟨p, h1, h2, h3⟩ := hu.par b hb hbr
      refine ⟨p, h1, h2, ?_⟩
      by_cases e' : d = p
      · subst e'; rw [lk_set_same hd]; omega
      · rw [lk_set_ne e']; exact h3
  · intro b hb hbr x hx hdx p hp
    by_cases e : d = b
    · subst e
      rw [lk_set_same hd] at hp
      have e2 := Int.ofNat.inj hp
      subst e2
      exact hm.dom hu (fun p hpp => ⟨(hps p hpp).1, hdx.pred hx (hps p hpp).2⟩)
    · rw [lk_set_ne e] at hb hp
      exact hu.sdom b hb hbr x hx hdx p hp

/-- What is above b lies on each path of fewer than k edges. -/
def Pk (R : List (List Int)) (root : Nat) (T : List Int) (k b : Nat) : Prop := ∀ x j, j < k → Anc T root x b → ¬ AvN R root x j b

theorem Pk.zero (b : Nat) : Pk R root T 0 b := fun _ _ h => absurd h (Nat.not_lt_zero _)
theorem Pk.atRoot (k : Nat) : Pk R root T k root := fun x j _ h h' => by rw [h.of_root] at h'; exact h'.ne rfl
theorem Pk.less {k k' b : Nat} (h : Pk R root T k b) (hk : k' ≤ k) : Pk R root T k' b := fun x j hj => h x j (by omega)
theorem Pk.new (hu : Up R root pl T) (hd : d < T.length) (hr : d ≠ root) {ps : List Nat} {k : Nat} (hm : MeetAll T root ps m) (hlt : lk pl m < lk pl d) (hall : 0 < k → ∀ p, Reach R root p → Edge R p d → p ∈ ps) (hP : ∀ p ∈ ps, Pk R root T k p) : Pk R root (T.set d (m : Int)) (k + 1) d := by
  intro x j hj hA hav
  cases hav with
  | start => exact hr rfl
  | @step j a _ ha he hne =>
    have hp := hall (by omega) a ha.reach he
    cases hA with
    | refl => exact hne rfl
    | @up _ p _ hp2 hA2 =>
      rw [lk_set_same hd] at hp2
      have e2 := Int.ofNat.inj hp2
      subst e2
      rcases hA2.of_set hd with h1 | ⟨h1, _⟩
      · exact hP a hp x j (by omega) (h1.trans (hm.l a hp)) ha
      · have := (h1.place hu.toChain hm.ok).1
        omega
theorem Pk.old (hd : d < T.length) {k k' c : Nat} (hn : Pk R root (T.set d (m : Int)) (k + 1) d) (hk : k' ≤ k + 1) (h : Pk R root T k' c) : Pk R root (T.set d (m : Int)) k' c := by
  intro x j hj hA hav
  rcases hA.of_set hd with h1 | ⟨h1, h2⟩
  · exact h x j hj h1 hav
  · rcases hav.thru d with h3 | ⟨j', h3, h4⟩
    · exact h d j hj h1 h3
    · exact hn x j' (by omega) h2 h4
end

/-- The paths that matter are bounded. -/
theorem bound1 (P : Nat → Nat → Prop) (hP : ∀ i k k', P i k → k ≤ k' → P i k') : ∀ n, (∀ i, i < n → ∃ k, P i k) → ∃ k, ∀ i, i < n → P i k
  | 0, _ => ⟨0, fun i h => absurd h (Nat.not_lt_zero _)⟩
  | n + 1, h => by
    obtain ⟨k, hk⟩ := bound1 P hP n (fun i hi => h i (by omega))
    obtain ⟨k', hk'⟩ := h n (by omega)
    refine ⟨max k k', fun i hi => ?_⟩
    by_cases e : i = n
    · subst e; exact hP _ _ _ hk' (Nat.le_max_right ..)
    · exact hP _ _ _ (hk i (by omega)) (Nat.le_max_left ..)
theorem bound (R : List (List Int)) (root n : Nat) : ∃ K, 0 < K ∧ ∀ x, x < n → ∀ b, b < n → ∀ k, AvN R root x k b → ∃ j, j < K ∧ AvN R root x j b := by
  have h1 : ∃ K, ∀ x, x < n → ∀ b, b < n → ∀ k, AvN R root x k b → ∃ j, j < K ∧ AvN R root x j b := by
    refine bound1 (fun x K => ∀ b, b < n → ∀ k, AvN R root x k b → ∃ j, j < K ∧ AvN R root x j b) (fun x k k' h hk b hb i hi => ?_) n (fun x _ => ?_)
    · obtain ⟨j, h1, h2⟩ := h b hb i hi
      exact ⟨j, by omega, h2⟩
    · refine bound1 (fun b K => ∀ k, AvN R root x k b → ∃ j, j < K ∧ AvN R root x j b) (fun b k k' h hk i hi => ?_) n (fun b _ => ?_)
      · obtain ⟨j, h1, h2⟩ := h i hi
        exact ⟨j, by omega, h2⟩
      · by_cases h : ∃ k, AvN R root x k b
        · obtain ⟨k, hk⟩ := h
          exact ⟨k + 1, fun _ _ => ⟨k, by omega, hk⟩⟩
        · exact ⟨0, fun k hk => absurd ⟨k, hk⟩ h⟩
  obtain ⟨K, hK⟩ := h1
  refine ⟨K + 1, by omega, fun x hx b hb k hk => ?_⟩
  obtain ⟨j, h1, h2⟩ := hK x hx b hb k hk
  exact ⟨j, by omega, h2⟩

/-- Long enough looked: the parent is already the meet. -/
theorem still (hu : Up R root pl T) {n K d m q : Nat} {ps : List Nat} (hK : ∀ x, x < n → ∀ b, b < n → ∀ k, AvN R root x k b → ∃ j, j < K ∧ AvN R root x j b) (hn : ∀ x : Nat, 0 ≤ lk T x → x < n)
    (hP : ∀ b : Nat, 0 ≤ lk T b → Pk R root T K b) (hr : d ≠ root) (hd : 0 ≤ lk T d) (hm : MeetAll T root ps m) (hps : ∀ p ∈ ps, 0 ≤ lk T p ∧ Edge R p d) (hall : ∀ p, Reach R root p → Edge R p d → p ∈ ps) (hlt : lk pl m < lk pl d) (hq : lk T d = (q : Int)) : m = q := by
  have dom : ∀ x b, 0 ≤ lk T b → Anc T root x b → Dom R root x b := by
    intro x b hb h k hk
    obtain ⟨j, h1, h2⟩ := hK x (hn x (h.place hu.toChain hb).2) b (hn b hb) k hk
    exact hP b hb x j h1 h h2
  obtain ⟨q', h1, h2, h3⟩ := hu.par d hd hr
  rw [hq] at h1
  have e1 := Int.ofNat.inj h1
  subst e1
  have hqd : q ≠ d := by rintro rfl; omega
  have hmd : m ≠ d := by rintro rfl; omega
  have h4 : Anc T root q m := hm.top q (fun p hp => hu.anc' (hps p hp).1 ((dom q d hd (.up hr hq (.refl _))).pred hqd (hps p hp).2))
  have h5 : Dom R root m d := Dom.of_preds hr (fun p h6 h7 => dom m p (hps p (hall p h6 h7)).1 (hm.l p (hall p h6 h7)))
  have h6 := hu.sdom d hd hr m hmd h5 q hq
  exact (Anc.anti hu.toChain h4 (hu.anc' h3 h6) hm.ok).symm

/-- Nothing changes any more: what is above dominates. -/
theorem Up.fixed (hu : Up R root pl T) (hfix : ∀ b q : Nat, b ≠ root → 0 ≤ lk T b → lk T b = (q : Int) → ∀ p, Reach R root p → Edge R p b → Anc T root q p) (hre : ∀ b, Reach R root b → 0 ≤ lk T b) {x b : Nat} (h : Anc T root x b) (hb : Reach R root b) : Dom R root x b := by
  intro k hk
  induction hk with
  | start h1 => exact h1 h.of_root.symm
  | @step k a b ha he hne ih =>
    have hbr : b ≠ root := by rintro rfl; exact hne h.of_root.symm
    obtain ⟨q, h1, _, _⟩ := hu.par b (hre b hb) hbr
    exact ih ((h.parent (fun e => hne e.symm) h1).trans (hfix b q hbr (hre b hb) h1 a ha.reach he)) ha.reach
end
end Go.GL.Dom
