/-
  The passes of the iteration and its end, as plain mathematics. Nothing here is a claim.
-/
import Derived.Test.YteilalejfphkgaaDom2
namespace Go.GL.Dom
open Go.GL.Dfs

structure Solved (R : List (List Int)) (root n : Nat) (pl T : List Int) : Prop where
  len : T.length = n
  out : ∀ b, b < n → ¬ Reach R root b ∨ b = root → T[b]? = some (-1)
  idom : ∀ b, Reach R root b → b ≠ root → ∃ p : Nat, T[b]? = some (p : Int) ∧ p ≠ b ∧ Dom R root p b ∧ (∀ x, x ≠ b → Dom R root x b → Dom R root x p) ∧ lk pl p < lk pl b ∧ Reach R root p

theorem placeAt {n : Nat} {order : List Nat} {pl : List Int} (h : Place n order pl) {a : Nat} (ha : 0 ≤ lk pl a) : order[(lk pl a).toNat]? = some a ∧ a < n := by
  have h1 := lk_get ha
  have h2 : a < n := by rw [← h.len]; exact (List.getElem?_eq_some_iff.1 h1).1
  refine ⟨?_, h2⟩
  by_cases hm : a ∈ order
  · obtain ⟨i, hi⟩ := List.mem_iff_getElem?.1 hm
    have := h.inn i a hi
    rw [lk_some this]
    simpa using hi
  · have := h.out a h2 hm
    rw [lk_some this] at ha
    omega

section
variable {R : List (List Int)} {root n K k i : Nat} {ch : Bool} {pl T : List Int} {order : List Nat}

theorem Up.init (hO : Order R root order) (hP : Place n order pl) (hr : root < n) : Up R root pl ((List.replicate n (-1)).set root (root : Int)) := by
  have hlen : root < (List.replicate n (-1 : Int)).length := by simpa using hr
  have hT : ∀ b, 0 ≤ lk ((List.replicate n (-1)).set root (root : Int)) b → b = root := by
    intro b hb
    by_cases e : root = b
    · exact e.symm
    · rw [lk_set_ne e] at hb
      unfold lk at hb
      by_cases h : b < n
      · simp [h] at hb
      · rw [List.getElem?_eq_none (by simpa using Nat.not_lt.1 h)] at hb
        simp at hb
  have hrp : lk pl root = 0 := lk_some (hP.inn 0 root hO.head)
  refine ⟨⟨lk_set_same hlen, hrp, ?_, ?_, ?_⟩, ?_⟩
  · intro a b ha hab
    have h1 := (placeAt hP ha).1
    have h2 := (placeAt hP (a := b) (by omega)).1
    rw [hab, h2] at h1
    exact (Option.some.inj h1).symm
  · intro b hb
    rw [hT b hb]; omega
  · intro b hb hbr
    exact absurd (hT b hb) hbr
  · intro b hb hbr
    exact absurd (hT b hb) hbr

/-- Between two passes. -/
structure L1 (R : List (List Int)) (root n : Nat) (pl : List Int) (K k : Nat) (ch : Bool) (T : List Int) : Prop where
  up : Up R root pl T
  len : T.length = n
  neg : ∀ b, b < n → lk T b < 0 → lk T b = -1
  all : k = 0 ∨ ∀ b, Reach R root b → 0 ≤ lk T b
  old : ∀ b : Nat, 0 ≤ lk T b → Pk R root T k b
  big : ch = true → k ≤ K
  fix : ch = false → (∀ b, Reach R root b → 0 ≤ lk T b) ∧ ∀ b q : Nat, b ≠ root → Reach R root b → lk T b = (q : Int) → ∀ p, 0 ≤ lk T p → Edge R p b → Anc T root q p
/-- In a pass: the first i + 1 nodes are done. -/
structure L2 (R : List (List Int)) (root n : Nat) (pl : List Int) (order : List Nat) (K k i : Nat) (ch : Bool) (T : List Int) : Prop where
  up : Up R root pl T
  len : T.length = n
  neg : ∀ b, b < n → lk T b < 0 → lk T b = -1
  all : k = 0 ∨ ∀ b, Reach R root b → 0 ≤ lk T b
  old : ∀ b : Nat, 0 ≤ lk T b → Pk R root T k b
  done : ∀ j c : Nat, j ≤ i → order[j]? = some c → 0 ≤ lk T c ∧ Pk R root T (k + 1) c
  big : ch = true → k < K
  fix : ch = false → ∀ j d q : Nat, 1 ≤ j → j ≤ i → order[j]? = some d → lk T d = (q : Int) → ∀ p, 0 ≤ lk T p → Edge R p d → Anc T root q p

theorem L1.init (hO : Order R root order) (hP : Place n order pl) (hr : root < n) : L1 R root n pl K 0 true ((List.replicate n (-1)).set root (root : Int)) := by
  refine ⟨Up.init hO hP hr, by simp, ?_, .inl rfl, fun b _ => Pk.zero b, fun _ => Nat.zero_le _, fun h => by cases h⟩
  intro b hb hb2
  by_cases e : root = b
  · subst e
    rw [lk_set_same (by simpa using hr)] at hb2
    omega
  · rw [lk_set_ne e] at hb2 ⊢
    unfold lk at *
    simp [hb]
theorem L2.start (hO : Order R root order) (h : L1 R root n pl K k ch T) : L2 R root n pl order K k 0 false T := by
  refine ⟨h.up, h.len, h.neg, h.all, h.old, ?_, fun h => (by cases h), fun _ j d q h1 h2 => by omega⟩
  intro j c hj hc
  obtain rfl : j = 0 := by omega
  rw [hO.head] at hc
  cases hc
  exact ⟨by rw [h.up.rootT]; omega, Pk.atRoot _⟩
theorem L2.last (hO : Order R root order) (h : L2 R root n pl order K k i ch T) (hi : i + 1 = order.length) : L1 R root n pl K (k + 1) ch T := by
  have hall : ∀ b, Reach R root b → 0 ≤ lk T b ∧ Pk R root T (k + 1) b := by
    intro b hb
    obtain ⟨j, hj⟩ := List.mem_iff_getElem?.1 ((hO.mem b).2 hb)
    have := (List.getElem?_eq_some_iff.1 hj).1
    exact h.done j b (by omega) hj
  refine ⟨h.up, h.len, h.neg, .inr (fun b hb => (hall b hb).1), ?_, fun hc => h.big hc, fun hc => ⟨fun b hb => (hall b hb).1, ?_⟩⟩
  · intro b hb
    by_cases e : b = root
    · subst e; exact Pk.atRoot _
    · by_cases hr : Reach R root b
      · exact (hall b hr).2
      · intro x j _ _ hav
        exact hr hav.reach
  · intro b q hbr hb hq p hp he
    obtain ⟨j, hj⟩ := List.mem_iff_getElem?.1 ((hO.mem b).2 hb)
    have hlt := (List.getElem?_eq_some_iff.1 hj).1
    have h0 : j ≠ 0 := by
      rintro rfl
      rw [hO.head] at hj
      cases hj
      exact hbr rfl
    exact h.fix hc j b q (by omega) (by omega) hj hq p hp he

theorem L2.facts (hO : Order R root order) (hP : Place n order pl) (h : L2 R root n pl order K k i ch T) {d : Nat} (hd : order[i + 1]? = some d) {ps : List Nat} (hps : ∀ p, p ∈ ps ↔ 0 ≤ lk T p ∧ Edge R p d) :
    d ≠ root ∧ d < n ∧ 0 ≤ lk pl d ∧ ps ≠ [] ∧ ∀ m, MeetAll T root ps m → lk pl m < lk pl d := by
  have hpd := hP.inn _ _ hd
  have hr : d ≠ root := by
    rintro rfl
    have h1 := hP.inn _ _ hO.head
    rw [hpd] at h1
    have := Option.some.inj h1
    omega
  obtain ⟨j, p, hj, hp, he⟩ := hO.par _ _ hd hr
  have hpp := (h.done j p (by omega) hp).1
  have hmem : p ∈ ps := (hps p).2 ⟨hpp, he⟩
  have hpj := hP.inn _ _ hp
  refine ⟨hr, ?_, by rw [lk_some hpd]; omega, fun e => (by rw [e] at hmem; cases hmem), fun m hm => ?_⟩
  · rw [← hP.len]; exact (List.getElem?_eq_some_iff.1 hpd).1
  · have := ((hm.l p hmem).place h.up.toChain hpp).1
    rw [lk_some hpj] at this
    rw [lk_some hpd]
    omega
theorem set_same {T : List Int} {d : Nat} {x : Int} (h : T[d]? = some x) : T.set d x = T := by
  apply List.ext_getElem?
  intro j
  by_cases e : d = j
  · subst e
    rw [List.getElem?_set_self (List.getElem?_eq_some_iff.1 h).1, h]
  · rw [List.getElem?_set_ne e]
/-- What holds of the new tree whether or not it changed. -/
theorem L2.core (hO : Order R root order) (hP : Place n order pl) (h : L2 R root n pl order K k i ch T) {d m : Nat} {ps : List Nat} (hd : order[i + 1]? = some d) (hps : ∀ p, p ∈ ps ↔ 0 ≤ lk T p ∧ Edge R p d) (hm : MeetAll T root ps m) (ch' : Bool) (hbig : ch' = true → k < K)
    (hfix : ch' = false → ∀ j d' q : Nat, 1 ≤ j → j ≤ i + 1 → order[j]? = some d' → lk (T.set d (m : Int)) d' = (q : Int) → ∀ p, 0 ≤ lk (T.set d (m : Int)) p → Edge R p d' → Anc (T.set d (m : Int)) root q p) : L2 R root n pl order K k (i + 1) ch' (T.set d (m : Int)) := by
  obtain ⟨hr, hdn, hdp, _, hlt⟩ := h.facts hO hP hd hps
  have hlt := hlt m hm
  have hdl : d < T.length := by rw [h.len]; exact hdn
  have hnew : Pk R root (T.set d (m : Int)) (k + 1) d := Pk.new h.up hdl hr hm hlt (fun hk p h1 h2 => (hps p).2 ⟨h.all.resolve_left (by omega) p h1, h2⟩) (fun p hp => h.old p ((hps p).1 hp).1)
  have hge : ∀ b : Nat, 0 ≤ lk T b → 0 ≤ lk (T.set d (m : Int)) b := by
    intro b hb
    by_cases e : d = b
    · subst e; rw [lk_set_same hdl]; omega
    · rw [lk_set_ne e]; exact hb
  refine ⟨h.up.update hdl hr hdp hm (fun p hp => (hps p).1 hp) hlt, by rw [List.length_set]; exact h.len, ?_, h.all.imp id (fun ha b hb => hge b (ha b hb)), ?_, ?_, hbig, hfix⟩
  · intro b hb hb2
    by_cases e : d = b
    · subst e; rw [lk_set_same hdl] at hb2; omega
    · rw [lk_set_ne e] at hb2 ⊢; exact h.neg b hb hb2
  · intro b hb
    by_cases e : d = b
    · subst e; exact hnew.less (Nat.le_succ _)
    · rw [lk_set_ne e] at hb
      exact Pk.old hdl hnew (Nat.le_succ _) (h.old b hb)
  · intro j c hj hc
    by_cases e : d = c
    · subst e; exact ⟨by rw [lk_set_same hdl]; omega, hnew⟩
    · have hji : j ≤ i := by
        by_cases e' : j = i + 1
        · subst e'; rw [hd] at hc; exact absurd (Option.some.inj hc) e
        · omega
      obtain ⟨h1, h2⟩ := h.done j c hji hc
      exact ⟨hge c h1, Pk.old hdl hnew (Nat.le_refl _) h2⟩
theorem L2.change (hO : Order R root order) (hP : Place n order pl) (hK0 : 0 < K) (hK : ∀ x, x < n → ∀ b, b < n → ∀ k, AvN R root x k b → ∃ j, j < K ∧ AvN R root x j b) (h : L2 R root n pl order K k i ch T) {d m : Nat} {ps : List Nat} (hd : order[i + 1]? = some d) (hps : ∀ p, p ∈ ps ↔ 0 ≤ lk T p ∧ Edge R p d) (hm : MeetAll T root ps m) (hne : lk T d ≠ (m : Int)) :
    L2 R root n pl order K k (i + 1) true (T.set d (m : Int)) := by
  refine h.core hO hP hd hps hm true (fun _ => ?_) (fun h => by cases h)
  obtain ⟨hr, hdn, hdp, _, hlt⟩ := h.facts hO hP hd hps
  apply Nat.lt_of_not_le
  intro hk
  have hall := h.all.resolve_left (by omega)
  have hd0 : Reach R root d := (hO.mem d).1 (List.mem_of_getElem? hd)
  have hd1 := hall d hd0
  obtain ⟨q, hq⟩ := Int.eq_ofNat_of_zero_le hd1
  have := still h.up hK (fun x hx => (placeAt hP (h.up.proc x hx)).2) (fun b hb => (h.old b hb).less hk) hr hd1 hm (fun p hp => (hps p).1 hp) (fun p h1 h2 => (hps p).2 ⟨hall p h1, h2⟩) (hlt m hm) hq
  exact hne (by rw [hq, this])
theorem L2.same (hO : Order R root order) (hP : Place n order pl) (h : L2 R root n pl order K k i ch T) {d m : Nat} {ps : List Nat} (hd : order[i + 1]? = some d) (hps : ∀ p, p ∈ ps ↔ 0 ≤ lk T p ∧ Edge R p d) (hm : MeetAll T root ps m) (he : lk T d = (m : Int)) :
    L2 R root n pl order K k (i + 1) ch T := by
  have hT : T.set d (m : Int) = T := by
    have := lk_get (l := T) (i := d) (by omega)
    rw [he] at this
    exact set_same this
  have := h.core hO hP hd hps hm ch h.big
  rw [hT] at this
  refine this (fun hc j d' q h1 h2 hj hq p hp hE => ?_)
  by_cases e : j = i + 1
  · subst e
    rw [hd] at hj
    have e1 := Option.some.inj hj
    subst e1
    rw [he] at hq
    have e2 := Int.ofNat.inj hq
    subst e2
    exact hm.l p ((hps p).2 ⟨hp, hE⟩)
  · exact h.fix hc j d' q h1 (by omega) hj hq p hp hE

theorem L1.solved (hO : Order R root order) (hP : Place n order pl) (hr : root < n) (h : L1 R root n pl K k false T) : Solved R root n pl (T.set root (-1)) := by
  obtain ⟨hall, hfix⟩ := h.fix rfl
  have hdom : ∀ {x b}, Anc T root x b → Reach R root b → Dom R root x b := fun hA hb => h.up.fixed (fun b q h1 h2 h3 p h4 h5 => by
    by_cases hb : Reach R root b
    · exact hfix b q h1 hb h3 p (hall p h4) h5
    · exact absurd (.step h4 h5) hb) hall hA hb
  have hre : ∀ b : Nat, 0 ≤ lk T b → Reach R root b := fun b hb => (hO.mem b).1 (List.mem_of_getElem? (placeAt hP (h.up.proc b hb)).1)
  have hrl : root < T.length := by rw [h.len]; exact hr
  refine ⟨by rw [List.length_set]; exact h.len, ?_, ?_⟩
  · intro b hb hor
    by_cases e : root = b
    · subst e; rw [List.getElem?_set_self hrl]
    · rw [List.getElem?_set_ne e]
      have h1 : ¬ 0 ≤ lk T b := fun h1 => hor.elim (fun h2 => h2 (hre b h1)) (fun h2 => e h2.symm)
      have h2 := h.neg b hb (by omega)
      unfold lk at h2
      have hbl : b < T.length := by rw [h.len]; exact hb
      have h3 : T[b]? = some T[b] := List.getElem?_eq_getElem hbl
      rw [h3] at h2 ⊢
      exact congrArg some h2
  · intro b hb hbr
    obtain ⟨p, h1, h2, h3⟩ := h.up.par b (hall b hb) hbr
    have h4 := lk_get (l := T) (i := b) (by omega)
    rw [h1] at h4
    refine ⟨p, by rw [List.getElem?_set_ne (fun e => hbr e.symm)]; exact h4, by rintro rfl; omega, hdom (.up hbr h1 (.refl _)) hb, fun x hx hd => h.up.sdom b (hall b hb) hbr x hx hd p h1, h2, hre p h3⟩
end
end Go.GL.Dom
