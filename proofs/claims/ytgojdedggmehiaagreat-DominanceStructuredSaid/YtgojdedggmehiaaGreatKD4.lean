/-
  Contracts and the mathematics that the proof needs. Nothing here is a claim.
-/
import Derived.Test.YtgojdedggmehiaaGreatKD3
namespace Go.Proofs.YtgojdedggmehiaaGreat
open Go.GL
inductive Pth (G : List Nd) : Nat → Nat → Prop
 | refl (i : Nat) : Pth G i i
 | step {i j k : Nat} {x : Nd} : G[i]? = some x → ((j : Int) = x.next ∨ (j : Int) = x.other) → Pth G j k → Pth G i k
theorem Pth.trans {G : List Nd} {i j k : Nat} (h : Pth G i j) (h' : Pth G j k) : Pth G i k := by
 induction h with
 | refl => exact h'
 | step hx he _ ih => exact .step hx he (ih h')
theorem Pth.one {G : List Nd} {i j : Nat} {x : Nd} (hx : G[i]? = some x) (h : (j : Int) = x.next ∨ (j : Int) = x.other) : Pth G i j := .step hx h (.refl _)
structure LayP (G : List Nd) (n W e : Nat) : Prop where
 fr : ∀ j, j < W → Pth G n (n + j)
 to : ∀ j, j < W → Pth G (n + j) e
 bk : ∀ (j : Nat) x, j < W → G[n + j]? = some x → ∀ t : Nat, (t : Int) = x.next ∨ (t : Int) = x.other → t ≤ n + j → t = e ∨ ∃ y, G[t]? = some y ∧ y.kind = 5
theorem LayP.append {G : List Nd} {n W1 W2 e e' : Nat} (h1 : LayP G n W1 e') (h2 : LayP G (n + W1) W2 e) (hw : 1 ≤ W1) (he : e' = n + W1 ∧ 1 ≤ W2 ∨ e' = e ∧ W2 = 0) : LayP G n (W1 + W2) e := by
 have hto : ∀ j, j < W1 → Pth G (n + j) e := fun j hj => by
  rcases he with ⟨he, h⟩ | ⟨he, _⟩
  · exact (h1.to j hj).trans (he ▸ h2.to 0 h)
  exact he ▸ h1.to j hj
 refine ⟨fun j hj => ?_, fun j hj => ?_, fun j x hj hx t ht hle => ?_⟩
 ·
  by_cases h : j < W1
  · exact h1.fr j h
  have h3 := h1.to 0 (by omega)
  rcases he with ⟨he, _⟩ | ⟨_, h4⟩
  ·
   have h5 := h2.fr (j - W1) (by omega)
   rw [show n + W1 + (j - W1) = n + j by omega] at h5
   exact h3.trans (he ▸ h5)
  omega
 ·
  by_cases h : j < W1
  · exact hto j h
  have h5 := h2.to (j - W1) (by omega)
  rwa [show n + W1 + (j - W1) = n + j by omega] at h5
 by_cases h : j < W1
 ·
  rcases h1.bk j x h hx t ht hle with h3 | h3
  ·
   rcases he with ⟨he, _⟩ | ⟨he, _⟩
   · omega
   exact .inl (by omega)
  exact .inr h3
 have e1 : n + j = n + W1 + (j - W1) := by omega
 rw [e1] at hx hle
 exact h2.bk (j - W1) x (by omega) hx t ht hle
theorem lay_pth (l : List St) : plainL l = true → ∀ (a n e : Nat) (G : List Nd), CtxG G n (layL l a n e) → LayP G n (widL l) e := by
 induction l using Sts.ind with
 | h l ih =>
 intro hp
 have key : ∀ r : List St, (∀ x ∈ r, x ∈ l) → ∀ (a n e : Nat) (G : List Nd), CtxG G n (layL r a n e) → LayP G n (widL r) e := by
  intro r
  induction r with
  | nil => intro _ a n e G _; exact ⟨fun j hj => by simp [widL] at hj, fun j hj => by simp [widL] at hj, fun j x hj => by simp [widL] at hj⟩
  | cons s r ihr =>
   intro hm a n e G hG
   have hs := plainL_mem hp s (hm s (List.mem_cons_self ..))
   have hps := hs
   rw [s.plainB_eq, Bool.and_eq_true, Bool.and_eq_true] at hs
   have h1 := (ih s (hm s (List.mem_cons_self ..))).1 hs.1.2
   have h2 := (ih s (hm s (List.mem_cons_self ..))).2 hs.2
   have hw := s.wid_eq
   rw [layL] at hG
   rw [widL]
   have hlen : (s.lay a n (if r.isEmpty then e else n + s.wid)).length = s.wid := by
    have h1 := layL_len [s] (by rw [plainL, hps]; rfl) a n (if r.isEmpty then e else n + s.wid)
    simpa [layL, widL] using h1
   have hR := ihr (fun y hy => hm y (List.mem_cons_of_mem _ hy)) _ (n + s.wid) e G (hG.right (by omega))
   have he' : (if r.isEmpty then e else n + s.wid) = n + s.wid ∧ 1 ≤ widL r ∨ (if r.isEmpty then e else n + s.wid) = e ∧ widL r = 0 := by
    cases hre : r.isEmpty
    · exact .inl ⟨by simp, lay_pos hre⟩
    refine .inr ⟨by simp, ?_⟩
    rw [List.isEmpty_iff] at hre
    rw [hre]; rfl
   replace hG := hG.left
   generalize (if r.isEmpty then e else n + s.wid) = e' at hG he' hlen
   refine LayP.append ?_ hR (by omega) he'
   clear he' hR
   rw [s.lay_eq] at hG hlen
   split at hG
   ·
    rename_i a3
    rw [if_neg (show ¬ s.act = 4 by omega)] at hw
    have hl1 := layL_len s.thn hs.1.2 (a + 1) (n + 1) e'
    have hx := hG.head
    have t1 := h1 _ _ _ G hG.tail.left
    have t2 := h2 _ _ _ G (hG.tail.right (by omega))
    have c1 : s.thn.isEmpty = true ∧ widL s.thn = 0 ∨ s.thn.isEmpty = false ∧ 1 ≤ widL s.thn := by
     cases ht : s.thn.isEmpty
     · exact .inr ⟨rfl, lay_pos ht⟩
     rw [List.isEmpty_iff] at ht; rw [ht]; exact .inl ⟨rfl, rfl⟩
    have c2 : s.els.isEmpty = true ∧ widL s.els = 0 ∨ s.els.isEmpty = false ∧ 1 ≤ widL s.els := by
     cases ht : s.els.isEmpty
     · exact .inr ⟨rfl, lay_pos ht⟩
     rw [List.isEmpty_iff] at ht; rw [ht]; exact .inl ⟨rfl, rfl⟩
    have hn : (s.thn.isEmpty = true → Pth G n e') ∧ (s.thn.isEmpty = false → Pth G n (n + 1)) := ⟨fun h => Pth.one hx (.inl (by simp [h])), fun h => Pth.one hx (.inl (by simp [h]))⟩
    have ho : (s.els.isEmpty = false → Pth G n (n + 1 + widL s.thn)) := fun h => Pth.one hx (.inr (by simp [h]))
    refine ⟨fun j hj => ?_, fun j hj => ?_, fun j x hj hxj t ht hle => ?_⟩
    ·
     by_cases j0 : j = 0
     · subst j0; exact .refl _
     by_cases hj1 : j ≤ widL s.thn
     ·
      have h3 := t1.fr (j - 1) (by omega)
      rw [show n + 1 + (j - 1) = n + j by omega] at h3
      exact (hn.2 (c1.resolve_left (by omega)).1).trans h3
     have h3 := t2.fr (j - 1 - widL s.thn) (by omega)
     rw [show n + 1 + widL s.thn + (j - 1 - widL s.thn) = n + j by omega] at h3
     exact (ho (c2.resolve_left (by omega)).1).trans h3
    ·
     by_cases j0 : j = 0
     ·
      subst j0
      rcases c1 with c1 | c1
      · exact hn.1 c1.1
      exact (hn.2 c1.1).trans (t1.to 0 c1.2)
     by_cases hj1 : j ≤ widL s.thn
     ·
      have h3 := t1.to (j - 1) (by omega)
      rwa [show n + 1 + (j - 1) = n + j by omega] at h3
     have h3 := t2.to (j - 1 - widL s.thn) (by omega)
     rwa [show n + 1 + widL s.thn + (j - 1 - widL s.thn) = n + j by omega] at h3
    by_cases j0 : j = 0
    ·
     subst j0
     rw [Nat.add_zero, hx] at hxj
     cases hxj
     dsimp only at ht
     refine .inl ?_
     rcases ht with ht | ht <;> split at ht <;> omega
    by_cases hj1 : j ≤ widL s.thn
    ·
     have e1 : n + j = n + 1 + (j - 1) := by omega
     rw [e1] at hxj hle
     exact t1.bk (j - 1) x (by omega) hxj t ht hle
    have e1 : n + j = n + 1 + widL s.thn + (j - 1 - widL s.thn) := by omega
    rw [e1] at hxj hle
    exact t2.bk (j - 1 - widL s.thn) x (by omega) hxj t ht hle
   rename_i a3
   split at hG
   ·
    rename_i a4
    rw [if_pos a4] at hw
    rw [if_neg a3, if_pos a4, List.length_cons, List.length_cons, layL_len _ hs.1.2] at hlen
    have hx := hG.head
    have hy := hG.tail.head
    have t1 := h1 _ _ _ G hG.tail.tail
    have c1 : s.thn.isEmpty = true ∧ widL s.thn = 0 ∨ s.thn.isEmpty = false ∧ 1 ≤ widL s.thn := by
     cases ht : s.thn.isEmpty
     · exact .inr ⟨rfl, lay_pos ht⟩
     rw [List.isEmpty_iff] at ht; rw [ht]; exact .inl ⟨rfl, rfl⟩
    have p1 : Pth G n (n + 1) := Pth.one hx (.inl rfl)
    have p2 : Pth G (n + 1) e' := Pth.one hy (.inr rfl)
    have p3 : s.thn.isEmpty = false → Pth G (n + 1) (n + 2) := fun h => Pth.one hy (.inl (by simp [h]))
    refine ⟨fun j hj => ?_, fun j hj => ?_, fun j x hj hxj t ht hle => ?_⟩
    ·
     match j with
     | 0 => exact .refl _
     | 1 => exact p1
     | j + 2 =>
      have h3 := t1.fr j (by omega)
      rw [show n + 2 + j = n + (j + 2) by omega] at h3
      exact p1.trans ((p3 (c1.resolve_left (by omega)).1).trans h3)
    ·
     match j with
     | 0 => exact p1.trans p2
     | 1 => exact p2
     | j + 2 =>
      have h3 := t1.to j (by omega)
      rw [show n + 2 + j = n + (j + 2) by omega] at h3
      exact h3.trans p2
    match j with
    | 0 =>
     rw [Nat.add_zero, hx] at hxj
     cases hxj
     dsimp only at ht
     omega
    | 1 =>
     rw [hy] at hxj
     cases hxj
     dsimp only at ht
     rcases ht with ht | ht
     ·
      split at ht
      · exact .inr ⟨_, (show t = n + 1 by omega) ▸ hy, rfl⟩
      omega
     exact .inl (by omega)
    | j + 2 =>
     have e1 : n + (j + 2) = n + 2 + j := by omega
     rw [e1] at hxj hle
     rcases t1.bk j x (by omega) hxj t ht hle with h3 | h3
     · exact .inr ⟨_, h3 ▸ hy, rfl⟩
     exact .inr h3
   rename_i a4
   rw [if_neg a3, if_neg a4, List.length_singleton] at hlen
   have hx := hG.head
   refine ⟨fun j hj => ?_, fun j hj => ?_, fun j x hj hxj t ht hle => ?_⟩
   ·
    obtain rfl : j = 0 := by omega
    exact .refl _
   ·
    obtain rfl : j = 0 := by omega
    exact Pth.one hx (.inl rfl)
   obtain rfl : j = 0 := by omega
   rw [Nat.add_zero, hx] at hxj
   cases hxj
   dsimp only at ht
   exact .inl (by omega)
 exact key l (fun x h => h)
theorem Valid.ways {f : Fl} (V : Valid f) : (∀ i, i < (cfgN f).length → Pth (cfgN f) 0 i ∧ Pth (cfgN f) i ((cfgN f).length - 1)) ∧ ∀ (i : Nat) x, (cfgN f)[i]? = some x → ∀ t : Nat, (t : Int) = x.next ∨ (t : Int) = x.other → t ≤ i → ∃ y, (cfgN f)[t]? = some y ∧ y.kind = 5 := by
 have hlen := cfgN_len f V.plain
 have hll := layL_len f.body V.plain 0 1 (1 + widL f.body)
 have hG : CtxG (cfgN f) 1 (layL f.body 0 1 (1 + widL f.body)) := by
  intro i x hx
  have hi := (List.getElem?_eq_some_iff.1 hx).1
  unfold cfgN
  rw [show 1 + i = i + 1 by omega, List.getElem?_cons_succ, List.getElem?_append_left hi]; exact hx
 have hL := lay_pth f.body V.plain 0 1 (1 + widL f.body) (cfgN f) hG
 have h0 : (cfgN f)[0]? = some (⟨0, -1, 1, -1⟩ : Nd) := rfl
 have hE : (cfgN f)[1 + widL f.body]? = some (⟨1, -1, -1, -1⟩ : Nd) := by
  unfold cfgN
  rw [List.getElem?_cons, if_neg (by omega), List.getElem?_append_right (by omega), hll, show 1 + widL f.body - 1 - widL f.body = 0 by omega]; rfl
 have p0 : Pth (cfgN f) 0 1 := Pth.one h0 (.inl rfl)
 have pe : Pth (cfgN f) 1 (1 + widL f.body) := by
  by_cases hw : widL f.body = 0
  · rw [hw]; exact .refl _
  exact hL.to 0 (by omega)
 refine ⟨fun i hi => ?_, fun i x hx t ht hle => ?_⟩
 ·
  rw [show (cfgN f).length - 1 = 1 + widL f.body by omega]
  by_cases i0 : i = 0
  · subst i0; exact ⟨.refl _, p0.trans pe⟩
  by_cases ie : i = 1 + widL f.body
  · subst ie; exact ⟨p0.trans pe, .refl _⟩
  have a1 := hL.fr (i - 1) (by omega)
  have a2 := hL.to (i - 1) (by omega)
  rw [show 1 + (i - 1) = i by omega] at a1 a2
  exact ⟨p0.trans a1, a2⟩
 have hi := (List.getElem?_eq_some_iff.1 hx).1
 by_cases i0 : i = 0
 ·
  subst i0
  rw [h0] at hx
  cases hx
  dsimp only at ht
  omega
 by_cases ie : i = 1 + widL f.body
 ·
  subst ie
  rw [hE] at hx
  cases hx
  dsimp only at ht
  omega
 rw [show i = 1 + (i - 1) by omega] at hx hle
 rcases hL.bk (i - 1) x (by omega) hx t ht hle with h | h
 · omega
 exact h
end Go.Proofs.YtgojdedggmehiaaGreat
namespace Go.GL
def St.hd (s : St) : Nat := if s.act = 4 then 1 else 0
def topN : List St → Nat → List Nat
 | [], _ => []
 | s :: r, n => (n :: if s.act = 4 then [n + 1] else []) ++ topN r (n + s.wid)
mutual
/-- The pairs of what stands in a step of a block. -/
def St.dep : St → Nat → List (Nat × Nat)
 | .mk a _ _ _ _ th el _, n => (if a = 4 then [(n + 1, n + 1)] else []) ++ (topN th (n + (if a = 4 then 1 else 0) + 1)).map (fun x => (n + (if a = 4 then 1 else 0), x)) ++ (topN el (n + (if a = 4 then 1 else 0) + 1 + widL th)).map (fun x => (n + (if a = 4 then 1 else 0), x)) ++ depL th (n + (if a = 4 then 1 else 0) + 1) ++ depL el (n + (if a = 4 then 1 else 0) + 1 + widL th)
def depL : List St → Nat → List (Nat × Nat)
 | [], _ => []
 | s :: r, n => s.dep n ++ depL r (n + s.wid)
end
mutual
/-- The same pairs as the law makes them, and those with the head h. -/
def St.ins : St → Nat → Int → List (Int × Int)
 | .mk a _ _ _ _ th el _, n, h => (if 0 ≤ h then [(h, (n : Int))] else []) ++ (if a = 4 then (if 0 ≤ h then [(h, ((n + 1 : Nat) : Int))] else []) ++ [(((n + 1 : Nat) : Int), ((n + 1 : Nat) : Int))] else []) ++ insL th (n + (if a = 4 then 1 else 0) + 1) ((n + (if a = 4 then 1 else 0) : Nat) : Int) ++ insL el (n + (if a = 4 then 1 else 0) + 1 + widL th) ((n + (if a = 4 then 1 else 0) : Nat) : Int)
def insL : List St → Nat → Int → List (Int × Int)
 | [], _, _ => []
 | s :: r, n, h => s.ins n h ++ insL r (n + s.wid) h
end
theorem St.dep_eq (s : St) (n : Nat) : s.dep n = (if s.act = 4 then [(n + 1, n + 1)] else []) ++ (topN s.thn (n + s.hd + 1)).map (fun x => (n + s.hd, x)) ++ (topN s.els (n + s.hd + 1 + widL s.thn)).map (fun x => (n + s.hd, x)) ++ depL s.thn (n + s.hd + 1) ++ depL s.els (n + s.hd + 1 + widL s.thn) := by cases s; rw [St.dep]; rfl
theorem St.ins_eq (s : St) (n : Nat) (h : Int) : s.ins n h = (if 0 ≤ h then [(h, (n : Int))] else []) ++ (if s.act = 4 then (if 0 ≤ h then [(h, ((n + 1 : Nat) : Int))] else []) ++ [(((n + 1 : Nat) : Int), ((n + 1 : Nat) : Int))] else []) ++ insL s.thn (n + s.hd + 1) ((n + s.hd : Nat) : Int) ++ insL s.els (n + s.hd + 1 + widL s.thn) ((n + s.hd : Nat) : Int) := by cases s; rw [St.ins]; rfl
theorem St.wid_hd (s : St) : s.wid = 1 + s.hd + widL s.thn + widL s.els := by
 have h : s.hd = if s.act = 4 then 1 else 0 := rfl
 rw [s.wid_eq, ← h]; omega
theorem exEx {α β : Type} {f : α → β} {p : α → Prop} {q : β → Prop} : (∃ b, (∃ a, p a ∧ f a = b) ∧ q b) ↔ ∃ a, p a ∧ q (f a) := ⟨fun ⟨_, ⟨a, h, rfl⟩, h2⟩ => ⟨a, h, h2⟩, fun ⟨a, h, h2⟩ => ⟨_, ⟨a, h, rfl⟩, h2⟩⟩
theorem mem_ins (l : List St) : ∀ (n : Nat) (h : Int) (p : Int × Int), p ∈ insL l n h ↔ (0 ≤ h ∧ ∃ x ∈ topN l n, p = (h, (x : Int))) ∨ ∃ y ∈ depL l n, p = ((y.1 : Int), (y.2 : Int)) := by
 induction l using Sts.ind with
 | h l ih =>
 have key : ∀ r : List St, (∀ x ∈ r, x ∈ l) → ∀ (n : Nat) (h : Int) (p : Int × Int), p ∈ insL r n h ↔ (0 ≤ h ∧ ∃ x ∈ topN r n, p = (h, (x : Int))) ∨ ∃ y ∈ depL r n, p = ((y.1 : Int), (y.2 : Int)) := by
  intro r
  induction r with
  | nil => intro _ n h p; simp [insL, topN, depL]
  | cons s r ihr =>
   intro hm n h p
   have h1 := (ih s (hm s (List.mem_cons_self ..))).1 (n + s.hd + 1) ((n + s.hd : Nat) : Int) p
   have h2 := (ih s (hm s (List.mem_cons_self ..))).2 (n + s.hd + 1 + widL s.thn) ((n + s.hd : Nat) : Int) p
   have h3 := ihr (fun y hy => hm y (List.mem_cons_of_mem _ hy)) (n + s.wid) h p
   have hz : (0 : Int) ≤ ((n + s.hd : Nat) : Int) := Int.natCast_nonneg _
   rw [insL, topN, depL, s.ins_eq, s.dep_eq]
   simp only [List.mem_append, h1, h2, h3, hz, true_and, List.mem_cons, List.mem_map]
   generalize topN s.thn (n + s.hd + 1) = A
   generalize topN s.els (n + s.hd + 1 + widL s.thn) = B
   generalize depL s.thn (n + s.hd + 1) = C
   generalize depL s.els (n + s.hd + 1 + widL s.thn) = E
   generalize topN r (n + s.wid) = F
   generalize depL r (n + s.wid) = H
   clear h1 h2 h3 hz ihr ih
   generalize s.hd = q
   by_cases a4 : s.act = 4 <;> by_cases h0 : 0 ≤ h <;> simp only [a4, h0, if_true, if_false, List.mem_append, List.mem_cons, List.not_mem_nil, false_or, or_false, true_and, false_and, or_and_right, exists_or, exists_eq_left, exEx] <;> exact Iff.of_eq (by ac_rfl)
 exact key l fun x h => h
theorem ins_range (l : List St) : ∀ (n : Nat) (h : Int), ∀ p ∈ insL l n h, ((n : Int) ≤ p.2 ∧ p.2 < n + widL l) ∧ (p.1 = h ∨ (n : Int) ≤ p.1 ∧ p.1 < n + widL l) := by
 induction l using Sts.ind with
 | h l ih =>
 have key : ∀ r : List St, (∀ x ∈ r, x ∈ l) → ∀ (n : Nat) (h : Int), ∀ p ∈ insL r n h, ((n : Int) ≤ p.2 ∧ p.2 < n + widL r) ∧ (p.1 = h ∨ (n : Int) ≤ p.1 ∧ p.1 < n + widL r) := by
  intro r
  induction r with
  | nil => intro _ n h p hp; simp [insL] at hp
  | cons s r ihr =>
   intro hm n h p hp
   have h1 := (ih s (hm s (List.mem_cons_self ..))).1 (n + s.hd + 1) ((n + s.hd : Nat) : Int) p
   have h2 := (ih s (hm s (List.mem_cons_self ..))).2 (n + s.hd + 1 + widL s.thn) ((n + s.hd : Nat) : Int) p
   have h3 := ihr (fun y hy => hm y (List.mem_cons_of_mem _ hy)) (n + s.wid) h p
   have hw := s.wid_hd
   rw [insL, s.ins_eq] at hp
   simp only [List.mem_append] at hp
   rw [widL]
   rcases hp with (((hp | hp) | hp) | hp) | hp
   ·
    split at hp
    · rw [List.mem_singleton] at hp; subst hp; dsimp only; omega
    cases hp
   ·
    split at hp
    ·
     rename_i a4
     have h5 : s.hd = 1 := if_pos a4
     rw [List.mem_append, List.mem_singleton] at hp
     rcases hp with hp | hp
     ·
      split at hp
      · rw [List.mem_singleton] at hp; subst hp; dsimp only; omega
      cases hp
     subst hp; dsimp only; omega
    cases hp
   · have := h1 hp; omega
   · have := h2 hp; omega
   have := h3 hp; omega
 exact key l fun x h => h
theorem ins_nodup (l : List St) : ∀ (n : Nat) (h : Int), h < n → (insL l n h).Nodup := by
 induction l using Sts.ind with
 | h l ih =>
 have key : ∀ r : List St, (∀ x ∈ r, x ∈ l) → ∀ (n : Nat) (h : Int), h < n → (insL r n h).Nodup := by
  intro r
  induction r with
  | nil => intro _ n h _; rw [insL]; exact List.nodup_nil
  | cons s r ihr =>
   intro hm n h hh
   have h1 := (ih s (hm s (List.mem_cons_self ..))).1 (n + s.hd + 1) ((n + s.hd : Nat) : Int) (by omega)
   have h2 := (ih s (hm s (List.mem_cons_self ..))).2 (n + s.hd + 1 + widL s.thn) ((n + s.hd : Nat) : Int) (by omega)
   have h3 := ihr (fun y hy => hm y (List.mem_cons_of_mem _ hy)) (n + s.wid) h (by omega)
   have r1 := ins_range s.thn (n + s.hd + 1) ((n + s.hd : Nat) : Int)
   have r2 := ins_range s.els (n + s.hd + 1 + widL s.thn) ((n + s.hd : Nat) : Int)
   have r3 := ins_range r (n + s.wid) h
   have hw := s.wid_hd
   rw [insL, s.ins_eq]
   have hA : ∀ p, p ∈ (if 0 ≤ h then [(h, (n : Int))] else []) → p = (h, (n : Int)) := fun p hp => by
    split at hp
    · exact List.mem_singleton.1 hp
    cases hp
   have hB : ∀ p, p ∈ (if s.act = 4 then (if 0 ≤ h then [(h, ((n + 1 : Nat) : Int))] else []) ++ [(((n + 1 : Nat) : Int), ((n + 1 : Nat) : Int))] else []) → p.2 = ((n + 1 : Nat) : Int) ∧ s.hd = 1 := fun p hp => by
    split at hp
    ·
     rename_i a4
     refine ⟨?_, if_pos a4⟩
     rw [List.mem_append, List.mem_singleton] at hp
     rcases hp with hp | hp
     ·
      split at hp
      · rw [List.mem_singleton] at hp; rw [hp]
      cases hp
     rw [hp]
    cases hp
   refine List.nodup_append.2 ⟨List.nodup_append.2 ⟨List.nodup_append.2 ⟨List.nodup_append.2 ⟨?_, ?_, fun p hp q hq e => ?_⟩, h1, fun p hp q hq e => ?_⟩, h2, fun p hp q hq e => ?_⟩, h3, fun p hp q hq e => ?_⟩
   · split <;> simp
   ·
    split
    ·
     split
     ·
      simp only [List.singleton_append, List.nodup_cons, List.mem_singleton, Prod.mk.injEq, List.not_mem_nil, not_false_eq_true, List.nodup_nil, and_true]
      omega
     simp
    exact List.nodup_nil
   ·
    subst e
    have g1 := hA p hp
    have g2 := (hB p hq).1
    rw [g1] at g2
    dsimp only at g2
    omega
   ·
    subst e
    have g2 := (r1 p hq).1
    rcases List.mem_append.1 hp with hp | hp
    ·
     have g1 := hA p hp
     rw [g1] at g2
     dsimp only at g2
     omega
    have g1 := hB p hp
    omega
   ·
    subst e
    have g2 := (r2 p hq).1
    rcases List.mem_append.1 hp with hp | hp
    ·
     rcases List.mem_append.1 hp with hp | hp
     ·
      have g1 := hA p hp
      rw [g1] at g2
      dsimp only at g2
      omega
     have g1 := hB p hp
     omega
    have g1 := (r1 p hp).1
    omega
   subst e
   have g2 := (r3 p hq).1
   rcases List.mem_append.1 hp with hp | hp
   ·
    rcases List.mem_append.1 hp with hp | hp
    ·
     rcases List.mem_append.1 hp with hp | hp
     ·
      have g1 := hA p hp
      rw [g1] at g2
      dsimp only at g2
      omega
     have g1 := hB p hp
     omega
    have g1 := (r1 p hp).1
    omega
   have g1 := (r2 p hp).1
   omega
 exact key l fun x h => h
end Go.GL
namespace Go.Proofs.YtgojdedggmehiaaGreat
open Go.GL Go.GL.Dom
theorem _root_.Go.GL.Dom.Blc.congr {R : List (List Int)} {X n W e : Nat} {T T' : Nat → Prop} {D D' : Nat → Nat → Prop} (h : Blc R X n W e T D) (hT : ∀ x, T x ↔ T' x) (hD : ∀ b x, D b x ↔ D' b x) : Blc R X n W e T' D' := by
 obtain rfl : T = T' := funext fun x => propext (hT x)
 obtain rfl : D = D' := funext fun b => funext fun x => propext (hD b x)
 exact h
theorem cond_mem {A B : List Nat} {C E : List (Nat × Nat)} {n b x : Nat} : ((b = n ∧ (x ∈ A ∨ x ∈ B)) ∨ (b, x) ∈ C ∨ (b, x) ∈ E) ↔ (b, x) ∈ A.map (fun x => (n, x)) ++ B.map (fun x => (n, x)) ++ C ++ E := by
 simp only [List.mem_append, List.mem_map, Prod.mk.injEq]; grind
theorem loop_mem {A : List Nat} {C : List (Nat × Nat)} {n b x : Nat} : ((b = n + 1 ∧ (x = n + 1 ∨ x ∈ A)) ∨ (b, x) ∈ C) ↔ (b, x) ∈ [(n + 1, n + 1)] ++ A.map (fun x => (n + 1, x)) ++ C := by
 simp only [List.mem_append, List.mem_map, List.mem_singleton, Prod.mk.injEq]; grind
section
variable {R : List (List Int)} {X : Nat} {G : List Nd} (hE : ∀ m t : Nat, Dfs.Edge R t m ↔ ∃ x, G[m]? = some x ∧ ((t : Int) = x.next ∨ (t : Int) = x.other))
include hE
theorem edge_of {n : Nat} {x : Nd} (hx : G[n]? = some x) (t : Nat) : Dfs.Edge R t n ↔ ((t : Int) = x.next ∨ (t : Int) = x.other) := by
 rw [hE]
 exact ⟨fun ⟨y, hy, h⟩ => by rw [hx] at hy; cases hy; exact h, fun h => ⟨x, hx, h⟩⟩
theorem lay_blc (l : List St) : plainL l = true → ∀ (a n e : Nat), CtxG G n (layL l a n e) → n + widL l ≤ X → Blc R X n (widL l) e (fun x => x ∈ topN l n) (fun b x => (b, x) ∈ depL l n) := by
 induction l using Sts.ind with
 | h l ih =>
 intro hp
 have key : ∀ r : List St, (∀ x ∈ r, x ∈ l) → ∀ (a n e : Nat), CtxG G n (layL r a n e) → n + widL r ≤ X → Blc R X n (widL r) e (fun x => x ∈ topN r n) (fun b x => (b, x) ∈ depL r n) := by
  intro r
  induction r with
  | nil => intro _ a n e _ _; exact (Blc.nil n e).congr (fun x => by simp [topN]) (fun b x => by simp [depL])
  | cons s r ihr =>
   intro hm a n e hG hX
   have hs := plainL_mem hp s (hm s (List.mem_cons_self ..))
   have hps := hs
   rw [s.plainB_eq, Bool.and_eq_true, Bool.and_eq_true] at hs
   have h1 := (ih s (hm s (List.mem_cons_self ..))).1 hs.1.2
   have h2 := (ih s (hm s (List.mem_cons_self ..))).2 hs.2
   have hw := s.wid_eq
   rw [layL] at hG
   rw [widL] at hX ⊢
   have hlen : (s.lay a n (if r.isEmpty then e else n + s.wid)).length = s.wid := by
    have h1 := layL_len [s] (by rw [plainL, hps]; rfl) a n (if r.isEmpty then e else n + s.wid)
    simpa [layL, widL] using h1
   have hR := ihr (fun y hy => hm y (List.mem_cons_of_mem _ hy)) _ (n + s.wid) e (hG.right (by omega)) (by omega)
   have he' : (if r.isEmpty then e else n + s.wid) = n + s.wid ∧ 1 ≤ widL r ∨ (if r.isEmpty then e else n + s.wid) = e ∧ widL r = 0 := by
    cases hre : r.isEmpty
    · exact .inl ⟨by simp, lay_pos hre⟩
    refine .inr ⟨by simp, ?_⟩
    rw [List.isEmpty_iff] at hre
    rw [hre]; rfl
   replace hG := hG.left
   generalize (if r.isEmpty then e else n + s.wid) = e' at hG he' hlen
   refine ((?_ : Blc R X n s.wid e' (fun x => x = n ∨ (s.act = 4 ∧ x = n + 1)) (fun b x => (b, x) ∈ s.dep n)).append hR (by omega) he').congr (fun x => by
    rw [topN]
    by_cases a4 : s.act = 4 <;> simp [a4, or_assoc]) (fun b x => by rw [depL, List.mem_append])
   clear he' hR
   rw [s.lay_eq] at hG hlen
   have c1 : s.thn.isEmpty = true ∧ widL s.thn = 0 ∨ s.thn.isEmpty = false ∧ 1 ≤ widL s.thn := by
    cases ht : s.thn.isEmpty
    · exact .inr ⟨rfl, lay_pos ht⟩
    rw [List.isEmpty_iff] at ht; rw [ht]; exact .inl ⟨rfl, rfl⟩
   split at hG
   ·
    rename_i a3
    have a4 : ¬ s.act = 4 := by omega
    rw [if_neg a4] at hw
    have hl1 := layL_len s.thn hs.1.2 (a + 1) (n + 1) e'
    have hx := edge_of hE hG.head
    have t1 := h1 _ _ _ hG.tail.left (by omega)
    have t2 := h2 _ _ _ (hG.tail.right (by omega)) (by omega)
    have c2 : s.els.isEmpty = true ∧ widL s.els = 0 ∨ s.els.isEmpty = false ∧ 1 ≤ widL s.els := by
     cases ht : s.els.isEmpty
     · exact .inr ⟨rfl, lay_pos ht⟩
     rw [List.isEmpty_iff] at ht; rw [ht]; exact .inl ⟨rfl, rfl⟩
    have hw' : s.wid = 1 + widL s.thn + widL s.els := by omega
    rw [hw']
    refine (Blc.cond (a1 := if s.thn.isEmpty then e' else n + 1) (a2 := if s.els.isEmpty then e' else n + 1 + widL s.thn) (by omega) t1 t2 (fun t => ?_) ?_ ?_).congr (fun x => by simp [a4]) (fun b x => ?_)
    ·
     rw [hx]
     dsimp only
     rcases c1 with ⟨c1, _⟩ | ⟨c1, _⟩ <;> rcases c2 with ⟨c2, _⟩ | ⟨c2, _⟩ <;> simp only [c1, c2, if_true, Bool.false_eq_true, if_false] <;> omega
    ·
     rcases c1 with ⟨c1, q⟩ | ⟨c1, q⟩
     · exact .inl ⟨by simp [c1], q⟩
     exact .inr ⟨by simp [c1], q⟩
    ·
     rcases c2 with ⟨c2, q⟩ | ⟨c2, q⟩
     · exact .inl ⟨by simp [c2], q⟩
     exact .inr ⟨by simp [c2], q⟩
    rw [s.dep_eq]
    have h5 : s.hd = 0 := if_neg a4
    simp only [h5, Nat.add_zero, if_neg a4, List.nil_append]
    exact cond_mem
   rename_i a3
   split at hG
   ·
    rename_i a4
    rw [if_pos a4] at hw
    have hes : s.els = [] := by
     have := hs.1.1
     rw [if_neg a3, if_pos a4] at this
     exact List.isEmpty_iff.1 this
    have hwe : widL s.els = 0 := by rw [hes]; rfl
    have hx := edge_of hE hG.head
    have hy := edge_of hE hG.tail.head
    have t1 := h1 _ _ _ hG.tail.tail (by omega)
    have hw' : s.wid = 2 + widL s.thn := by omega
    rw [hw']
    refine (Blc.loop (a1 := if s.thn.isEmpty then n + 1 else n + 2) (by omega) t1 (fun t => ?_) (fun t => ?_) ?_).congr (fun x => by simp [a4]) (fun b x => ?_)
    ·
     rw [hx]
     dsimp only
     omega
    ·
     rw [hy]
     dsimp only
     rcases c1 with ⟨c1, _⟩ | ⟨c1, _⟩ <;> simp only [c1, if_true, Bool.false_eq_true, if_false] <;> omega
    ·
     rcases c1 with ⟨c1, q⟩ | ⟨c1, q⟩
     · exact .inl ⟨by simp [c1], q⟩
     exact .inr ⟨by simp [c1], q⟩
    rw [s.dep_eq]
    have h5 : s.hd = 1 := if_pos a4
    simp only [h5, if_pos a4, hes, topN, depL, List.map_nil, List.append_nil]
    exact loop_mem
   rename_i a4
   have hte := hs.1.1
   rw [if_neg a3, if_neg a4, Bool.and_eq_true, List.isEmpty_iff, List.isEmpty_iff] at hte
   rw [if_neg a4, hte.1, hte.2] at hw
   have hx := edge_of hE hG.head
   have hw' : s.wid = 1 := by rw [hw]; rfl
   rw [hw']
   refine (Blc.plain (by omega) (fun t => ?_)).congr (fun x => by simp [a4]) (fun b x => ?_)
   ·
    rw [hx]
    dsimp only
    omega
   rw [s.dep_eq]
   simp [a4, hte.1, hte.2, topN, depL]
 exact key l fun x h => h
end
theorem cfg_dep {f : Fl} (V : Valid f) {R : List (List Int)} {X : Nat} (hX : X = 1 + widL f.body) (hE : ∀ m t : Nat, Dfs.Edge R t m ↔ ∃ x, (cfgN f)[m]? = some x ∧ ((t : Int) = x.next ∨ (t : Int) = x.other)) (b x : Nat) : Front R X x b ↔ ((b : Int), (x : Int)) ∈ insL f.body 1 (-1) := by
 have hlen := cfgN_len f V.plain
 have hll := layL_len f.body V.plain 0 1 (1 + widL f.body)
 have hG : CtxG (cfgN f) 1 (layL f.body 0 1 (1 + widL f.body)) := by
  intro i x hx
  have hi := (List.getElem?_eq_some_iff.1 hx).1
  unfold cfgN
  rw [show 1 + i = i + 1 by omega, List.getElem?_cons_succ, List.getElem?_append_left hi]; exact hx
 have hB := lay_blc (X := X) hE f.body V.plain 0 1 (1 + widL f.body) hG (by omega)
 rw [← hX] at hB
 have hst : ∀ y, y ≠ X → Rnd R X y X := fun y hy => ⟨0, .start fun h => hy h.symm⟩
 have h0 : ∀ t, Dfs.Edge R t 0 ↔ t = 1 := fun t => by
  rw [edge_of hE (x := ⟨0, -1, 1, -1⟩) rfl]
  dsimp only
  omega
 have hlast : (cfgN f)[X]? = some ⟨1, -1, -1, -1⟩ := by
  unfold cfgN
  rw [hX, List.getElem?_cons, if_neg (by omega), List.getElem?_append_right (by omega), hll, show 1 + widL f.body - 1 - widL f.body = 0 by omega]; rfl
 have hrr : ∀ {t k : Nat}, Pth (cfgN f) t k → Dfs.Reach R k t := fun {t k} hp => by
  induction hp with
  | refl => exact .refl
  | step hx ht _ ih => exact .step ih ((hE _ _).2 ⟨_, hx, ht⟩)
 have hreach : ∀ m t, Dfs.Edge R t m → Dfs.Reach R X t := fun m t h => by
  obtain ⟨y, hy, ht⟩ := (hE m t).1 h
  have htl : t < (cfgN f).length := by
   have h1 := ((V.edge hy).1 t ht).2
   omega
  have hp := (V.ways.1 t htl).2
  have hX' : (cfgN f).length - 1 = X := by omega
  rw [hX'] at hp
  exact hrr hp
 have hFD : Front R X x b ↔ Dep R X x b := ⟨fun ⟨a, _, h1, h2⟩ => ⟨a, h1, h2.1, h2.2⟩, fun ⟨a, h1, h2, h3⟩ => ⟨a, hreach _ _ h1, h1, h2, h3⟩⟩
 have hmem : ((b : Int), (x : Int)) ∈ insL f.body 1 (-1) ↔ (b, x) ∈ depL f.body 1 := by
  rw [mem_ins]
  constructor
  ·
   rintro (⟨h, _⟩ | ⟨y, hy, he⟩)
   · omega
   simp only [Prod.mk.injEq] at he
   have : y = (b, x) := Prod.ext (by omega) (by omega)
   rwa [← this]
  intro h
  exact .inr ⟨(b, x), h, rfl⟩
 rw [hFD, hmem]
 by_cases hb : 1 ≤ b ∧ b < 1 + widL f.body
 · exact hB.frt (fun y h1 h2 => hst y (by omega)) b hb.1 hb.2 x
 refine ⟨fun h => absurd h ?_, fun h => absurd (hB.din b x h) hb⟩
 by_cases hb0 : b = 0
 ·
  subst hb0
  refine Dep.one (by omega) (fun t ht => (h0 t).1 ht) ?_ x
  by_cases hW : 0 < widL f.body
  · exact hB.av 0 1 (by omega) (by omega) (by omega) (hst 0 (by omega))
  have : (1 : Nat) = X := by omega
  rw [this]
  exact hst 0 (by omega)
 rintro ⟨a, h1, _, _⟩
 obtain ⟨y, hy, ht⟩ := (hE b a).1 h1
 by_cases hbX : b = X
 ·
  subst hbX
  rw [hlast] at hy
  cases hy
  dsimp only at ht
  omega
 have := (List.getElem?_eq_some_iff.1 hy).1
 omega
open Go.GL
theorem flatP_len (l : List (Int × Int)) : (l.flatMap encP).length = l.length * 2 := flat_len encP_len l
theorem cloneP_ok (es : List (Int × Int)) (v : Value) (D : Nat → Prop) (w : World) (hes : SlR 2 RPair D w v es) (hlen : es.length ≤ 1048576) : Calls Tryz.prog 93 #[v] w (Ret fun u w' => w'.ownsRow 0 43 2 u es.length (es.flatMap encP) ∧ (∀ g, u.ownBlock = some g → w.heap.size ≤ g) ∧ Ext w w') := by
 obtain ⟨ao, cap, rfl, hlc, hcm, hel⟩ := hes
 refine G.in1 Tryz.func93 rfl Tryz.ntmps93 rfl (Gs 9 rfl (G.ops1 rfl rfl (R.eqNil Tryz.underlying35 rfl) (Gs 2 rfl (G.bool0 rfl (fun h => ?_) (fun h => ?_)))))
 ·
  refine Gs 7 rfl ?_
  have : es = [] := by
   cases es with
   | nil => rfl
   | cons x r =>
    obtain ⟨b, o, cs, hao, _⟩ := hel 0 x rfl
    rw [hao] at h; cases h
  subst this
  refine G.ret1 Tryz.results93 rfl ⟨_, rfl, own_nil _ _ _, by simp [Value.ownBlock], Keep.refl _ _⟩
 obtain ⟨a0, rfl⟩ : ∃ a0, ao = some a0 := by cases ao with
  | none => cases h
  | some a0 => exact ⟨a0, rfl⟩
 refine Gs 4 rfl (G.mem rfl rfl (M.buildSlice0 Tryz.runUnderlying35 Tryz.sizeOf43) ?_)
 rintro _ w1 ⟨b, rfl, hb, hs, hB, hk⟩
 refine Gs 1 rfl ?_
 have hown : w1.ownsRow 0 43 2 (.slice (some ⟨b, 0, none⟩) 0 0) 0 [] := own_blk hB (Nat.le_refl _) (by omega) rfl
 have hnews : ∀ q u, (es.flatMap encP)[q]? = some u → w1.cell? (a0.add q) = some u := by
  intro q u hq
  have hq2 : q < es.length * 2 := by rw [← flatP_len]; exact (List.getElem?_eq_some_iff.1 hq).1
  obtain ⟨x, hx⟩ : ∃ x, es[q / 2]? = some x := ⟨_, List.getElem?_eq_getElem (by omega)⟩
  obtain ⟨b', o', cs, hao, _, hcl, hcs, rfl⟩ := hel (q / 2) x hx
  cases hao
  have h1 : ∃ u', (encP x)[q % 2]? = some u' := ⟨_, List.getElem?_eq_getElem (by rw [encP_len]; omega)⟩
  obtain ⟨u', hu'⟩ := h1
  have h2 := flat_at encP_len hx [] (q % 2) u' hu'
  rw [List.append_nil, show q / 2 * 2 + q % 2 = q from by omega, hq] at h2
  cases h2
  have h3 := hcs (q % 2) u hu'
  rw [addr_add]
  rw [show o' + q / 2 * 2 + q % 2 = o' + q from by omega] at h3
  exact hk.cell h3 (fun h => h)
 refine G.mem rfl rfl (M.append Tryz.underlying35 Tryz.el43 rfl (by decide) rfl rfl hown (flatP_len es) hnews (by intro u hu; obtain ⟨x, _, hx⟩ := List.mem_flatMap.1 hu; exact encP_one x u hx) (by omega) (by omega)) ?_
 rintro u w2 ⟨hown2, hfr, hk2, _⟩
 refine Gs 4 rfl (G.ret1 Tryz.results93 rfl ⟨_, rfl, by simpa using hown2, ?_, hk.trans hk2 (fun q hq h => by simp [Value.ownBlock] at h; omega)⟩)
 intro g hg
 rcases hfr with h' | ⟨g', h', h''⟩
 · rw [h'] at hg; simp [Value.ownBlock] at hg; omega
 rw [h'] at hg; cases hg; have := hk.size; omega
theorem zeros2 (m : Nat) : Builtin.zeroCells (Value.agg #[.int .i64 0, .int .i64 0]).cells m = (List.replicate (m * 2) (.int .i64 0)).toArray := by
 apply Array.ext
 · simp [Builtin.zeroCells, Value.cells]
 intro i h1 h2
 have : i % 2 = 0 ∨ i % 2 = 1 := by omega
 rcases this with h | h <;> simp [Builtin.zeroCells, Value.cells, h]
theorem compactP_ok (es : List (Int × Int)) (v : Value) (n : Nat) (w : World) (hown : w.ownsRow 0 43 2 v n (es.flatMap encP)) (hlen : es.length ≤ 1048576) : Calls Tryz.prog 95 #[v] w (Ret fun u w' => w'.ownsRow 0 43 2 u (Gr.compactL es).length ((Gr.compactL es).flatMap encP) ∧ u.ownBlock = v.ownBlock ∧ Keep (fun q => v.ownBlock = some q) w w') := by
 have hn : n = es.length := by
  have := hown.1
  rw [flatP_len] at this
  omega
 subst hn
 by_cases h0 : es = []
 ·
  subst h0
  obtain ⟨l, c, hv⟩ : ∃ ao c, v = .slice ao 0 c := by
   rcases hown.2 with ⟨rfl, _⟩ | ⟨g, cap, cur, rfl, _⟩ <;> exact ⟨_, _, rfl⟩
  subst hv
  refine G.in1 Tryz.func95 rfl Tryz.ntmps95 rfl (Gs 13 rfl (G.tt rfl (rfl) (Gs 8 rfl (G.ret1 Tryz.results95 rfl ⟨_, rfl, hown, rfl, Keep.refl _ _⟩))))
 obtain ⟨g, cap, sp, rfl, _, hnc, hcm, hB, hcl⟩ := own_open encP_len (by omega) hown h0
 refine G.in1 Tryz.func95 rfl Tryz.ntmps95 rfl (Gs 13 rfl (G.ite0 rfl (fun h2 => ?_) (fun h2 => ?_)))
 ·
  refine Gs 8 rfl ?_
  have e1 : Gr.compactL es = es := by
   match es, h0, h2 with
   | [x], _, _ => rfl
   | x :: y :: r, _, h => simp at h; omega
  refine G.ret1 Tryz.results95 rfl ⟨_, rfl, by rw [e1]; exact hown, rfl, Keep.refl _ _⟩
 refine Gs 9 rfl ?_
 have e1 : Gr.compactL (es.take 1) = es.take 1 := by
  match es, h0 with
  | x :: r, _ => rfl
 refine G.loop (σ := Nat) (fun k => [(0, .slice (some ⟨g, 0, none⟩) es.length cap), (3, .int .i64 k)]) (fun k => fun w' => 1 ≤ k ∧ k ≤ es.length ∧ Gr.compactL (es.take k) = es.take k ∧ Ext w w') (fun k => es.length - k) (1) (Sub.of rfl) (⟨by omega, by omega, e1, Keep.refl _ _⟩) ?_
 rintro k w2 ⟨hk1, hkn, hck, hk2⟩
 have hB2 := hk2.blk hB (fun h => h)
 refine Gs 9 rfl (G.ite0 rfl (fun hlt => ?_) (fun hge => ?_))
 ·
  refine Gs 5 rfl (Qt (by kernel_rfl) (Gs 2 rfl ?_))
  obtain ⟨x, hx⟩ : ∃ e, es[k]? = some e := ⟨_, List.getElem?_eq_getElem (by omega)⟩
  obtain ⟨y, hy⟩ : ∃ e, es[k - 1]? = some e := ⟨_, List.getElem?_eq_getElem (by omega)⟩
  refine Ga 1 rfl (by omega) (G.opQ rfl rfl (fun w1 hw1 => R.loadK Tryz.isAgg43 Tryz.sizeOf43 rfl (by rfl) (hw1.cells (flat_cells encP_len hB2 hx) (fun h => h))) (Ga 4 rfl (by omega) (G.opQ rfl rfl (fun w1 hw1 => R.loadK Tryz.isAgg43 Tryz.sizeOf43 rfl (by rfl) (hw1.cells (show Cells w2 g (0 + ((k : Int) - 1).toNat * 2) (encP y) from by rw [show ((k : Int) - 1).toNat = k - 1 from by omega]; exact flat_cells encP_len hB2 hy) (fun h => h))) (G.opQ rfl rfl (fun w1 hw1 => R.eqP Tryz.underlying43 Tryz.underlying3 (by kernel_rfl) (by kernel_rfl) Tryz.isAgg3 (by kernel_rfl) rfl rfl) (G.nilQ (fun w3 hw3 => ?_))))))
  have hB3 := hw3.blk hB2 (fun h => h)
  have hlast : (Gr.compactL (es.take k)).getLast? = some y := by
   have := Gr.compactL_last hy
   rwa [show k - 1 + 1 = k from by omega] at this
  refine Gs 1 rfl (G.ite0 rfl (fun heq => ?_) (fun hne => ?_))
  ·
   refine Gs 4 rfl ?_
   have hxy : x = y := heq
   refine G.ops1 rfl rfl (R.cutLo Tryz.runUnderlying35 Tryz.sizeOf43 rfl rfl rfl (by omega) (by omega)) (Gs 10 rfl ?_)
   have hs0 : Gr.compactL (es.take (k + 1)) = es.take k := by
    rw [Gr.compactL_take hx]
    unfold Gr.cstep
    rw [if_pos (by rw [hlast, hxy]), hck]
   refine G.loop (σ := Nat × Nat × List (Int × Int)) (fun ⟨q, k2, L⟩ => [(0, .slice (some ⟨g, 0, none⟩) es.length cap), (3, .int .i64 q), (4, .slice (some ⟨g, 0 + k * 2, none⟩) (es.length - k) (cap - k)), (5, .int .i64 k2)]) (fun ⟨q, k2, L⟩ => fun w' => Blk w' g (L.flatMap encP ++ sp) 43 ∧ L.length = es.length ∧ k ≤ q ∧ q + 1 ≤ k + k2 ∧ 1 ≤ k2 ∧ k2 ≤ es.length - k ∧ L.take q = Gr.compactL (es.take (k + k2)) ∧ L.drop (k + k2 - 1) = es.drop (k + k2 - 1) ∧ Keep (fun b => b = g) w w') (fun ⟨q, k2, L⟩ => es.length - k - k2) ((k, 1, es)) (Sub.of rfl) (⟨hB3, rfl, Nat.le_refl _, by omega, by omega, by omega, hs0.symm, rfl, (hk2.ext hw3).mono (fun _ _ h => h.elim)⟩) ?_
   rintro ⟨q, k2, L⟩ w4 ⟨hB4, hL, hq1, hq2, hk21, hk22, htk, hdr, hK4⟩
   show G _ _ _ _ _ [(0, .slice (some ⟨g, 0, none⟩) es.length cap), (3, .int .i64 q), (4, .slice (some ⟨g, 0 + k * 2, none⟩) (es.length - k) (cap - k)), (5, .int .i64 k2)] _
   have hclL : (L.flatMap encP ++ sp).length = cap * 2 := by rw [← hcl, List.length_append, List.length_append, flatP_len, flatP_len, hL]
   refine Gs 9 rfl (G.ite0 rfl (fun hlt2 => ?_) (fun hge2 => ?_))
   ·
    refine Gs 5 rfl (Qt (by kernel_rfl) (Gs 2 rfl ?_))
    obtain ⟨x2, hx2⟩ : ∃ e, es[k + k2]? = some e := ⟨_, List.getElem?_eq_getElem (by omega)⟩
    obtain ⟨y2, hy2⟩ : ∃ e, es[k + k2 - 1]? = some e := ⟨_, List.getElem?_eq_getElem (by omega)⟩
    have hLx : L[k + k2]? = some x2 := by
     have := congrArg (fun l => l[1]?) hdr
     simp only [List.getElem?_drop] at this
     rw [show k + k2 - 1 + 1 = k + k2 from by omega] at this
     rw [this]; exact hx2
    have hLy : L[k + k2 - 1]? = some y2 := by
     have := congrArg (fun l => l[0]?) hdr
     simp only [List.getElem?_drop, Nat.add_zero] at this
     rw [this]; exact hy2
    have hcx : Cells w4 g (0 + k * 2 + (k2 : Int).toNat * 2) (encP x2) := by
     have := flat_cells encP_len hB4 hLx
     rwa [show 0 + (k + k2) * 2 = 0 + k * 2 + (k2 : Int).toNat * 2 from by rw [Int.toNat_natCast]; omega] at this
    have hcy : Cells w4 g (0 + k * 2 + ((k2 : Int) - 1).toNat * 2) (encP y2) := by
     have := flat_cells encP_len hB4 hLy
     rwa [show 0 + (k + k2 - 1) * 2 = 0 + k * 2 + ((k2 : Int) - 1).toNat * 2 from by omega] at this
    refine Ga 1 rfl (by omega) (G.opQ rfl rfl (fun w1 hw1 => R.loadK Tryz.isAgg43 Tryz.sizeOf43 rfl (by rfl) (hw1.cells hcx (fun h => h))) (Ga 4 rfl (by omega) (G.opQ rfl rfl (fun w1 hw1 => R.loadK Tryz.isAgg43 Tryz.sizeOf43 rfl (by rfl) (hw1.cells hcy (fun h => h))) (G.opQ rfl rfl (fun w1 hw1 => R.neP Tryz.underlying43 Tryz.underlying3 (by kernel_rfl) (by kernel_rfl) Tryz.isAgg3 (by kernel_rfl) rfl rfl) (G.nilQ (fun w5 hw5 => ?_))))))
    have hB5 := hw5.blk hB4 (fun h => h)
    have hlast2 : (Gr.compactL (es.take (k + k2))).getLast? = some y2 := by
     have := Gr.compactL_last hy2
     rwa [show k + k2 - 1 + 1 = k + k2 from by omega] at this
    refine Gs 1 rfl (G.ite0 rfl (fun hne2 => ?_) (fun heq2 => ?_))
    ·
     refine Ga 7 rfl (by omega) (G.ldK rfl Tryz.isAgg43 Tryz.sizeOf43 (hw5.cells hcx (fun h => h)) rfl (Ga 1 rfl (by omega) (G.mem0 rfl (M.storeK Tryz.sizeOf43 rfl rfl rfl rfl (encP_one x2) hB5 (by rw [Int.toNat_natCast, hclL]; omega)) ?_)))
     rintro w6 ⟨hs6, hB6, hk6⟩
     rw [Int.toNat_natCast, Nat.zero_add, flat_set encP_len (by omega)] at hB6
     refine Ga 14 rfl (by omega) (G.back ((q + 1, k2 + 1, L.set q x2)) (Sub.of rfl) (⟨hB6, by simp [hL], by omega, by omega, by omega, by omega, ?_, ?_, (hK4.ext hw5).trans hk6 (fun _ _ h => h)⟩) (by first | omega | (dsimp only; omega)))
     ·
      rw [show k + (k2 + 1) = k + k2 + 1 from by omega, Gr.compactL_take hx2, ← htk]
      unfold Gr.cstep
      rw [if_neg (by rw [htk, hlast2]; intro h; exact hne2 (by cases h; rfl))]
      rw [List.take_succ_eq_append_getElem (by simp; omega)]
      simp [List.take_set_of_le]
     rw [List.drop_set_of_lt (by omega)]
     have := congrArg (List.drop 1) hdr
     simp only [List.drop_drop] at this
     rw [show k + (k2 + 1) - 1 = k + k2 - 1 + 1 from by omega]
     exact this
    refine Ga 8 rfl (by omega) (G.back ((q, k2 + 1, L)) (Sub.of rfl) (⟨hB5, hL, by omega, by omega, by omega, by omega, ?_, ?_, hK4.ext hw5⟩) (by first | omega | (dsimp only; omega)))
    ·
     rw [show k + (k2 + 1) = k + k2 + 1 from by omega, Gr.compactL_take hx2, ← htk]
     unfold Gr.cstep
     have : x2 = y2 := by
      have := heq2
      simp only [ne_eq, Decidable.not_not] at this
      exact this
     rw [if_pos (by rw [htk, hlast2, this])]
    have := congrArg (List.drop 1) hdr
    simp only [List.drop_drop] at this
    rw [show k + (k2 + 1) - 1 = k + k2 - 1 + 1 from by omega]
    exact this
   refine Gs 9 rfl (G.ops1 rfl rfl (R.cutLo Tryz.runUnderlying35 Tryz.sizeOf43 rfl rfl rfl (by omega) (by omega)) (G.memN rfl (M.clear (k := 2) (zs := List.replicate ((es.length - q) * 2) (.int .i64 0)) Tryz.runUnderlying35 Tryz.zeroValue43 rfl (by omega) (zeros2 _) (by simp) (by intro u hu; rw [List.eq_of_mem_replicate hu]; rfl) hB4 (by rw [Int.toNat_natCast, hclL]; omega)) ?_))
   rintro _ w6 ⟨rfl, hs6, hB6, hk6⟩
   refine Gs 6 rfl (G.ops1 rfl rfl (R.cutHi Tryz.runUnderlying35 Tryz.sizeOf43 rfl rfl (by omega)) (Gs 9 rfl (G.ret1 Tryz.results95 rfl ⟨_, rfl, ?_, rfl, (hK4.trans hk6 (fun _ _ h => h)).mono (fun q _ h => by rw [h]; rfl)⟩)))
   have hk2e : k + k2 = es.length := by omega
   rw [hk2e, List.take_length] at htk
   have hlq : (Gr.compactL es).length = q := by rw [← htk, List.length_take]; omega
   have hql : q * 2 ≤ (L.flatMap encP ++ sp).length := by rw [hclL]; omega
   rw [hlq]
   rw [Int.toNat_natCast, Nat.zero_add] at hB6
   have h7 := own_blk (k := 2) (n := q) (cap := cap) hB6 (by omega) hcm (by simp only [List.length_append, List.length_take, List.length_drop, List.length_replicate] at *; omega)
   rw [List.append_assoc, List.take_append_of_le_length (by rw [List.length_take]; omega), List.take_take, Nat.min_self, List.take_append_of_le_length (by rw [flatP_len]; omega), flat_take encP_len, htk] at h7
   exact h7
  refine Ga 8 rfl (by omega) (G.back (k + 1) (Sub.of rfl) (⟨by omega, by omega, ?_, hk2.ext hw3⟩) (by first | omega | (dsimp only; omega)))
  rw [Gr.compactL_take hx]
  unfold Gr.cstep
  rw [if_neg (by rw [hlast]; intro h; exact hne (by cases h; rfl)), hck]
  rw [List.take_succ_eq_append_getElem (by omega)]
  rw [List.getElem?_eq_getElem (by omega)] at hx
  cases hx
  rfl
 refine Gs 12 rfl ?_
 have : k = es.length := by omega
 subst this
 rw [List.take_length] at hck
 refine G.ret1 Tryz.results95 rfl ⟨_, rfl, by rw [hck]; exact own_keep hown hk2 (fun _ _ h => h), rfl, hk2.mono (fun _ _ h => h.elim)⟩
end Go.Proofs.YtgojdedggmehiaaGreat
namespace Go.GL
theorem ins_append (a b : List St) : ∀ (n : Nat) (h : Int), insL (a ++ b) n h = insL a n h ++ insL b (n + widL a) h := by
 induction a with
 | nil => intro n h; rw [List.nil_append, insL, List.nil_append, widL]; rfl
 | cons s a ih => intro n h; rw [List.cons_append, insL, ih, insL, widL, List.append_assoc]; congr 3; omega
theorem ins_take {l : List St} {i : Nat} {s : St} (hx : l[i]? = some s) (n : Nat) (h : Int) : insL (l.take (i + 1)) n h = insL (l.take i) n h ++ s.ins (n + widL (l.take i)) h := by
 rw [take_get hx, ins_append, insL, insL, List.append_nil]
theorem St.ins_len (s : St) (n : Nat) (h : Int) (h1 : ∀ n h, (insL s.thn n h).length ≤ 3 * widL s.thn) (h2 : ∀ n h, (insL s.els n h).length ≤ 3 * widL s.els) : (s.ins n h).length ≤ 3 * s.wid := by
 have hw := s.wid_hd
 have g1 := h1 (n + s.hd + 1) ((n + s.hd : Nat) : Int)
 have g2 := h2 (n + s.hd + 1 + widL s.thn) ((n + s.hd : Nat) : Int)
 rw [s.ins_eq]
 simp only [List.length_append]
 by_cases a4 : s.act = 4 <;> by_cases h0 : 0 ≤ h <;> simp only [a4, h0, if_true, if_false, List.length_append, List.length_singleton, List.length_nil] <;> omega
theorem ins_len (l : List St) : ∀ (n : Nat) (h : Int), (insL l n h).length ≤ 3 * widL l := by
 induction l using Sts.ind with
 | h l ih =>
 have key : ∀ r : List St, (∀ x ∈ r, x ∈ l) → ∀ (n : Nat) (h : Int), (insL r n h).length ≤ 3 * widL r := by
  intro r
  induction r with
  | nil => intro _ n h; rw [insL]; exact Nat.zero_le _
  | cons s r ihr =>
   intro hm n h
   have h1 := s.ins_len n h (ih s (hm s (List.mem_cons_self ..))).1 (ih s (hm s (List.mem_cons_self ..))).2
   have h2 := ihr (fun y hy => hm y (List.mem_cons_of_mem _ hy)) (n + s.wid) h
   rw [insL, List.length_append, widL]
   omega
 exact key l fun x h => h
end Go.GL
namespace Go.Proofs.YtgojdedggmehiaaGreat
open Go.GL
theorem insP_ms {H : Hp} {f : FuncId} {args : Array Value} {w : World} {L : List (Int × Int)} {m : Int} (k : Nat) (hc : Calls Tryz.prog f args w (Ret fun r w' => ∃ u, r = .tuple #[u, .int .i64 m] ∧ w'.ownsRow 0 43 2 u L.length (L.flatMap encP) ∧ (∀ g, u.ownBlock = some g → w.heap.size ≤ g) ∧ Ext w w')) :
  Calls Tryz.prog f args w (Ret fun r w' => ∃ x : Value, r = .tuple #[x, .int .i64 m] ∧ Hands H [] [(k, .row 43 2 x L.length (L.flatMap encP))] w w') := by
 refine hc.mono ?_
 rintro e' w' ⟨_, rfl, u, rfl, h1, h2, h3⟩
 refine ⟨_, rfl, u, rfl, h3.mono fun q _ hq => hq.elim, fun y hy => ?_, List.pairwise_singleton _ _⟩
 rw [List.mem_singleton] at hy
 subst hy
 exact ⟨h1, trivial, fun _ h => h, fun q hq => ⟨.inr (h2 q hq), own_lt h1 hq⟩⟩
abbrev insA (h : Int) (N : Nat) : List (Int × Int) := if 0 ≤ h then [(h, (N : Int))] else []
abbrev insB (s : St) (h : Int) (N : Nat) : List (Int × Int) := if s.act = 4 then (if 0 ≤ h then [(h, ((N + 1 : Nat) : Int))] else []) ++ [(((N + 1 : Nat) : Int), ((N + 1 : Nat) : Int))] else []
abbrev insK (s : St) (N : Nat) (j : Nat) : List (Int × Int) := (if 1 ≤ j then insL s.thn (N + s.hd + 1) ((N + s.hd : Nat) : Int) else []) ++ (if 2 ≤ j then insL s.els (N + s.hd + 1 + widL s.thn) ((N + s.hd : Nat) : Int) else [])
theorem insideL_ok (l : List St) : ∀ (v : Value) (D : Nat → Prop) (W : World) (n : Nat) (h : Int), SlR 10 RSt D W v l → ssize l ≤ 10000 → n + widL l ≤ 100000 → -1 ≤ h → h ≤ 100000 →
  Calls Tryz.prog 8 #[v, .int .i64 n, .int .i64 h] W (Ret fun r w' => ∃ u, r = .tuple #[u, .int .i64 (n + widL l : Nat)] ∧ w'.ownsRow 0 43 2 u (insL l n h).length ((insL l n h).flatMap encP) ∧ (∀ g, u.ownBlock = some g → W.heap.size ≤ g) ∧ Ext W w') := by
 induction l using Sts.ind with
 | h l ih =>
 intro v D W n h hl hsz hn hh0 hh1
 have hlen := slen_ssize l
 have hwl := widL_le l
 obtain ⟨av, cv, rfl⟩ := hl.form
 refine G.in3 Tryz.func8 rfl Tryz.ntmps8 rfl (V.inn (Vs 7 rfl (V.nilrow 8 43 2 rfl (Vs 13 rfl (V.loopK (σ := Nat × Value) [2, 16, 17] [] [] rfl (fun e ⟨i, vo⟩ => (1, .int .i64 (n + widL (l.take i) : Nat)) :: (8, vo) :: (18, .int .i64 i) :: e) (fun e ⟨i, vo⟩ => (8, .row 43 2 vo (insL (l.take i) n h).length ((insL (l.take i) n h).flatMap encP)) :: e) (fun ⟨i, vo⟩ => i ≤ l.length) (fun ⟨i, vo⟩ => l.length - i) ((0, _)) (Sub.of rfl) (Has.of rfl) (fun _ => rfl) (fun _ => rfl) (fun _ => rfl) (Nat.zero_le _) ?_)))))
 rintro ⟨i, vo⟩ hi
 show V _ _ _ _ _ ((1, .int .i64 (n + widL (l.take i) : Nat)) :: (8, vo) :: (18, .int .i64 i) :: _) _ ((8, .row 43 2 vo (insL (l.take i) n h).length ((insL (l.take i) n h).flatMap encP)) :: _) _
 refine Vs 6 rfl (V.ite rfl (fun hlt => ?_) (fun hge => ?_))
 ·
  refine Vs 6 rfl (V.elG 1000 0 i (by omega) hl rfl rfl rfl (fun s b_s o_s c_s he_s hm_s ha_s hR_s => ?_))
  obtain ⟨v1_s, v2_s, v3_s, v4_s, rfl, hk_s, ht_s, hs_s, hb_s⟩ := hR_s.get
  obtain ⟨a1_s, n1_s, rfl⟩ := hk_s.form
  obtain ⟨a2_s, n2_s, rfl⟩ := ht_s.form
  obtain ⟨a3_s, n3_s, rfl⟩ := hs_s.form
  obtain ⟨a4_s, n4_s, rfl⟩ := hb_s.form
  refine V.ix 1000 Tryz.runUnderlying24 Tryz.sizeOf72 rfl ha_s (by omega) (_) (rfl) rfl ?_
  have hws := widL_split he_s
  have hwt := widL_take he_s
  have hzs := ssize_split he_s
  have hze := s.size_eq
  have hwe := s.wid_hd
  have hit := ins_take he_s n h
  have hil := ins_len (l.take i) n h
  have ht3 := ins_len s.thn
  have he3 := ins_len s.els
  rw [s.ins_eq] at hit
  generalize hN : n + widL (l.take i) = N at *
  generalize hP : insL (l.take i) n h = P at *
  refine Vs 1 rfl (V.alloc 10 Tryz.zeroValue72 rfl rfl (fun b10 => ?_))
  refine Vs 10 rfl (V.cutK (σ := Value) [1, 2, 10, 11, 16, 17, 18] [10] [10] rfl (fun e vo2 => (8, vo2) :: e) (fun e vo2 => (8, .row 43 2 vo2 (P ++ insA h N).length ((P ++ insA h N).flatMap encP)) :: e) (fun vo2 => True) (fun _ => rfl) (fun _ => rfl) ?_ ?_)
  ·
   refine Vs 6 rfl (V.ite rfl (fun h0 => ?_) (fun h0 => ?_))
   ·
    refine Vs 4 rfl (V.bld [Value.int IntKind.i64 0, Value.int IntKind.i64 0] [(0, 1), (1, 1)] [(0, _), (1, _)] rfl rfl (fun _ => by kernel_rfl) (V.bs 29 [(0, _)] Tryz.runUnderlying35 Tryz.sizeOf43 Tryz.zeroValue43 (by decide) rfl rfl (by kernel_rfl) (fun b29 => ?_)))
    refine V.ap 8 29 Tryz.underlying35 Tryz.el43 rfl (by decide) rfl rfl (by omega) (by omega) (fun u8 => (Vs 2 rfl (V.heq 8 rfl (e' := .row 43 2 u8 (P ++ insA h N).length ((P ++ insA h N).flatMap encP)) (by rw [insA, if_pos h0]; simp [encP]) ?_)))
    refine V.meet (_) (Sub.of rfl) (Has.of rfl) (trivial) 0 rfl rfl
   refine V.heq 8 rfl (e' := .row 43 2 vo (P ++ insA h N).length ((P ++ insA h N).flatMap encP)) (by rw [insA, if_neg h0, List.append_nil]) (Vs 1 rfl ?_)
   refine V.meet (_) (Sub.of rfl) (Has.of rfl) (trivial) 0 rfl rfl
  rintro vo2 _
  have hA : (insA h N).length ≤ 1 := by unfold insA; split <;> simp
  have hPA : (P ++ insA h N).length ≤ 3 * widL (l.take i) + 1 := by rw [List.length_append]; omega
  refine Va 9 rfl (by omega) (V.cutK (σ := Value) [2, 10, 16, 17, 18] [10] [10] rfl (fun e vo3 => (1, .int .i64 (N + s.hd + 1 : Nat)) :: (8, vo3) :: (11, .int .i64 (N + s.hd : Nat)) :: e) (fun e vo3 => (8, .row 43 2 vo3 (P ++ insA h N ++ insB s h N).length ((P ++ insA h N ++ insB s h N).flatMap encP)) :: e) (fun vo3 => True) (fun _ => rfl) (fun _ => rfl) ?_ ?_)
  ·
   refine Vs 7 rfl (V.ite rfl (fun a4 => ?_) (fun a4 => ?_))
   ·
    have hd : s.hd = 1 := if_pos a4
    refine Vs 13 rfl (V.ite rfl (fun h0 => ?_) (fun h0 => ?_))
    ·
     refine Vs 4 rfl (V.bld [Value.int IntKind.i64 0, Value.int IntKind.i64 0] [(0, 1), (1, 1)] [(0, _), (1, _)] rfl rfl (fun _ => by kernel_rfl) (V.bs 43 [(0, _)] Tryz.runUnderlying35 Tryz.sizeOf43 Tryz.zeroValue43 (by decide) rfl rfl (by kernel_rfl) (fun b43 => ?_)))
     refine V.ap 8 43 Tryz.underlying35 Tryz.el43 rfl (by decide) rfl rfl (by omega) (by omega) (fun u8 => (Vs 8 rfl (V.bld [Value.int IntKind.i64 0, Value.int IntKind.i64 0] [(0, 1), (1, 1)] [(0, _), (1, _)] rfl rfl (fun _ => by kernel_rfl) (V.bs 49 [(0, _)] Tryz.runUnderlying35 Tryz.sizeOf43 Tryz.zeroValue43 (by decide) rfl rfl (by kernel_rfl) (fun b49 => ?_)))))
     refine V.ap 8 49 Tryz.underlying35 Tryz.el43 rfl (by decide) rfl rfl (by omega) (by omega) (fun u8 => (Va 8 rfl (by omega) (V.heq 8 rfl (e' := .row 43 2 u8 (P ++ insA h N ++ insB s h N).length ((P ++ insA h N ++ insB s h N).flatMap encP)) (by rw [insB, if_pos a4, if_pos h0]; simp [encP, Nat.add_assoc]) ?_)))
     refine V.meet (_) (Sub.cons (slotI rfl (by omega)) (Sub.cons (rfl) (Sub.cons (slotI rfl (by omega)) (Sub.of rfl)))) (Has.of rfl) (trivial) 0 rfl rfl
    refine Vs 7 rfl (V.bld [Value.int IntKind.i64 0, Value.int IntKind.i64 0] [(0, 1), (1, 1)] [(0, _), (1, _)] rfl rfl (fun _ => by kernel_rfl) (V.bs 1049 [(0, _)] Tryz.runUnderlying35 Tryz.sizeOf43 Tryz.zeroValue43 (by decide) rfl rfl (by kernel_rfl) (fun b1049 => ?_)))
    refine V.ap 8 1049 Tryz.underlying35 Tryz.el43 rfl (by decide) rfl rfl (by omega) (by omega) (fun u8 => (Va 8 rfl (by omega) (V.heq 8 rfl (e' := .row 43 2 u8 (P ++ insA h N ++ insB s h N).length ((P ++ insA h N ++ insB s h N).flatMap encP)) (by rw [insB, if_pos a4, if_neg h0]; simp [encP, Nat.add_assoc]) ?_)))
    refine V.meet (_) (Sub.cons (slotI rfl (by omega)) (Sub.cons (rfl) (Sub.cons (slotI rfl (by omega)) (Sub.of rfl)))) (Has.of rfl) (trivial) 0 rfl rfl
   have hd : s.hd = 0 := if_neg a4
   refine V.heq 8 rfl (e' := .row 43 2 vo2 (P ++ insA h N ++ insB s h N).length ((P ++ insA h N ++ insB s h N).flatMap encP)) (by rw [insB, if_neg a4, List.append_nil]) (Vs 1 rfl ?_)
   refine V.meet (_) (Sub.cons (slotI rfl (by omega)) (Sub.cons (rfl) (Sub.cons (slotI rfl (by omega)) (Sub.of rfl)))) (Has.of rfl) (trivial) 0 rfl rfl
  rintro vo3 _
  have hB : (insB s h N).length ≤ 2 := by unfold insB; split <;> (try split) <;> simp
  have hQl : (P ++ insA h N ++ insB s h N).length ≤ 3 * widL (l.take i) + 3 := by simp only [List.length_append]; omega
  generalize hQe : P ++ insA h N ++ insB s h N = Q at *
  refine Vs 7 rfl (V.bs 57 [(0, _), (1, _)] Tryz.runUnderlying73 Tryz.sizeOf24 Tryz.zeroValue24 (by decide) rfl rfl (by kernel_rfl) (fun b57 => ?_))
  refine Vs 4 rfl (V.heq 8 rfl (e' := .row 43 2 vo3 (Q ++ insK s N 0).length ((Q ++ insK s N 0).flatMap encP)) (by simp [insK]) (Vs 1 rfl (V.loopK (σ := Nat × Value) [2, 11, 16, 17, 18, 57, 58] [] [] rfl (fun e ⟨j, vo⟩ => (1, .int .i64 (N + s.hd + 1 + (if 1 ≤ j then widL s.thn else 0) + (if 2 ≤ j then widL s.els else 0) : Nat)) :: (8, vo) :: (59, .int .i64 j) :: e) (fun e ⟨j, vo⟩ => (8, .row 43 2 vo (Q ++ insK s N j).length ((Q ++ insK s N j).flatMap encP)) :: (57, .own b57 [.slice a2_s s.thn.length n2_s, .slice a3_s s.els.length n3_s] 24) :: e) (fun ⟨j, vo⟩ => j ≤ 2) (fun ⟨j, vo⟩ => 2 - j) ((0, vo3)) (Sub.of rfl) (Has.of rfl) (fun _ => rfl) (fun _ => rfl) (fun _ => rfl) (by omega) ?_)))
  rintro ⟨j, vo⟩ hj
  show V _ _ _ _ _ ((1, .int .i64 (N + s.hd + 1 + (if 1 ≤ j then widL s.thn else 0) + (if 2 ≤ j then widL s.els else 0) : Nat)) :: (8, vo) :: (59, .int .i64 j) :: _) _ ((8, .row 43 2 vo (Q ++ insK s N j).length ((Q ++ insK s N j).flatMap encP)) :: (57, .own b57 [.slice a2_s s.thn.length n2_s, .slice a3_s s.els.length n3_s] 24) :: _) _
  have g1 := ht3 (N + s.hd + 1) ((N + s.hd : Nat) : Int)
  have g2 := he3 (N + s.hd + 1 + widL s.thn) ((N + s.hd : Nat) : Int)
  have hkl : (insK s N j).length ≤ 3 * widL s.thn + 3 * widL s.els := by
   rw [insK, List.length_append]
   split <;> split <;> (try simp only [List.length_nil]) <;> omega
  refine Vs 6 rfl (V.ite rfl (fun lj => ?_) (fun lj => ?_))
  ·
   refine V.cases (p := j = 0) (fun j0 => ?_) (fun j0 => ?_)
   ·
    subst j0
    refine Vs 6 rfl (V.ops1 rfl (fun w hI => R.indexS Tryz.runUnderlying73 Tryz.sizeOf24 rfl rfl rfl (by omega)) (V.ops1 rfl (fun w hI => R.load Tryz.isAgg24 rfl ((show Blk w b57 _ _ from hI.at 57 rfl).cells 0 _ rfl)) (Vs 8 rfl (V.callMs [] (Hn := fun x : Value => [(901, .row 43 2 x (insL s.thn (N + s.hd + 1) ((N + s.hd : Nat) : Int)).length ((insL s.thn (N + s.hd + 1) ((N + s.hd : Nat) : Int)).flatMap encP))]) [] Tryz.call8 rfl (fun _ _ => rfl) (fun _ => rfl) (fun w hI => insP_ms 901 ((ih s hm_s).1 _ D w (N + s.hd + 1) ((N + s.hd : Nat) : Int) (Tr1 hI.k0 ht_s) (by omega) (by omega) (by omega) (by omega))) ?_))))
    rintro _ r901 rfl
    refine Vs 10 rfl (V.apS 8 encP encP_len encP_one (fun _ _ _ _ h => h) Tryz.underlying35 Tryz.el43 rfl (by decide) rfl (fun w hI => ⟨_, SlR.ofRowK (R := RPair) (D := fun _ => True) (by omega) encP encP_len (fun x _ => rfl) (hI.at 901 rfl) (fun _ _ => trivial)⟩) (by have := hkl; rw [List.length_append]; omega) (by have := hkl; rw [List.length_append]; omega) (fun u8 => ?_))
    refine Va 10 rfl (by omega) (V.heq 8 rfl (e' := .row 43 2 u8 (Q ++ insK s N 1).length ((Q ++ insK s N 1).flatMap encP)) (by simp [insK, Nat.add_assoc]) (V.back (⟨1, u8⟩) (Sub.cons (slotI rfl (by simp)) (Sub.cons (rfl) (Sub.cons (rfl) (Sub.of rfl)))) (Has.of rfl) (by omega) (by first | omega | (dsimp only; omega)) 0 rfl rfl))
   obtain rfl : j = 1 := by omega
   refine V.eq 1 (v := .int .i64 (N + s.hd + 1 + widL s.thn : Nat)) rfl (by simp) (Vs 6 rfl (V.ops1 rfl (fun w hI => R.indexS Tryz.runUnderlying73 Tryz.sizeOf24 rfl rfl rfl (by omega)) (V.ops1 rfl (fun w hI => R.load Tryz.isAgg24 rfl ((show Blk w b57 _ _ from hI.at 57 rfl).cells 1 _ rfl)) (Vs 8 rfl (V.callMs [] (Hn := fun x : Value => [(901, .row 43 2 x (insL s.els (N + s.hd + 1 + widL s.thn) ((N + s.hd : Nat) : Int)).length ((insL s.els (N + s.hd + 1 + widL s.thn) ((N + s.hd : Nat) : Int)).flatMap encP))]) [] Tryz.call8 rfl (fun _ _ => rfl) (fun _ => rfl) (fun w hI => insP_ms 901 ((ih s hm_s).2 _ D w (N + s.hd + 1 + widL s.thn) ((N + s.hd : Nat) : Int) (Tr1 hI.k0 hs_s) (by omega) (by omega) (by omega) (by omega))) ?_)))))
   rintro _ r901 rfl
   refine Vs 10 rfl (V.apS 8 encP encP_len encP_one (fun _ _ _ _ h => h) Tryz.underlying35 Tryz.el43 rfl (by decide) rfl (fun w hI => ⟨_, SlR.ofRowK (R := RPair) (D := fun _ => True) (by omega) encP encP_len (fun x _ => rfl) (hI.at 901 rfl) (fun _ _ => trivial)⟩) (by have := hkl; rw [List.length_append]; omega) (by have := hkl; rw [List.length_append]; omega) (fun u8 => ?_))
   refine Va 10 rfl (by omega) (V.heq 8 rfl (e' := .row 43 2 u8 (Q ++ insK s N 2).length ((Q ++ insK s N 2).flatMap encP)) (by simp [insK, Nat.add_assoc]) (V.back (⟨2, u8⟩) (Sub.cons (slotI rfl (by simp)) (Sub.cons (rfl) (Sub.cons (rfl) (Sub.of rfl)))) (Has.of rfl) (by omega) (by first | omega | (dsimp only; omega)) 0 rfl rfl))
  obtain rfl : j = 2 := by omega
  have e2 : Q ++ insK s N 2 = insL (l.take (i + 1)) n h := by rw [hit, ← hQe]; simp [insK, insA, insB]
  refine V.heq 8 rfl (e' := .row 43 2 vo (insL (l.take (i + 1)) n h).length ((insL (l.take (i + 1)) n h).flatMap encP)) (by rw [e2]) (Va 10 rfl (by omega) (V.back (⟨i + 1, vo⟩) (Sub.cons (slotI rfl (by simp; omega)) (Sub.cons (rfl) (Sub.cons (rfl) (Sub.of rfl)))) (Has.of rfl) (by omega) (by first | omega | (dsimp only; omega)) 0 rfl rfl))
 obtain rfl : i = l.length := by omega
 refine Vs 14 rfl (V.ret2 Tryz.results8 rfl rfl (fun w hI => ⟨_, rfl, vo, by rw [List.take_length], by have h_ := hI.at 8 rfl; rwa [List.take_length] at h_, hI.own 8 0 rfl rfl, hI.k0⟩))
structure NdOk (n i : Int) (x : Nd) : Prop where
 k0 : i = 0 → x.kind = 0
 k1 : i = n - 1 → x.kind = 1
 k2 : 0 < i ∧ i < n - 1 → 2 ≤ x.kind ∧ x.kind ≤ 5
 n0 : i = n - 1 → x.next = -1
 n1 : i < n - 1 → 1 ≤ x.next ∧ x.next ≤ n - 1
 o1 : x.kind = 3 ∨ x.kind = 5 → 1 ≤ x.other ∧ x.other ≤ n - 1
 o0 : ¬ (x.kind = 3 ∨ x.kind = 5) → x.other = -1
 a0 : i = 0 ∨ i = n - 1 → x.at_ = -1
 a1 : 0 < i ∧ i < n - 1 → 0 ≤ x.at_
structure Formed (g : List Nd) : Prop where
 lo : 2 ≤ g.length
 hi : g.length ≤ 2050
 ok : ∀ (j : Nat) x, g[j]? = some x → NdOk g.length j x
theorem nodes_next {g : List Nd} {i : Nat} {x : Nd} {n : Int} (hall : ∀ (j : Nat) x, j < i → g[j]? = some x → NdOk n j x) (he : g[i]? = some x) (h : NdOk n i x) : ∀ (j : Nat) y, j < i + 1 → g[j]? = some y → NdOk n j y := by
 intro j y hj hy
 by_cases e : j = i
 ·
  subst e
  rw [he] at hy
  cases hy
  exact h
 exact hall j y (by omega) hy
theorem inside_ok (k n : Int) (c : Nat) (w : World) (hB : Blk w c [.int .i64 n] 3) :
  Calls Tryz.prog 50 #[.int .i64 k, .pointer (some ⟨c, 0, none⟩)] w (Ret fun r w' => r = .bool (decide (1 ≤ k ∧ k < n)) ∧ Ext w w') := by
 have hE := Keep.refl (fun _ => False) w
 refine G.in2 Tryz.func50 rfl Tryz.ntmps50 rfl (Gs 10 rfl (G.sp 6 rfl (fun h1 => ?_) (fun h1 => ?_)))
 · refine Gs 1 rfl (G.ld rfl Tryz.isAgg3 (hB.cells 0 _ rfl) (Gs 6 rfl (G.ret1 Tryz.results50 rfl ⟨_, rfl, by congr 1; rw [decide_eq_decide]; omega, hE⟩)))
 refine Gs 8 rfl (G.ret1 Tryz.results50 rfl ⟨_, rfl, by rw [decide_eq_false (by omega)], hE⟩)
theorem cfgFormed_ok (g : List Nd) (gv : Value) (D : Nat → Prop) (W : World) (hg : SlR 4 RNd D W gv g) :
  Calls Tryz.prog 21 #[.agg #[gv]] W (Ret fun r w' => (∃ b : Bool, r = .bool b ∧ (b = true ↔ Formed g)) ∧ Ext W w') := by
 obtain ⟨ag, cg, rfl⟩ := hg.form
 have hmx := hg.max
 refine G.in1 Tryz.func21 rfl Tryz.ntmps21 rfl (V.inn (Vs 2 rfl (V.box 1 rfl rfl (fun b1 => ?_))))
 refine Vs 8 rfl (V.alloc 3 Tryz.zeroValue3 rfl rfl (fun b3 => ?_))
 refine Vs 9 rfl (V.sp 15 rfl (fun a1 => ?_) (fun a1 => ?_))
 · refine Vs 13 rfl (V.ret1 Tryz.results21 rfl (fun w hI => ⟨_, rfl, ⟨_, rfl, ⟨fun h => by (cases h), fun h => by have := h.lo; omega⟩⟩, hI.k0⟩))
 refine Vs 5 rfl (V.ite rfl (fun a2 => ?_) (fun a2 => ?_))
 · refine Vs 7 rfl (V.ret1 Tryz.results21 rfl (fun w hI => ⟨_, rfl, ⟨_, rfl, ⟨fun h => by (cases h), fun h => by have := h.hi; omega⟩⟩, hI.k0⟩))
 refine Vs 18 rfl (V.loopK (σ := Nat) [3, 4, 21, 22] [3] [3] rfl (fun e i => (23, .int .i64 i) :: e) (fun e i => e) (fun i => i ≤ g.length ∧ ∀ (j : Nat) x, j < i → g[j]? = some x → NdOk g.length j x) (fun i => g.length - i) (0) (Sub.of rfl) (Has.of rfl) (fun _ => rfl) (fun _ => rfl) (fun _ => rfl) (⟨Nat.zero_le _, fun j x h => absurd h (Nat.not_lt_zero _)⟩) ?_)
 rintro i ⟨hi, hall⟩
 refine Vs 6 rfl (V.ite rfl (fun hlt => ?_) (fun hlt => ?_))
 ·
  refine Vs 7 rfl (V.elG 1000 0 i (by omega) hg rfl rfl rfl (fun x b_x o_x c_x he_x hm_x ha_x hR_x => ?_))
  obtain rfl := hR_x
  refine V.ix 1000 Tryz.runUnderlying29 Tryz.sizeOf64 rfl ha_x (by omega) (_) (rfl) rfl ?_
  have hbad : ¬ NdOk g.length i x → (false = true ↔ Formed g) := fun h => ⟨fun h => by (cases h), fun hF => absurd (hF.ok i x he_x) h⟩
  refine Vs 1 rfl (V.alloc 6 Tryz.zeroValue64 rfl rfl (fun b6 => ?_))
  refine Vs 5 rfl (V.cutK (σ := Unit) [3, 4, 5, 6, 21, 22, 23] [3, 6] [3, 6] rfl (fun e u => (7, .bool (decide (x.kind = 0 ∨ x.kind = 1))) :: e) (fun e u => e) (fun u => True) (fun _ => rfl) (fun _ => rfl) ?_ ?_)
  ·
   refine Vs 5 rfl (V.sp 31 rfl (fun k1_ => ?_) (fun k1_ => ?_))
   · refine Vs 6 rfl (V.meet (()) (Sub.cons (by (try simp only [ne_eq, decide_eq_decide] at *); first | exact boolT (by omega) | exact boolF (by omega) | exact boolD (by omega) | exact boolD (by simp only [ne_eq, decide_eq_decide]; omega)) (Sub.of rfl)) (Has.of rfl) (trivial) 0 rfl rfl)
   refine Vs 6 rfl (V.meet (()) (Sub.cons (by (try simp only [ne_eq, decide_eq_decide] at *); first | exact boolT (by omega) | exact boolF (by omega) | exact boolD (by omega) | exact boolD (by simp only [ne_eq, decide_eq_decide]; omega)) (Sub.of rfl)) (Has.of rfl) (trivial) 0 rfl rfl)
  rintro u _
  refine Vs 2 rfl (V.cutK (σ := Unit) [3, 4, 5, 6, 7, 21, 22, 23] [3, 6] [3, 6] rfl (fun e u => (8, .bool (decide (x.kind = 3 ∨ x.kind = 5))) :: e) (fun e u => e) (fun u => True) (fun _ => rfl) (fun _ => rfl) ?_ ?_)
  ·
   refine Vs 5 rfl (V.sp 39 rfl (fun k1_ => ?_) (fun k1_ => ?_))
   · refine Vs 6 rfl (V.meet (()) (Sub.cons (by (try simp only [ne_eq, decide_eq_decide] at *); first | exact boolT (by omega) | exact boolF (by omega) | exact boolD (by omega) | exact boolD (by simp only [ne_eq, decide_eq_decide]; omega)) (Sub.of rfl)) (Has.of rfl) (trivial) 0 rfl rfl)
   refine Vs 6 rfl (V.meet (()) (Sub.cons (by (try simp only [ne_eq, decide_eq_decide] at *); first | exact boolT (by omega) | exact boolF (by omega) | exact boolD (by omega) | exact boolD (by simp only [ne_eq, decide_eq_decide]; omega)) (Sub.of rfl)) (Has.of rfl) (trivial) 0 rfl rfl)
  rintro u _
  refine Vs 2 rfl (V.cutK (σ := Unit) [3, 4, 5, 6, 7, 8, 21, 22, 23] [3, 6] [3, 6] rfl (fun e u => (9, .bool (decide (0 ≤ x.kind ∧ x.kind ≤ 5))) :: e) (fun e u => e) (fun u => True) (fun _ => rfl) (fun _ => rfl) ?_ ?_)
  ·
   refine Vs 3 rfl (V.sp 45 rfl (fun k1_ => ?_) (fun k1_ => ?_))
   · refine Vs 14 rfl (V.meet (()) (Sub.cons (by (try simp only [ne_eq, decide_eq_decide] at *); first | exact boolT (by omega) | exact boolF (by omega) | exact boolD (by omega) | exact boolD (by simp only [ne_eq, decide_eq_decide]; omega)) (Sub.of rfl)) (Has.of rfl) (trivial) 0 rfl rfl)
   refine Vs 3 rfl (V.sp 48 rfl (fun k2_ => ?_) (fun k2_ => ?_))
   · refine Vs 11 rfl (V.meet (()) (Sub.cons (by (try simp only [ne_eq, decide_eq_decide] at *); first | exact boolT (by omega) | exact boolF (by omega) | exact boolD (by omega) | exact boolD (by simp only [ne_eq, decide_eq_decide]; omega)) (Sub.of rfl)) (Has.of rfl) (trivial) 0 rfl rfl)
   refine Vs 5 rfl (V.sp 53 rfl (fun k3_ => ?_) (fun k3_ => ?_))
   · refine Vs 6 rfl (V.meet (()) (Sub.cons (by (try simp only [ne_eq, decide_eq_decide] at *); first | exact boolT (by omega) | exact boolF (by omega) | exact boolD (by omega) | exact boolD (by simp only [ne_eq, decide_eq_decide]; omega)) (Sub.of rfl)) (Has.of rfl) (trivial) 0 rfl rfl)
   refine Vs 6 rfl (V.meet (()) (Sub.cons (by (try simp only [ne_eq, decide_eq_decide] at *); first | exact boolT (by omega) | exact boolF (by omega) | exact boolD (by omega) | exact boolD (by simp only [ne_eq, decide_eq_decide]; omega)) (Sub.of rfl)) (Has.of rfl) (trivial) 0 rfl rfl)
  rintro u _
  refine Vs 3 rfl (V.cutK (σ := Unit) [3, 4, 6, 7, 8, 21, 22, 23] [3, 6] [3, 6] rfl (fun e u => (58, .bool (decide (¬ (0 ≤ x.kind ∧ x.kind ≤ 5) ∨ ¬ ((i : Int) = 0 ↔ x.kind = 0) ∨ ¬ ((i : Int) = (g.length : Int) - 1 ↔ x.kind = 1)))) :: e) (fun e u => e) (fun u => True) (fun _ => rfl) (fun _ => rfl) ?_ ?_)
  ·
   refine Vs 3 rfl (V.ops1 rfl (fun w hI => R.notU rfl (by first | exact not_decide_eq | rfl)) (Vs 3 rfl (V.ite rfl (fun k1_ => ?_) (fun k1_ => ?_))))
   · refine Vs 1 rfl (V.meet (()) (Sub.cons (by (try simp only [ne_eq, decide_eq_decide] at *); first | exact boolT (by omega) | exact boolF (by omega) | exact boolD (by omega) | exact boolD (by simp only [ne_eq, decide_eq_decide]; omega)) (Sub.of rfl)) (Has.of rfl) (trivial) 0 rfl rfl)
   refine Vs 11 rfl (V.ite rfl (fun k2_ => ?_) (fun k2_ => ?_))
   · refine Vs 1 rfl (V.meet (()) (Sub.cons (by (try simp only [ne_eq, decide_eq_decide] at *); first | exact boolT (by omega) | exact boolF (by omega) | exact boolD (by omega) | exact boolD (by simp only [ne_eq, decide_eq_decide]; omega)) (Sub.of rfl)) (Has.of rfl) (trivial) 0 rfl rfl)
   refine Va 11 rfl (by omega) (V.meet (()) (Sub.cons (by (try simp only [ne_eq, decide_eq_decide] at *); first | exact boolT (by omega) | exact boolF (by omega) | exact boolD (by omega) | exact boolD (by simp only [ne_eq, decide_eq_decide]; omega)) (Sub.of rfl)) (Has.of rfl) (trivial) 0 rfl rfl)
  rintro u _
  refine Vs 1 rfl (V.ite rfl (fun c1 => ?_) (fun c1 => ?_))
  · refine Vs 12 rfl (V.ret1 Tryz.results21 rfl (fun w hI => ⟨_, rfl, ⟨_, rfl, hbad fun h => by have h1 := h.k0; have h2 := h.k1; have h3 := h.k2; have h4 := h.n0; have h5 := h.n1; have h6 := h.o1; have h7 := h.o0; have h8 := h.a0; have h9 := h.a1; omega⟩, hI.k0⟩))
  refine Vs 1 rfl (V.cutK (σ := Unit) [3, 4, 6, 8, 21, 22, 23] [3, 6] [3, 6] rfl (fun e u => (75, .bool (decide (((x.kind = 0 ∨ x.kind = 1) ∧ x.at_ ≠ -1) ∨ (¬ (x.kind = 0 ∨ x.kind = 1) ∧ x.at_ < 0)))) :: e) (fun e u => e) (fun u => True) (fun _ => rfl) (fun _ => rfl) ?_ ?_)
  ·
   refine Vs 4 rfl (V.sp 77 rfl (fun k1_ => ?_) (fun k1_ => ?_))
   ·
    refine Vs 7 rfl (V.ite rfl (fun k2_ => ?_) (fun k2_ => ?_))
    · refine Vs 1 rfl (V.meet (()) (Sub.cons (by (try simp only [ne_eq] at *); first | exact boolT (by omega) | exact boolF (by omega) | exact boolD (by omega) | exact boolD (by simp only [ne_eq, decide_eq_decide]; omega)) (Sub.of rfl)) (Has.of rfl) (trivial) 0 rfl rfl)
    refine Vs 2 rfl (V.ops1 rfl (fun w hI => R.notU rfl (by first | exact not_decide_eq | rfl)) (Vs 1 rfl (V.sp 84 rfl (fun k3_ => ?_) (fun k3_ => ?_))))
    · refine Vs 6 rfl (V.meet (()) (Sub.cons (by (try simp only [ne_eq] at *); first | exact boolT (by omega) | exact boolF (by omega) | exact boolD (by omega) | exact boolD (by simp only [ne_eq, decide_eq_decide]; omega)) (Sub.of rfl)) (Has.of rfl) (trivial) 0 rfl rfl)
    refine Vs 6 rfl (V.meet (()) (Sub.cons (by (try simp only [ne_eq] at *); first | exact boolT (by omega) | exact boolF (by omega) | exact boolD (by omega) | exact boolD (by simp only [ne_eq, decide_eq_decide]; omega)) (Sub.of rfl)) (Has.of rfl) (trivial) 0 rfl rfl)
   refine Vs 10 rfl (V.ops1 rfl (fun w hI => R.notU rfl (by first | exact not_decide_eq | rfl)) (Vs 1 rfl (V.sp 84 rfl (fun k2_ => ?_) (fun k2_ => ?_))))
   · refine Vs 6 rfl (V.meet (()) (Sub.cons (by (try simp only [ne_eq] at *); first | exact boolT (by omega) | exact boolF (by omega) | exact boolD (by omega) | exact boolD (by simp only [ne_eq, decide_eq_decide]; omega)) (Sub.of rfl)) (Has.of rfl) (trivial) 0 rfl rfl)
   refine Vs 6 rfl (V.meet (()) (Sub.cons (by (try simp only [ne_eq] at *); first | exact boolT (by omega) | exact boolF (by omega) | exact boolD (by omega) | exact boolD (by simp only [ne_eq, decide_eq_decide]; omega)) (Sub.of rfl)) (Has.of rfl) (trivial) 0 rfl rfl)
  rintro u _
  refine Vs 1 rfl (V.ite rfl (fun c2 => ?_) (fun c2 => ?_))
  · refine Vs 12 rfl (V.ret1 Tryz.results21 rfl (fun w hI => ⟨_, rfl, ⟨_, rfl, hbad fun h => by have h1 := h.k0; have h2 := h.k1; have h3 := h.k2; have h4 := h.n0; have h5 := h.n1; have h6 := h.o1; have h7 := h.o0; have h8 := h.a0; have h9 := h.a1; omega⟩, hI.k0⟩))
  refine Vs 1 rfl (V.cutK (σ := Unit) [3, 4, 6, 8, 21, 22, 23] [3, 6] [3, 6] rfl (fun e u => (89, .bool (decide ((x.kind = 1 ∧ x.next ≠ -1) ∨ (x.kind ≠ 1 ∧ ¬ (1 ≤ x.next ∧ x.next < (g.length : Int)))))) :: e) (fun e u => e) (fun u => True) (fun _ => rfl) (fun _ => rfl) ?_ ?_)
  ·
   refine Vs 6 rfl (V.sp 93 rfl (fun k1_ => ?_) (fun k1_ => ?_))
   ·
    refine Vs 7 rfl (V.ite rfl (fun k2_ => ?_) (fun k2_ => ?_))
    · refine Vs 1 rfl (V.meet (()) (Sub.cons (by (try simp only [ne_eq] at *); first | exact boolT (by omega) | exact boolF (by omega) | exact boolD (by omega) | exact boolD (by simp only [ne_eq, decide_eq_decide]; omega)) (Sub.of rfl)) (Has.of rfl) (trivial) 0 rfl rfl)
    refine Vs 5 rfl (V.sp 101 rfl (fun k3_ => ?_) (fun k3_ => ?_))
    · refine Vs 3 rfl (V.call1V Tryz.call50 rfl (fun w hI => inside_ok x.next g.length b3 w (hI.at 3 rfl)) (V.ops1 rfl (fun w hI => R.notU rfl (by first | exact not_decide_eq | rfl)) (Vs 3 rfl (V.meet (()) (Sub.cons (by (try simp only [ne_eq] at *); first | exact boolT (by omega) | exact boolF (by omega) | exact boolD (by omega) | exact boolD (by simp only [ne_eq, decide_eq_decide]; omega)) (Sub.of rfl)) (Has.of rfl) (trivial) 0 rfl rfl))))
    refine Vs 8 rfl (V.meet (()) (Sub.cons (by (try simp only [ne_eq] at *); first | exact boolT (by omega) | exact boolF (by omega) | exact boolD (by omega) | exact boolD (by simp only [ne_eq, decide_eq_decide]; omega)) (Sub.of rfl)) (Has.of rfl) (trivial) 0 rfl rfl)
   refine Vs 13 rfl (V.sp 101 rfl (fun k2_ => ?_) (fun k2_ => ?_))
   · refine Vs 3 rfl (V.call1V Tryz.call50 rfl (fun w hI => inside_ok x.next g.length b3 w (hI.at 3 rfl)) (V.ops1 rfl (fun w hI => R.notU rfl (by first | exact not_decide_eq | rfl)) (Vs 3 rfl (V.meet (()) (Sub.cons (by (try simp only [ne_eq] at *); first | exact boolT (by omega) | exact boolF (by omega) | exact boolD (by omega) | exact boolD (by simp only [ne_eq, decide_eq_decide]; omega)) (Sub.of rfl)) (Has.of rfl) (trivial) 0 rfl rfl))))
   refine Vs 8 rfl (V.meet (()) (Sub.cons (by (try simp only [ne_eq] at *); first | exact boolT (by omega) | exact boolF (by omega) | exact boolD (by omega) | exact boolD (by simp only [ne_eq, decide_eq_decide]; omega)) (Sub.of rfl)) (Has.of rfl) (trivial) 0 rfl rfl)
  rintro u _
  refine Vs 1 rfl (V.ite rfl (fun c3 => ?_) (fun c3 => ?_))
  · refine Vs 12 rfl (V.ret1 Tryz.results21 rfl (fun w hI => ⟨_, rfl, ⟨_, rfl, hbad fun h => by have h1 := h.k0; have h2 := h.k1; have h3 := h.k2; have h4 := h.n0; have h5 := h.n1; have h6 := h.o1; have h7 := h.o0; have h8 := h.a0; have h9 := h.a1; omega⟩, hI.k0⟩))
  refine Vs 1 rfl (V.cutK (σ := Unit) [3, 4, 21, 22, 23] [3] [3] rfl (fun e u => (108, .bool (decide (((x.kind = 3 ∨ x.kind = 5) ∧ ¬ (1 ≤ x.other ∧ x.other < (g.length : Int))) ∨ (¬ (x.kind = 3 ∨ x.kind = 5) ∧ x.other ≠ -1)))) :: e) (fun e u => e) (fun u => True) (fun _ => rfl) (fun _ => rfl) ?_ ?_)
  ·
   refine Vs 4 rfl (V.sp 110 rfl (fun k1_ => ?_) (fun k1_ => ?_))
   ·
    refine Vs 3 rfl (V.call1V Tryz.call50 rfl (fun w hI => inside_ok x.other g.length b3 w (hI.at 3 rfl)) (V.ops1 rfl (fun w hI => R.notU rfl (by first | exact not_decide_eq | rfl)) (Vs 4 rfl (V.ite rfl (fun k2_ => ?_) (fun k2_ => ?_)))))
    · refine Vs 1 rfl (V.meet (()) (Sub.cons (by (try simp only [ne_eq] at *); first | exact boolT (by omega) | exact boolF (by omega) | exact boolD (by omega) | exact boolD (by simp only [ne_eq, decide_eq_decide]; omega)) (Sub.of rfl)) (Has.of rfl) (trivial) 0 rfl rfl)
    refine Vs 2 rfl (V.ops1 rfl (fun w hI => R.notU rfl (by first | exact not_decide_eq | rfl)) (Vs 1 rfl (V.sp 119 rfl (fun k3_ => ?_) (fun k3_ => ?_))))
    · refine Vs 6 rfl (V.meet (()) (Sub.cons (by (try simp only [ne_eq] at *); first | exact boolT (by omega) | exact boolF (by omega) | exact boolD (by omega) | exact boolD (by simp only [ne_eq, decide_eq_decide]; omega)) (Sub.of rfl)) (Has.of rfl) (trivial) 0 rfl rfl)
    refine Vs 6 rfl (V.meet (()) (Sub.cons (by (try simp only [ne_eq] at *); first | exact boolT (by omega) | exact boolF (by omega) | exact boolD (by omega) | exact boolD (by simp only [ne_eq, decide_eq_decide]; omega)) (Sub.of rfl)) (Has.of rfl) (trivial) 0 rfl rfl)
   refine Vs 12 rfl (V.ops1 rfl (fun w hI => R.notU rfl (by first | exact not_decide_eq | rfl)) (Vs 1 rfl (V.sp 119 rfl (fun k2_ => ?_) (fun k2_ => ?_))))
   · refine Vs 6 rfl (V.meet (()) (Sub.cons (by (try simp only [ne_eq] at *); first | exact boolT (by omega) | exact boolF (by omega) | exact boolD (by omega) | exact boolD (by simp only [ne_eq, decide_eq_decide]; omega)) (Sub.of rfl)) (Has.of rfl) (trivial) 0 rfl rfl)
   refine Vs 6 rfl (V.meet (()) (Sub.cons (by (try simp only [ne_eq] at *); first | exact boolT (by omega) | exact boolF (by omega) | exact boolD (by omega) | exact boolD (by simp only [ne_eq, decide_eq_decide]; omega)) (Sub.of rfl)) (Has.of rfl) (trivial) 0 rfl rfl)
  rintro u _
  refine Vs 1 rfl (V.ite rfl (fun c4 => ?_) (fun c4 => ?_))
  · refine Vs 12 rfl (V.ret1 Tryz.results21 rfl (fun w hI => ⟨_, rfl, ⟨_, rfl, hbad fun h => by have h1 := h.k0; have h2 := h.k1; have h3 := h.k2; have h4 := h.n0; have h5 := h.n1; have h6 := h.o1; have h7 := h.o0; have h8 := h.a0; have h9 := h.a1; omega⟩, hI.k0⟩))
  refine Va 8 rfl (by omega) (V.back (i + 1) (Sub.of rfl) (Has.of rfl) (⟨by omega, nodes_next hall he_x ⟨by omega, by omega, by omega, by omega, by omega, by omega, by omega, by omega, by omega⟩⟩) (by first | omega | (dsimp only; omega)) 0 rfl rfl)
 refine Vs 11 rfl (V.ret1 Tryz.results21 rfl (fun w hI => ⟨_, rfl, ⟨_, rfl, ⟨fun _ => ⟨by omega, by omega, fun j x hx => hall j x (by have := (List.getElem?_eq_some_iff.1 hx).1; omega) hx⟩, fun _ => rfl⟩⟩, hI.k0⟩))
end Go.Proofs.YtgojdedggmehiaaGreat
namespace Go.GL
open Go.Sort Go.Proofs
theorem ext_grow {w w' : World} (h : Ext w w') : ∃ q os, w' = grow (w.drewN q) os := by
 refine ⟨w'.drawn - w.drawn, w'.heap.extract w.heap.size w'.heap.size, ?_⟩
 have hd := h.drawn
 have hh : w'.heap = w.heap ++ w'.heap.extract w.heap.size w'.heap.size := by
  apply Array.ext_getElem?
  intro i
  by_cases hi : i < w.heap.size
  ·
   rw [Array.getElem?_append_left hi]
   exact h.block i hi (fun h => h)
  rw [Array.getElem?_append_right (by omega), Array.getElem?_extract]
  by_cases hi2 : i < w'.heap.size
  · rw [if_pos (by omega), show w.heap.size + (i - w.heap.size) = i from by omega]
  rw [if_neg (by omega), Array.getElem?_eq_none (by omega)]
 have : ∀ (a b : World), a.heap = b.heap → a.tape = b.tape → a.drawn = b.drawn → a.os = b.os → a.output = b.output → a = b := by
  intro a b h1 h2 h3 h4 h5
  cases a; cases b
  simp at h1 h2 h3 h4 h5
  subst h1 h2 h3 h4 h5
  rfl
 refine this _ _ hh h.tape ?_ h.os h.output
 show w'.drawn = w.drawn + (w'.drawn - w.drawn)
 omega
section
variable {α : Type} [Inhabited α] {enc : α → List Value} {k : Nat}
theorem flatK_list (hk : ∀ x, (enc x).length = k) (d : Array α) : (flatK enc k d).toList = d.toList.flatMap enc := by
 apply List.ext_getElem?
 intro t
 have hl : (d.toList.flatMap enc).length = d.size * k := by rw [flat_len hk, Array.length_toList]
 by_cases ht : t < d.size * k
 ·
  have hk0 : 0 < k := by
   rcases Nat.eq_zero_or_pos k with h | h
   · rw [h] at ht; omega
   exact h
  have hd : t / k < d.size := Nat.div_lt_of_lt_mul (by rw [Nat.mul_comm]; exact ht)
  have hm : t % k < k := Nat.mod_lt _ hk0
  have h1 := get_flatK enc k d t ht
  have h2 : (flatK enc k d).toList[t]? = some ((flatK enc k d)[t]!) := by
   rw [Array.getElem?_toList, getElem!_pos _ t (by simpa using ht)]
   exact Array.getElem?_eq_getElem (by simpa using ht)
  rw [h2, h1]
  have h3 : d.toList[t / k]? = some d[t / k]! := by
   rw [Array.getElem?_toList, getElem!_pos _ (t / k) hd]
   exact Array.getElem?_eq_getElem hd
  have h4 : (enc d[t / k]!)[t % k]? = some ((enc d[t / k]!)[t % k]!) := by
   rw [getElem!_pos _ (t % k) (by rw [hk]; exact hm)]
   exact List.getElem?_eq_getElem (by rw [hk]; exact hm)
  have h5 := flat_at hk h3 [] (t % k) _ h4
  rw [List.append_nil, Nat.mul_comm, Nat.div_add_mod] at h5
  rw [h5]
 rw [List.getElem?_eq_none (by rw [Array.length_toList, size_flatK]; omega), List.getElem?_eq_none (by rw [hl]; omega)]
theorem putCells_flat (hk : ∀ x, (enc x).length = k) (l : List α) (d : Array α) (sp : List Value) (hs : d.size = l.length) : putCells id 0 (flatK enc k d) (l.flatMap enc ++ sp).toArray = (d.toList.flatMap enc ++ sp).toArray := by
 have hl := flat_len hk l
 have hl' : (d.toList.flatMap enc).length = d.size * k := by rw [flat_len hk, Array.length_toList]
 have hsz := size_flatK enc k d
 apply Array.ext_getElem?
 intro j
 rw [← flatK_list hk d]
 simp only [putCells, Array.getElem?_mapIdx, List.getElem?_toArray]
 by_cases hj : j < d.size * k
 ·
  rw [List.getElem?_append_left (by rw [hl, ← hs]; exact hj), List.getElem?_append_left (by simpa using hj)]
  rw [List.getElem?_eq_getElem (by rw [hl, ← hs]; exact hj)]
  simp only [Option.map_some, Nat.zero_le, Nat.zero_add, hsz, hj, and_self, if_true, Nat.sub_zero, id]
  rw [Array.getElem?_toList, getElem!_pos _ j (by rw [hsz]; exact hj)]
  exact (Array.getElem?_eq_getElem (by rw [hsz]; exact hj)).symm
 rw [List.getElem?_append_right (by rw [hl, ← hs]; omega), List.getElem?_append_right (by simp; omega)]
 simp only [hl, ← hs, Array.length_toList, hsz, Nat.zero_add, hj, and_false, if_false, Option.map_id']
theorem holdsK_blk (hk : ∀ x, (enc x).length = k) {w : World} {b : Nat} {l : List α} {sp : List Value} {e : TypeId} (hb : Blk w b (l.flatMap enc ++ sp) e) : HoldsK enc k w b 0 l.toArray := by
 intro j hj
 rw [size_flatK] at hj
 refine ⟨?_, hb.frozen⟩
 have h1 : (flatK enc k l.toArray).toList[j]? = some ((flatK enc k l.toArray)[j]!) := by
  rw [Array.getElem?_toList, getElem!_pos _ j (by simpa using hj)]
  exact Array.getElem?_eq_getElem (by simpa using hj)
 rw [flatK_list hk] at h1
 refine hb.cells j _ ?_
 rw [List.getElem?_append_left (List.getElem?_eq_some_iff.1 h1).1]
 exact h1
theorem sorted_world (hk : ∀ x, (enc x).length = k) {w : World} {b : Nat} {l : List α} {sp : List Value} {e : TypeId} (hb : Blk w b (l.flatMap enc ++ sp) e) (d : Array α) (hs : d.size = l.length) (m : Nat) (os : Array Obj) :
  Blk (sortWorldK enc k w b 0 m d os) b (d.toList.flatMap enc ++ sp) e ∧ Keep (fun q => q = b) w (sortWorldK enc k w b 0 m d os) := by
 have hblk := hb.lt
 have hsz : (putRow id (Sort.ahead w m) b 0 (flatK enc k d)).heap.size = w.heap.size := by simp [Sort.ahead]
 have hat : ∀ i, i < w.heap.size → (sortWorldK enc k w b 0 m d os).heap[i]? = (putRow id (Sort.ahead w m) b 0 (flatK enc k d)).heap[i]? := by
  intro i hi
  show ((putRow id (Sort.ahead w m) b 0 (flatK enc k d)).heap ++ os)[i]? = _
  rw [Array.getElem?_append_left (by rw [hsz]; exact hi)]
 refine ⟨?_, rfl, rfl, rfl, Nat.le_add_right _ _, ?_, ?_⟩
 ·
  unfold Blk at *
  rw [hat b hblk]
  show (w.heap.modify b _)[b]? = _
  rw [Array.getElem?_modify, if_pos rfl, hb]
  simp only [Option.map_some, onCells]
  rw [putCells_flat hk l d sp hs]
 ·
  show w.heap.size ≤ ((putRow id (Sort.ahead w m) b 0 (flatK enc k d)).heap ++ os).size
  rw [Array.size_append, hsz]; omega
 intro i hi hne
 rw [hat i hi]
 show (w.heap.modify b _)[i]? = _
 rw [Array.getElem?_modify, if_neg (fun h => hne h.symm)]
theorem permIn_list {l : List α} {d : Array α} (h : PermIn 0 l.toArray.size l.toArray d) : d.toList.Perm l := by
 obtain ⟨h1, _, h3⟩ := h
 have e1 : l.toArray.extract 0 l.toArray.size = l.toArray := by simp
 have e2 : d.extract 0 l.toArray.size = d := by rw [← h1]; simp
 rw [e1, e2] at h3
 exact h3
theorem sortedIn_list {lt : α → α → Bool} {d : Array α} {n : Nat} (hn : d.size = n) (h : SortedIn lt 0 n d) : d.toList.Pairwise (fun a b => lt b a = false) := by
 subst hn
 rw [List.pairwise_iff_getElem]
 intro i j hi hj hij
 have := h i j (Nat.zero_le _) hij (by simpa using hj)
 rw [getElem!_pos _ i (by simpa using hi), getElem!_pos _ j (by simpa using hj)] at this
 simpa using this
end
theorem sub_list {α : Type} {p : α → Prop} : ∀ {l : List α}, (∀ x ∈ l, p x) → ∃ m : List { x // p x }, m.map Subtype.val = l
 | [], _ => ⟨[], rfl⟩
 | x :: r, h => by
  obtain ⟨m, hm⟩ := sub_list (l := r) (fun y hy => h y (List.mem_cons_of_mem _ hy))
  exact ⟨⟨x, h x (List.mem_cons_self ..)⟩ :: m, by simp [hm]⟩
end Go.GL
namespace Go.Proofs
open Go.Shelf
def Tryz.laysSlF06P_ren : Go.Shelf.Ren := ⟨fun | 6 => 9 | 15 => 24 | 14 => 23 | 28 => 61 | 29 => 62 | 20 => 53 | 21 => 54 | 22 => 55 | 23 => 56 | 24 => 57 | 25 => 58 | 26 => 59 | 27 => 60 | 46 => 96 | 47 => 97 | 48 => 98 | 49 => 99 | 50 => 100 | 57 => 123 | n => n, fun | 22 => 35 | 24 => 43 | 25 => 44 | 3 => 3 | 39 => 76 | 0 => 0 | 53 => 124 | 55 => 126 | 4 => 4 | 46 => 117 | 45 => 116 | 50 => 121 | 5 => 5 | 9 => 9 | 66 => 150 | 70 => 154 | 76 => 179 | 77 => 165 | n => n, fun | n => n⟩
theorem Tryz.laysSlF06P : Go.Proofs.SlLaysF0.n6 Tryz.prog Tryz.laysSlF06P_ren := {
 mixed := by kernel_rfl
 f6 := ⟨Tryz.f9.name, by decide, Tryz.func9.trans (congrArg some (by kernel_rfl))⟩
 f14 := ⟨Tryz.f23.name, by decide, Tryz.func23.trans (congrArg some (by kernel_rfl))⟩
 f15 := Tryz.func24.trans (congrArg some (by kernel_rfl))
 f20 := ⟨Tryz.f53.name, by decide, Tryz.func53.trans (congrArg some (by kernel_rfl))⟩
 f21 := ⟨Tryz.f54.name, by decide, Tryz.func54.trans (congrArg some (by kernel_rfl))⟩
 f22 := ⟨Tryz.f55.name, by decide, Tryz.func55.trans (congrArg some (by kernel_rfl))⟩
 f23 := ⟨Tryz.f56.name, by decide, Tryz.func56.trans (congrArg some (by kernel_rfl))⟩
 f24 := ⟨Tryz.f57.name, by decide, Tryz.func57.trans (congrArg some (by kernel_rfl))⟩
 f25 := ⟨Tryz.f58.name, by decide, Tryz.func58.trans (congrArg some (by kernel_rfl))⟩
 f26 := ⟨Tryz.f59.name, by decide, Tryz.func59.trans (congrArg some (by kernel_rfl))⟩
 f27 := ⟨Tryz.f60.name, by decide, Tryz.func60.trans (congrArg some (by kernel_rfl))⟩
 f28 := Tryz.func61.trans (congrArg some (by kernel_rfl))
 f29 := Tryz.func62.trans (congrArg some (by kernel_rfl))
 f46 := ⟨Tryz.f96.name, by decide, Tryz.func96.trans (congrArg some (by kernel_rfl))⟩
 f47 := Tryz.func97.trans (congrArg some (by kernel_rfl))
 f48 := Tryz.func98.trans (congrArg some (by kernel_rfl))
 f49 := ⟨Tryz.f99.name, by decide, Tryz.func99.trans (congrArg some (by kernel_rfl))⟩
 f50 := ⟨Tryz.f100.name, by decide, Tryz.func100.trans (congrArg some (by kernel_rfl))⟩
 f57 := ⟨Tryz.f123.name, by decide, Tryz.func123.trans (congrArg some (by kernel_rfl))⟩
 t0 := Tryz.underlying0
 a0 := Tryz.isAgg0
 z0 := Tryz.sizeOf0
 v0 := Tryz.zeroValue0
 t3 := Tryz.underlying3
 a3 := Tryz.isAgg3
 z3 := Tryz.sizeOf3
 v3 := Tryz.zeroValue3
 t4 := Tryz.underlying4
 a4 := Tryz.isAgg4
 z4 := Tryz.sizeOf4
 v4 := Tryz.zeroValue4
 t5 := Tryz.underlying5
 a5 := Tryz.isAgg5
 z5 := Tryz.sizeOf5
 v5 := Tryz.zeroValue5
 t9 := Tryz.underlying9
 a9 := Tryz.isAgg9
 z9 := Tryz.sizeOf9
 v9 := Tryz.zeroValue9
 t22 := Tryz.underlying35
 a22 := Tryz.isAgg35
 z22 := Tryz.sizeOf35
 v22 := Tryz.zeroValue35
 t25 := Tryz.underlying44
 a25 := Tryz.isAgg44
 z25 := Tryz.sizeOf44
 v25 := Tryz.zeroValue44
 t39 := Tryz.underlying76
 a39 := Tryz.isAgg76
 z39 := Tryz.sizeOf76
 v39 := Tryz.zeroValue76
 t45 := Tryz.underlying116
 a45 := Tryz.isAgg116
 z45 := Tryz.sizeOf116
 v45 := Tryz.zeroValue116
 t46 := Tryz.underlying117
 a46 := Tryz.isAgg117
 z46 := Tryz.sizeOf117
 v46 := Tryz.zeroValue117
 t50 := Tryz.underlying121
 a50 := Tryz.isAgg121
 z50 := Tryz.sizeOf121
 v50 := Tryz.zeroValue121
 t53 := Tryz.underlying124
 a53 := Tryz.isAgg124
 z53 := Tryz.sizeOf124
 v53 := Tryz.zeroValue124
 t55 := Tryz.underlying126
 a55 := Tryz.isAgg126
 z55 := Tryz.sizeOf126
 v55 := Tryz.zeroValue126
 t66 := Tryz.underlying150
 a66 := Tryz.isAgg150
 z66 := Tryz.sizeOf150
 v66 := Tryz.zeroValue150
 t70 := Tryz.underlying154
 a70 := Tryz.isAgg154
 z70 := Tryz.sizeOf154
 v70 := Tryz.zeroValue154
 t76 := Tryz.underlying179
 a76 := Tryz.isAgg179
 z76 := Tryz.sizeOf179
 v76 := Tryz.zeroValue179
 t77 := Tryz.underlying165
 a77 := Tryz.isAgg165
 z77 := Tryz.sizeOf165
 v77 := Tryz.zeroValue165 }
open Go.RowKit Go.Lib Go.Sort in
theorem Tryz.slices_SortFuncP {α : Type} [Inhabited α] (k : Nat) (aE : ∀ w, (isAgg 43).run Tryz.prog w = .ok true w) (zE : ∀ w, (Go.sizeOf 43).run Tryz.prog w = .ok k w) (enc : α → List Value) (hk : ∀ x, (enc x).length = k) (h1 : ∀ x, ∀ v ∈ enc x, v.oneCell' = true) (cf : α → α → Int) (hO : SWO (ltOf cf)) (g : Nat) (cb : Array Value) (blk off cap : Nat) (d : Array α) (w : World) (eg : ∀ args w, (callFunc g args).run Tryz.prog w = .ok (.enter g args) w) (hcmp : CmpLays Tryz.prog g cb enc k cf blk off d.size w) (hH : HoldsK enc k w blk off d) (hblk : blk < w.heap.size) (hsz : d.size < 4611686018427387904) :
  Calls Tryz.prog 9 #[.slice (some ⟨blk, off, none⟩) d.size cap, .func (.func g) #[] cb] w fun e w' =>
   e = .returned (.tuple #[]) ∧ ∃ d' n os, PermIn 0 d.size d d' ∧ SortedIn (ltOf cf) 0 d.size d' ∧ w' = sortWorldK enc k w blk off n d' os := AnyQ.slices_SortFunc Tryz.laysSlF06P k aE zE enc hk h1 cf hO g cb blk off cap d w eg hcmp hH hblk hsz
open Go.RowKit Go.Lib Go.Sort in
theorem Tryz.slices_SortFuncP_none {α : Type} [Inhabited α] (p : Option Addr) (cap : Nat) (fv : Value) (w : World) :
  Calls Tryz.prog 9 #[.slice p 0 cap, fv] w fun e w' => e = .returned (.tuple #[]) ∧ w' = w := AnyF.slices_SortFunc_none Tryz.laysSlF06P p cap fv w
end Go.Proofs
namespace Go.Proofs.YtgojdedggmehiaaGreat
open Go.GL
def bd (p : Int × Int) : Prop := -4611686018427387904 ≤ p.1 ∧ p.1 ≤ 4611686018427387903 ∧ -4611686018427387904 ≤ p.2 ∧ p.2 ≤ 4611686018427387903
def lexLt (x y : Int × Int) : Prop := x.1 < y.1 ∨ x.1 = y.1 ∧ x.2 < y.2
theorem sortP_ok (f : FuncId) (hf : ∀ args w, (callFunc f args).run Tryz.prog w = .ok (.enter f args) w) (cf : Int × Int → Int × Int → Int)
  (hcf : ∀ x y W, bd x → bd y → Calls Tryz.prog f #[.agg #[.int .i64 x.1, .int .i64 x.2], .agg #[.int .i64 y.1, .int .i64 y.2]] W (Ret fun v w' => v = .int .i64 (cf x y) ∧ Ext W w'))
  (hlt : ∀ x y, bd x → bd y → (cf x y < 0 ↔ lexLt x y)) (es : List (Int × Int)) (hb : ∀ e ∈ es, bd e) (hlen : es.length ≤ 1048576) (v : Value) (n : Nat) (w : World) (hown : w.ownsRow 0 43 2 v n (es.flatMap encP)) :
  Calls Tryz.prog 9 #[v, .func (.func f) #[] #[]] w (Ret fun u w' => u = .tuple #[] ∧ ∃ es' : List (Int × Int), es'.Perm es ∧ es'.Pairwise (fun a b => ¬ lexLt b a) ∧ w'.ownsRow 0 43 2 v n (es'.flatMap encP) ∧ Keep (fun q => v.ownBlock = some q) w w') := by
 have hn : n = es.length := by
  have := hown.1
  rw [flatP_len] at this
  omega
 subst hn
 by_cases h0 : es = []
 ·
  subst h0
  obtain ⟨ao, c, rfl⟩ := own_form hown
  refine (Tryz.slices_SortFuncP_none (α := Nat) ao c (.func (.func f) #[] #[]) w).mono ?_
  rintro e w' ⟨rfl, rfl⟩
  exact ⟨_, rfl, rfl, [], List.Perm.refl _, List.Pairwise.nil, hown, Keep.refl _ _⟩
 obtain ⟨g, cap, sp, rfl, _, hnc, hcm, hB, hcl⟩ := own_open encP_len (by omega) hown h0
 obtain ⟨m, hm⟩ := sub_list hb
 have hlen' : m.length = es.length := by rw [← hm, List.length_map]
 haveI : Inhabited { x // bd x } := ⟨⟨(0, 0), by unfold bd; omega⟩⟩
 have hlt' : ∀ x y : { x // bd x }, Go.Proofs.ltOf (fun x y : { x // bd x } => cf x.1 y.1) x y = true ↔ lexLt x.1 y.1 := by
  intro x y
  unfold Go.Proofs.ltOf
  rw [decide_eq_true_eq]
  exact hlt x.1 y.1 x.2 y.2
 have hlf : ∀ x y : { x // bd x }, Go.Proofs.ltOf (fun x y : { x // bd x } => cf x.1 y.1) x y = false ↔ ¬ lexLt x.1 y.1 := by
  intro x y
  rw [← hlt', Bool.not_eq_true]
 have hswo : Go.Sort.SWO (Go.Proofs.ltOf fun x y : { x // bd x } => cf x.1 y.1) := by
  refine ⟨?_, ?_, ?_⟩
  · intro x; rw [hlf]; unfold lexLt; omega
  · intro x y z; rw [hlt', hlt', hlt']; unfold lexLt; omega
  intro x y z; rw [hlf, hlf, hlf]; unfold lexLt; omega
 have hflat : ∀ l : List { x // bd x }, l.flatMap (fun x => encP x.1) = (l.map Subtype.val).flatMap encP := fun l => by rw [List.flatMap_map]
 have hB' : Blk w g (m.flatMap (fun x => encP x.1) ++ sp) 43 := by rw [hflat, hm]; exact hB
 have hcon := Tryz.slices_SortFuncP (α := { x // bd x }) 2 Tryz.isAgg43 Tryz.sizeOf43 (fun x => encP x.1) (fun _ => rfl) (fun x v hv => encP_one x.1 v hv) (fun x y => cf x.1 y.1) hswo f #[] g 0 cap m.toArray w hf
  (fun q os dk _ x y => by
   refine (hcf x.1 y.1 _ x.2 y.2).mono ?_
   rintro e w' ⟨v, rfl, rfl, hk⟩
   exact ⟨rfl, ext_grow hk⟩)
  (holdsK_blk (enc := fun x : { x // bd x } => encP x.1) (k := 2) (fun _ => rfl) hB') hB.lt (by simp only [List.size_toArray]; omega)
 rw [show m.toArray.size = es.length from by simpa using hlen'] at hcon
 refine hcon.mono ?_
 rintro e w' ⟨rfl, d', q, os, hp, hs, rfl⟩
 have hds : d'.size = m.length := by have := hp.1; simpa using this
 have hw := sorted_world (enc := fun x : { x // bd x } => encP x.1) (k := 2) (fun _ => rfl) hB' d' hds q os
 have hperm : (d'.toList.map Subtype.val).Perm es := by
  have h1 : d'.toList.Perm m := permIn_list (by rw [show m.toArray.size = es.length from by simpa using hlen']; exact hp)
  have h2 := h1.map Subtype.val
  rwa [hm] at h2
 refine ⟨_, rfl, rfl, d'.toList.map Subtype.val, hperm, ?_, ?_, hw.2.mono (fun q _ h => by rw [h]; rfl)⟩
 ·
  rw [List.pairwise_map]
  refine (sortedIn_list (by omega) hs).imp ?_
  intro a b h
  exact (hlf _ _).1 h
 have h3 := hw.1
 rw [hflat] at h3
 have h4 := own_shut (enc := encP) (cap := cap) encP_len h3 (by rw [← hcl, List.length_append, List.length_append, flatP_len, flatP_len, hperm.length_eq]) (k := es.length) (by rw [hperm.length_eq]; exact Nat.le_refl _) hnc hcm
 rw [List.take_of_length_le (by rw [hperm.length_eq]; exact Nat.le_refl _)] at h4
 exact h4
def Simple (es s : List (Int × Int)) : Prop := s.Pairwise lexLt ∧ (∀ e, e ∈ s ↔ e ∈ es) ∧ s.length ≤ es.length
theorem simple_ok (n : Int) (es : List (Int × Int)) (ev : Value) (D : Nat → Prop) (w : World) (hes : SlR 2 RPair D w ev es) (hlen : es.length ≤ 1048576) (hb : ∀ e ∈ es, bd e) : Calls Tryz.prog 52 #[.int .i64 n, ev] w (Ret fun u w' => ∃ s v, Simple es s ∧ u = .agg #[.int .i64 n, v] ∧ SlR 2 RPair (fun b => w.heap.size ≤ b) w' v s ∧ Ext w w') := by
 have hev : ev.oneCell' = true ∧ ev.cells = #[ev] := by obtain ⟨ao, cap, rfl, _⟩ := hes; exact ⟨rfl, rfl⟩
 refine G.in2 Tryz.func52 rfl Tryz.ntmps52 rfl (Gs 2 rfl (G.mem rfl rfl (M.alloc (cs := _) Tryz.zeroValue37 rfl) ?_))
 rintro _ w1 ⟨b, rfl, hb1, hs1, hB1, hk1⟩
 refine Gs 5 rfl (G.call rfl Tryz.call93 (cloneP_ok es ev D w1 (hes.ext stable_pair hk1) hlen) ?_)
 rintro v2 w2 ⟨hown2, hfr2, hk2⟩
 refine Gs 6 rfl (G.call rfl Tryz.call9 (sortP_ok 94 Tryz.call94 (fun a b => if a.1 ≠ b.1 then a.1 - b.1 else a.2 - b.2) (fun x y W hx hy => compare_ok x y W hx hy) (fun x y _ _ => by unfold lexLt; split <;> omega) es hb hlen v2 es.length w2 hown2) ?_)
 rintro _ w3 ⟨rfl, es', hperm, hsort, hown3, hk3⟩
 refine Gs 6 rfl (G.call rfl Tryz.call95 (compactP_ok es' v2 es.length w3 hown3 (by rw [hperm.length_eq]; exact hlen)) ?_)
 rintro v4 w4 ⟨hown4, hbk4, hk4⟩
 have hE4 : Ext w1 w4 := (hk2.trans hk3 (fun q hq h => by have := hfr2 q h; omega)).trans hk4 (fun q hq h => by have := hfr2 q h; omega)
 have hv4 : v4.oneCell' = true ∧ v4.cells = #[v4] := by
  rcases hown4.2 with ⟨rfl, _⟩ | ⟨g, cap, cur, rfl, _⟩ <;> exact ⟨rfl, rfl⟩
 obtain ⟨a4, l4, c4, rfl⟩ : ∃ a l c, v4 = .slice a l c := by
  rcases hown4.2 with ⟨rfl, _⟩ | ⟨g, cap, cur, rfl, _⟩ <;> exact ⟨_, _, _, rfl⟩
 refine G.ops1 rfl rfl (R.build (v := .agg #[.int .i64 n, .slice a4 l4 c4]) [(0, _), (1, _)] rfl (fun _ => by kernel_rfl)) (G.mem0 rfl (M.storeK Tryz.sizeOf37 rfl rfl rfl rfl (by simp [Value.oneCell']) (hE4.blk hB1 (fun h => h)) (by simp)) ?_)
 rintro w5 ⟨hs5, hB5, hk5⟩
 refine Gs 3 rfl (G.retC Tryz.results52 rfl (run_loadK Tryz.isAgg37 Tryz.sizeOf37 rfl hB5.cells) ?_)
 have hk15 : Ext w w5 := (hk1.ext hE4).trans hk5 (fun q hq h => by omega)
 have hb4 : b < w4.heap.size := by have := hE4.size; omega
 refine ⟨_, rfl, Gr.compactL es', .slice a4 l4 c4, ⟨?_, ?_, by rw [← hperm.length_eq]; exact Gr.compactL_len _⟩, rfl, ?_, hk15⟩
 ·
  have h1 := Gr.compactL_strict (le := fun a b => ¬ lexLt b a) (fun a b h1 h2 => by unfold lexLt at h1 h2; apply Prod.ext <;> omega) hsort
  refine h1.imp ?_
  rintro a b ⟨h2, h3⟩
  unfold lexLt at *
  by_cases h4 : a.1 = b.1
  ·
   by_cases h5 : a.2 = b.2
   · exact absurd (Prod.ext h4 h5) h3
   omega
  omega
 ·
  intro e
  rw [Gr.compactL_mem]
  exact hperm.mem_iff
 have h5 := own_keep hown4 hk5 (fun g hg h => by rw [hbk4] at hg; have := hfr2 g hg; omega)
 exact SlR.ofRowK (by omega) encP encP_len (fun x _ => rfl) h5 (fun g hg => by rw [hbk4] at hg; have := hfr2 g hg; omega)
structure Succs (n : Nat) (es : List (Int × Int)) (R : List (List Int)) : Prop where
 len : R.length = n
 mem : ∀ (a : Nat) r, R[a]? = some r → ∀ b, b ∈ r ↔ ((a : Int), b) ∈ es
 sorted : ∀ (a : Nat) r, R[a]? = some r → r.Pairwise (· < ·)
theorem madeNil (n : Nat) : madeCells (Value.slice none 0 0).cells (n * 1) = (List.replicate n (.slice none 0 0)).toArray := made1 _ n rfl
theorem dnext_ok (n : Nat) (es : List (Int × Int)) (ev : Value) (D : Nat → Prop) (w : World) (hes : SlR 2 RPair D w ev es) (hlen : es.length ≤ 1048576) (hn : n ≤ 4096) (hok : es.all (Gr.okE n) = true) : Calls Tryz.prog 104 #[.int .i64 n, ev] w (Ret fun u w' => ∃ R, Succs n es R ∧ SlR 1 (RSl 1 RInt) (fun b => w.heap.size ≤ b) w' u R ∧ Ext w w') := by
 have hed : ∀ e ∈ es, 0 ≤ e.1 ∧ e.1 < n ∧ 0 ≤ e.2 ∧ e.2 < n := by
  intro e he
  have := List.all_eq_true.1 hok e he
  simp [Gr.okE] at this
  omega
 refine G.in2 Tryz.func104 rfl Tryz.ntmps104 rfl (Gs 8 rfl (G.mem rfl rfl (M.make Tryz.underlying80 Tryz.el49 rfl rfl (by omega) (by omega) (madeNil n)) ?_))
 rintro _ w1 ⟨bo, rfl, hbo, hs1, hB1, hk1⟩
 refine Gs 8 rfl (G.call rfl Tryz.call52 (simple_ok n es ev D w1 (hes.ext stable_pair hk1) hlen (fun e he => by have := hed e he; unfold bd; omega)) ?_)
 rintro _ w2 ⟨s, v, ⟨hss, hsm, hsle⟩, rfl, hsl, hk2⟩
 obtain ⟨ao, cap, rfl, hlc, hcm, hel⟩ := hsl
 refine G.ops1 rfl rfl (R.field Tryz.runUnderlying37 rfl Tryz.isAgg35 rfl rfl) (Gs 5 rfl ?_)
 have hM2 : Mat (Value.int .i64) 3 49 w2.heap.size w2 bo (List.replicate n (.slice none 0 0)) (Gr.rowsOf n []) := by
  rw [Gr.rowsOf_nil]
  exact (Mat.start hB1).ext hk2
 refine G.loop (σ := Nat × List Value) (fun ⟨k, rv⟩ => [(5, .slice (some ⟨bo, 0, none⟩) n n), (13, .slice ao s.length cap), (14, .int .i64 s.length), (15, .int .i64 k)]) (fun ⟨k, rv⟩ => fun w' => k ≤ s.length ∧ Mat (Value.int .i64) 3 49 w2.heap.size w' bo rv (Gr.rowsOf n (s.take k)) ∧ (∀ b, w1.heap.size ≤ b → b < w2.heap.size → w'.heap[b]? = w2.heap[b]?) ∧ Ext w w' ∧ w2.heap.size ≤ w'.heap.size) (fun ⟨k, rv⟩ => s.length - k) ((0, List.replicate n (.slice none 0 0))) (Sub.of rfl) (⟨Nat.zero_le _, hM2, fun _ _ _ => rfl, hk1.ext hk2, Nat.le_refl _⟩) ?_
 rintro ⟨k, rv⟩ w3 ⟨hkn, hM, hfix, hE3, hsz3⟩
 show G _ _ _ _ _ [(5, .slice (some ⟨bo, 0, none⟩) n n), (13, .slice ao s.length cap), (14, .int .i64 s.length), (15, .int .i64 k)] _
 refine Gs 6 rfl (G.ite0 rfl (fun hlt => ?_) (fun hge => ?_))
 ·
  refine Gs 6 rfl ?_
  obtain ⟨e, he⟩ : ∃ e, s[k]? = some e := ⟨_, List.getElem?_eq_getElem (by omega)⟩
  obtain ⟨be, oe, ce, hao, hDb, hcl, hcs, rfl⟩ := hel k e he
  have hee := hed e ((hsm e).1 (List.mem_of_getElem? he))
  obtain ⟨a, ha⟩ : ∃ a : Nat, e.1 = (a : Int) := ⟨e.1.toNat, by omega⟩
  have he' : s[k]? = some ((a : Int), e.2) := by rw [he, ← ha]
  refine G.ops1 rfl rfl (R.indexS Tryz.runUnderlying35 Tryz.sizeOf43 rfl rfl hao (by omega)) (G.ldK rfl Tryz.isAgg43 Tryz.sizeOf43 (hcs.same (fun hlt => hfix be hDb hlt)) rfl (G.mem rfl rfl (M.alloc (cs := _) Tryz.zeroValue43 rfl) ?_))
  rintro _ w4 ⟨b4, rfl, hb4, hs4, hB4, hk4⟩
  refine G.mem0 rfl (M.storeK Tryz.sizeOf43 rfl rfl rfl rfl (encP_one e) hB4 (by simp)) ?_
  rintro w5 ⟨hs5, hB5, hk5⟩
  have hE35 : Ext w3 w5 := hk4.trans hk5 (fun q hq h => by omega)
  have hM5 := hM.ext hE35
  have hm := Mat.at (i := a) hM5 (by rw [Gr.rowsOf_len]; omega)
  obtain ⟨v, r, hv, hr⟩ := hm
  refine Gs 2 rfl (Dw (fun w' => Blk w' b4 (encP e) 43 ∧ Blk w' bo rv 49) [13] (fun w6 hE6 hh6 => ?_))
  have hB6 := hE6.blk hB5 (fun h => h)
  have hM6 := hM5.ext hE6
  refine Ds [0] (by kernel_rfl) rfl (WD.takeW 1 rfl (by kernel_rfl) rfl rfl rfl (fun w1 => R.indexA Tryz.runUnderlying43 Tryz.sizeOf3 rfl rfl (by omega)) (WD.take 2 rfl (by kernel_rfl) rfl rfl rfl ⟨hB6, hM6.out⟩ (fun w1 hw1 => R.load Tryz.isAgg3 rfl (hw1.1.cells 0 _ rfl)) (Ds [3] (by kernel_rfl) rfl (WD.takeW 4 rfl (by kernel_rfl) rfl rfl rfl (fun w1 => R.indexA Tryz.runUnderlying43 Tryz.sizeOf3 rfl rfl (by omega)) (WD.take 5 rfl (by kernel_rfl) rfl rfl rfl ⟨hB6, hM6.out⟩ (fun w1 hw1 => R.load Tryz.isAgg3 rfl (hw1.1.cells 0 _ rfl)) (Da [6] (by kernel_rfl) rfl (by omega) (WD.take 7 rfl (by kernel_rfl) rfl rfl rfl ⟨hB6, hM6.out⟩ (fun w1 hw1 => R.load Tryz.isAgg49 rfl (hw1.2.cells.el1 a ha hv)) ?_)))))))
  refine WD.takeW 8 rfl (by kernel_rfl) rfl rfl rfl (fun w1 => R.indexA Tryz.runUnderlying43 Tryz.sizeOf3 rfl rfl (by omega)) (WD.take 9 rfl (by kernel_rfl) rfl rfl rfl ⟨hB6, hM6.out⟩ (fun w1 hw1 => R.load Tryz.isAgg3 rfl (hw1.1.cells 1 _ rfl)) (WD.mem 10 rfl (by kernel_rfl) rfl rfl rfl (M.buildSlice (cs := [.int .i64 e.2]) [(0, _)] Tryz.runUnderlying49 Tryz.sizeOf3 Tryz.zeroValue3 (by decide) rfl (by kernel_rfl)) ?_))
  rintro _ w7 ⟨b7, rfl, hb7, hs7, hB7, hk7⟩
  refine ⟨fun _ => ⟨hk7.blk hB6 (fun h => h), hk7.blk hM6.out (fun h => h)⟩, ?_⟩
  have hM7 := hM6.ext hk7
  have hrow := hM7.row a v r hv hr
  have hrl : r.length ≤ 1048576 := by
   have h1 : r.length ≤ s.length := by
    rw [Gr.rowsOf_at (by omega)] at hr
    cases hr
    rw [List.length_map]
    exact Nat.le_trans (List.length_filter_le _ _) (by rw [List.length_take]; omega)
   omega
  refine WD.mem 11 rfl (by kernel_rfl) rfl rfl rfl (M.append Tryz.underlying49 Tryz.el3 rfl (by decide) rfl rfl hrow rfl (Cells.add hB7.cells) (by simp; rfl) (by omega) (by omega)) ?_
  rintro v' w8 ⟨hown8, hfr8, hk8, _⟩
  obtain ⟨av, cv, rfl⟩ := own_form hown8
  have hbo8 : v.ownBlock ≠ some bo := fun h => (hM7.far a v bo hv h).2 rfl
  have hb48 : v.ownBlock ≠ some b4 := fun h => by have := hM.blk hv h; omega
  refine ⟨fun _ => ⟨hk8.blk (hk7.blk hB6 (fun h => h)) hb48, hk8.blk hM7.out hbo8⟩, ?_⟩
  refine Da [12] (by kernel_rfl) rfl (by omega) (WD.mem0 13 rfl (by kernel_rfl) rfl rfl (M.store Tryz.sizeOf49 rfl rfl rfl rfl (hk8.blk hM7.out hbo8) (by rw [hM7.len, Gr.rowsOf_len]; omega)) ?_)
  rintro w9 hW9
  refine ⟨fun h => absurd (List.mem_singleton.2 rfl) h, ?_⟩
  rw [show 0 + e.1.toNat * 1 = a from by omega] at hW9
  have hk79 : Keep (fun q => v.ownBlock = some q ∨ q = bo) w7 w9 := (hk8.mono (fun _ _ h => .inl h)).trans hW9.2.2 (fun _ _ h => .inr h)
  have hk39 : Keep (fun q => v.ownBlock = some q ∨ q = bo) w3 w9 := ((hE35.ext (hE6.ext hk7)).mono (fun _ _ h => h.elim)).trans hk79 (fun _ _ h => h)
  refine G.done (by kernel_rfl) ?_ _
  refine Ga 6 rfl (by omega) (G.back ((k + 1, rv.set a (.slice av (r.length + 1) cv))) (Sub.of rfl) (⟨by omega, ?_, ?_, ?_, ?_⟩) (by first | omega | (dsimp only; omega)))
  ·
   show Mat _ _ _ _ _ _ _ (Gr.rowsOf n (s.take (k + 1)))
   rw [Gr.rowsOf_take he' hr]
   exact hM7.push (by have := hk2.size; have := hk7.size; have := hE6.size; have := hE35.size; omega) hv hr hown8 hfr8 hk8 hW9
  ·
   intro q hq1 hq2
   rw [hk39.block q (by omega) (fun h => by rcases h with h | h <;> first | omega | (have := hM.far a v q hv h; omega))]
   exact hfix q hq1 hq2
  · exact hE3.trans hk39 (fun q hq h => by have := hk1.size; rcases h with h | h <;> first | omega | (have := (hM.far a v q hv h).1; have := hk2.size; omega))
  have := hk39.size; omega
 refine Gs 12 rfl (G.ret1 Tryz.results104 rfl ⟨_, rfl, Gr.rowsOf n s, ⟨Gr.rowsOf_len n s, ?_, ?_⟩, ?_, hE3⟩)
 ·
  intro a r hr b
  rw [Gr.rowsOf_mem hr, hsm]
 ·
  intro a r hr
  exact Gr.rowsOf_sorted hr hss
 have : k = s.length := by omega
 subst this
 rw [List.take_length] at hM
 exact hM.sl (fun _ => rfl) (by omega) (fun i v g hv hg => by have := (hM.far i v g hv hg).1; have := hk1.size; have := hk2.size; omega) (by rw [Gr.rowsOf_len]) (by rw [Gr.rowsOf_len]; omega) (by omega)
theorem successors_ok (n : Int) (es : List (Int × Int)) (ev : Value) (D : Nat → Prop) (w : World) (hes : SlR 2 RPair D w ev es) : Calls Tryz.prog 67 #[.agg #[.int .i64 n, ev]] w (Ret fun v w' => ∃ u, v = .tuple #[u, .int .i64 (Gr.check n es)] ∧ (Gr.check n es ≠ 0 → u = .slice none 0 0) ∧ (Gr.check n es = 0 → ∃ R, Succs n.toNat es R ∧ SlR 1 (RSl 1 RInt) (fun b => w.heap.size ≤ b) w' u R) ∧ Ext w w') := by
 have hes' := hes
 obtain ⟨ao, cap, rfl, _⟩ := hes'
 refine G.in1 Tryz.func67 rfl Tryz.ntmps67 rfl (Gs 2 rfl (G.mem rfl rfl (M.box rfl rfl) ?_))
 rintro _ w1 ⟨b, rfl, hb, hs1, hB1, hk1⟩
 refine Gs 7 rfl (G.ldK rfl Tryz.isAgg37 Tryz.sizeOf37 hB1.cells rfl (G.call rfl Tryz.call51 (check_ok n es _ D w1 (hes.ext stable_pair hk1)) ?_))
 rintro _ w2 ⟨rfl, hk2⟩
 have hB2 := hk2.blk hB1 (fun h => h)
 refine Gs 9 rfl (G.ite0 rfl (fun hc => ?_) (fun hc => ?_))
 · refine Gs 9 rfl (G.ret2 Tryz.results67 rfl rfl ⟨_, rfl, _, rfl, fun _ => rfl, fun h => absurd h hc, hk1.ext hk2⟩)
 have hc0 : Gr.check n es = 0 := by simpa using hc
 obtain ⟨h1, h2, h3, h4⟩ := Gr.check_zero hc0
 obtain ⟨m, rfl⟩ := Int.eq_ofNat_of_zero_le h1
 refine Gs 5 rfl (G.ld rfl Tryz.isAgg3 (hB2.cells 0 _ rfl) (Gs 1 rfl (G.ld rfl Tryz.isAgg35 (hB2.cells 1 _ rfl) (G.call rfl Tryz.call104 (dnext_ok m es _ D w2 ((hes.ext stable_pair hk1).ext stable_pair hk2) h3 (by omega) h4) ?_))))
 rintro u w3 ⟨Rw, hR, hu, hk3⟩
 refine Gs 5 rfl ?_
 rw [hc0]
 refine G.ret2 Tryz.results67 rfl rfl ⟨_, rfl, u, rfl, fun h => absurd rfl h, fun _ => ⟨Rw, hR, hu.wide (stable_sl stable_int) (fun b h => by have := hk1.size; have := hk2.size; omega)⟩, (hk1.ext hk2).ext hk3⟩
theorem reverse_ok (n : Int) (es : List (Int × Int)) (ev : Value) (D : Nat → Prop) (w : World) (hes : SlR 2 RPair D w ev es) : Calls Tryz.prog 63 #[.agg #[.int .i64 n, ev]] w (Ret fun v w' => ∃ u, v = .tuple #[u, .int .i64 (Gr.check n es)] ∧ (Gr.check n es ≠ 0 → u = .agg #[.int .i64 0, .slice none 0 0]) ∧ (Gr.check n es = 0 → ∃ s v, Simple (es.map fun e => (e.2, e.1)) s ∧ u = .agg #[.int .i64 n, v] ∧ SlR 2 RPair (fun b => w.heap.size ≤ b) w' v s) ∧ Ext w w') := by
 have hes' := hes
 obtain ⟨ao, cap, rfl, _⟩ := hes'
 refine G.in1 Tryz.func63 rfl Tryz.ntmps63 rfl (Gs 2 rfl (G.mem rfl rfl (M.box rfl rfl) ?_))
 rintro _ w1 ⟨b, rfl, hb, hs1, hB1, hk1⟩
 refine G.mem rfl rfl (M.alloc (cs := _) Tryz.zeroValue37 rfl) ?_
 rintro _ w2 ⟨b2, rfl, hb2, hs2, hB2, hk2⟩
 have hB12 := hk2.blk hB1 (fun h => h)
 refine Gs 6 rfl (G.ldK rfl Tryz.isAgg37 Tryz.sizeOf37 hB12.cells rfl (G.call rfl Tryz.call51 (check_ok n es _ D w2 ((hes.ext stable_pair hk1).ext stable_pair hk2)) ?_))
 rintro _ w3 ⟨rfl, hk3⟩
 have hB13 := hk3.blk hB12 (fun h => h)
 have hB3 := hk3.blk hB2 (fun h => h)
 have hE3 := (hk1.ext hk2).ext hk3
 refine Gs 9 rfl (G.ite0 rfl (fun hc => ?_) (fun hc => ?_))
 ·
  refine Gs 2 rfl (G.ops1 rfl rfl (R.build (v := .agg #[.int .i64 0, .slice none 0 0]) [] rfl (fun _ => by kernel_rfl)) (Gs 1 rfl (G.mem0 rfl (M.storeK Tryz.sizeOf37 rfl rfl rfl rfl (by simp [Value.oneCell']) hB3 (by simp)) ?_)))
  rintro w4 ⟨hs4, hB4, hk4⟩
  refine Gs 5 rfl (G.retCT Tryz.results63 rfl (run_loadK Tryz.isAgg37 Tryz.sizeOf37 rfl hB4.cells) rfl ?_)
  exact ⟨_, rfl, _, rfl, fun _ => rfl, fun h => absurd h hc, hE3.trans hk4 (fun q hq h => by have := hk1.size; omega)⟩
 have hc0 : Gr.check n es = 0 := by simpa using hc
 obtain ⟨h1, h2, h3, h4⟩ := Gr.check_zero hc0
 have hed : ∀ e ∈ es.map (fun e : Int × Int => (e.2, e.1)), bd e := by
  intro e he
  obtain ⟨x, hx, rfl⟩ := List.mem_map.1 he
  have := List.all_eq_true.1 h4 x hx
  simp [Gr.okE] at this
  unfold bd; dsimp only; omega
 refine Gs 3 rfl (Dw (fun w' => Blk w' b [.int .i64 n, .slice ao es.length cap] 37 ∧ Ext w3 w') [5, 6] (fun w4 hE4 hh4 => ?_))
 refine Ds [0] (by kernel_rfl) rfl (WD.take 1 rfl (by kernel_rfl) rfl rfl rfl ⟨hE4.blk hB13 (fun h => h), hE4⟩ (fun w1 hw1 => R.load Tryz.isAgg3 rfl (hw1.1.cells 0 _ rfl)) (WD.take 2 rfl (by kernel_rfl) rfl rfl rfl ⟨hE4.blk hB13 (fun h => h), hE4⟩ (fun w1 hw1 => R.loadK Tryz.isAgg37 Tryz.sizeOf37 rfl (by rfl) hw1.1.cells) (WD.call 3 rfl (by kernel_rfl) rfl rfl rfl (F.call (vs := [_]) Tryz.call101 rfl) (turned_ok n es _ D w4 (hes.ext stable_pair (hE3.ext hE4)) h3) ?_)))
 rintro v5 w5 ⟨hv5, hk5⟩
 refine ⟨fun _ => ⟨(hE4.ext hk5).blk hB13 (fun h => h), hE4.ext hk5⟩, ?_⟩
 refine WD.call 4 rfl (by kernel_rfl) rfl rfl rfl (F.call (vs := [_, _]) Tryz.call52 rfl) (simple_ok n _ v5 _ w5 hv5 (by simpa using h3) hed) ?_
 rintro _ w6 ⟨s, v, hs, rfl, hsl, hk6⟩
 refine ⟨fun _ => ⟨((hE4.ext hk5).ext hk6).blk hB13 (fun h => h), (hE4.ext hk5).ext hk6⟩, ?_⟩
 have hv6 : v.oneCell' = true := by obtain ⟨ao, cap, rfl, _⟩ := hsl; rfl
 have hE6 := (hE4.ext hk5).ext hk6
 obtain ⟨a6, c6, rfl⟩ : ∃ a6 c6, v = .slice a6 s.length c6 := by obtain ⟨ao, cap, rfl, _⟩ := hsl; exact ⟨_, _, rfl⟩
 refine WD.mem0 5 rfl (by kernel_rfl) rfl rfl (M.storeK Tryz.sizeOf37 rfl rfl rfl rfl (by simp [Value.oneCell']) (hE6.blk hB3 (fun h => h)) (by simp)) ?_
 rintro w7 ⟨hs7, hB7, hk7⟩
 refine ⟨fun h => absurd (by simp) h, ?_⟩
 refine Ds [6] (by kernel_rfl) rfl (G.done (by kernel_rfl) ?_ _)
 refine Gs 2 rfl (G.retCT Tryz.results63 rfl (run_loadK Tryz.isAgg37 Tryz.sizeOf37 rfl hB7.cells) rfl ?_)
 rw [hc0]
 exact ⟨_, rfl, _, rfl, fun h => absurd rfl h, fun _ => ⟨s, _, hs, rfl, (hsl.keep stable_pair hk7 (fun q hq _ h => by have := hk3.size; have := hE4.size; have := hk5.size; omega)).wide stable_pair (fun q hq => by have := hE3.size; have := hE4.size; have := hk5.size; omega)⟩, (hE3.ext hE6).trans hk7 (fun q hq h => by have := hk1.size; omega)⟩
theorem simple2_ok (n : Int) (es : List (Int × Int)) (ev : Value) (D : Nat → Prop) (w : World) (hes : SlR 2 RPair D w ev es) (hlen : es.length ≤ 1048576) (hb : ∀ e ∈ es, bd e) : Calls Tryz.prog 52 #[.int .i64 n, ev] w (Ret fun u w' => (∃ s a c, Simple es s ∧ u = .agg #[.int .i64 n, .slice a (List.length s) c] ∧ SlR 2 RPair (fun b => w.heap.size ≤ b) w' (.slice a s.length c) s) ∧ Ext w w') := by
 refine (simple_ok n es ev D w hes hlen hb).mono fun e w' => ?_
 rintro ⟨_, rfl, s, v, h1, rfl, h2, h3⟩
 obtain ⟨a, c, rfl⟩ := h2.form
 exact ⟨_, rfl, ⟨s, a, c, h1, rfl, h2⟩, h3⟩
theorem digSimple_ok (n : Int) (es : List (Int × Int)) (ev : Value) (D : Nat → Prop) (W : World) (hes : SlR 2 RPair D W ev es) :
  Calls Tryz.prog 22 #[.agg #[.int .i64 n, ev]] W (Ret fun r w' => (∃ m a s c, r = .tuple #[.agg #[.int .i64 m, .slice a (List.length s) c], .int .i64 (Gr.check n es)] ∧ (Gr.check n es ≠ 0 → m = 0 ∧ a = none ∧ c = 0 ∧ s = []) ∧ (Gr.check n es = 0 → m = n ∧ Simple es s) ∧ SlR 2 RPair (fun b => W.heap.size ≤ b) w' (.slice a s.length c) s) ∧ Ext W w') := by
 obtain ⟨ae, ce, rfl⟩ := hes.form
 refine G.in1 Tryz.func22 rfl Tryz.ntmps22 rfl (V.inn (Vs 2 rfl (V.box 1 rfl rfl (fun b1 => ?_))))
 refine V.alloc 2 Tryz.zeroValue37 rfl rfl (fun b2 => (Vs 7 rfl (V.call1 Tryz.call51 rfl (fun w hI => check_ok n es _ D w (Tr1 hI.k0 hes)) (Vs 9 rfl (V.ite rfl (fun c0 => ?_) (fun c0 => ?_))))))
 · refine Vs 2 rfl (V.bld [Value.int IntKind.i64 0, Value.slice none 0 0] [(0, 1), (1, 1)] [] rfl rfl (fun _ => by kernel_rfl) (Vs 7 rfl (V.retCT Tryz.results22 Tryz.isAgg37 Tryz.sizeOf37 rfl rfl rfl rfl (fun w hI => ⟨_, rfl, ⟨0, none, [], 0, rfl, fun _ => ⟨rfl, rfl, rfl, rfl⟩, fun h => absurd h c0, SlR.nil⟩, hI.k0⟩))))
 have h0 : Gr.check n es = 0 := by omega
 have hb : es.length ≤ 1048576 ∧ ∀ e ∈ es, bd e := by
  unfold Gr.check at h0
  split at h0
  · cases h0
  split at h0
  · cases h0
  split at h0
  ·
   rename_i h1 h2 h3
   refine ⟨by omega, fun e he => ?_⟩
   have := List.all_eq_true.1 h3 e he
   unfold Gr.okE at this
   simp at this
   unfold bd
   omega
  cases h0
 refine Vs 8 rfl (V.call2 Tryz.call52 rfl (fun w hI => simple2_ok n es _ D w (Tr1 hI.k0 hes) hb.1 hb.2) ?_)
 rintro rr w1 w2 hI1 hk12 ⟨s, a, c, hs, rfl, hsl⟩ hlow
 have hsz : W.heap.size ≤ w1.heap.size := hI1.k0.size
 refine Vs 5 rfl (V.dat 900 0 rfl rfl rfl (hsl) (fun b hb _ hs => by have := hlow b hs; omega) (V.retCT Tryz.results22 Tryz.isAgg37 Tryz.sizeOf37 rfl rfl rfl rfl (fun w hI => ⟨_, rfl, ⟨n, a, s, c, by rw [h0], fun h => absurd h0 h, fun _ => ⟨rfl, hs⟩, (hI.at 900 rfl).1.wide stable_pair (fun b hb => by omega)⟩, hI.k1⟩)))
end Go.Proofs.YtgojdedggmehiaaGreat
namespace Go.GL
section
variable {P : Program} {env : Env} {w : World} {dst : Option Tmp} {ty : TypeId} {pos : String} {aft : Array Edge} {g : Option (Nat × Bool)}
theorem M.bs0 {t e : TypeId} {k : Nat} (hu : ∀ w, (underlying t).run P w = .ok (.slice e) w) (hs : ∀ w, (sizeOf e).run P w = .ok k w) :
  Makes P ⟨dst, .buildSlice t 0 #[], ty, pos, aft, g⟩ env w (fun u w' => ∃ b, u = .slice (some ⟨b, 0, none⟩) 0 0 ∧ New w [] e b w') := by
 refine ⟨.slice (some ⟨w.heap.size, 0, none⟩) 0 0, w.alloc (.cells #[] e), ?_, _, rfl, New.mk w [] e⟩
 intro n a ha
 have h0 : Array.range 0 = #[] := Array.eq_empty_of_size_eq_zero (by simp)
 simp [execOp, Instr.buildSlice, hu, hs, newRow, Instr.fill, h0]
end
end Go.GL
namespace Go.Proofs.YtgojdedggmehiaaGreat
open Go.GL
theorem refOf_ok (vs : List Vr) (k : Int) (vv : Value) (D : Nat → Prop) (w : World) (hvs : SlR 5 RVr D w vv vs) (hlen : vs.length ≤ 1000000) : Calls Tryz.prog 38 #[vv, .int .i64 k] w (Ret fun r w' => SlR 5 RVr (fun b => w.heap.size ≤ b) w' r (ofKind k vs) ∧ Ext w w') := by
 obtain ⟨av, nv, rfl⟩ := hvs.form
 have hvs0 := hvs
 have hE := Keep.refl (fun _ => False) w
 refine G.in2 Tryz.func38 rfl Tryz.ntmps38 rfl (Gs 7 rfl (G.mem rfl rfl (M.bs0 Tryz.runUnderlying22 Tryz.sizeOf96) ?_))
 rintro _ w0 ⟨b0, rfl, hg_b0, hs_b0, hB_b0, hk_b0⟩
 obtain ⟨hE, hvs⟩ := Tr2 hk_b0 hE hvs
 have ho0 : w0.ownsRow 0 96 5 (.slice (some ⟨b0, 0, none⟩) 0 0) 0 [] := own_blk (k := 5) (n := 0) (cap := 0) hB_b0 (Nat.le_refl _) (by decide) rfl
 refine Gs 10 rfl (G.loop (σ := Nat × Value) (fun ⟨i, vl⟩ => [(0, .slice av vs.length nv), (1, .int .i64 k), (5, vl), (6, .int .i64 i)]) (fun ⟨i, vl⟩ => fun w' => i ≤ vs.length ∧ w'.ownsRow 0 96 5 vl (ofKind k (vs.take i)).length ((ofKind k (vs.take i)).flatMap encV) ∧ (∀ q, vl.ownBlock = some q → w.heap.size ≤ q) ∧ Ext w w') (fun ⟨i, vl⟩ => vs.length - i) ((0, .slice (some ⟨b0, 0, none⟩) 0 0)) (Sub.of rfl) (⟨Nat.zero_le _, ho0, fun q hq => by obtain rfl : b0 = q := Option.some.inj hq; omega, hE⟩) ?_)
 rintro ⟨i, vl⟩ w2 ⟨hi, hown, hfr, hE2⟩
 show G _ _ _ _ _ [(0, .slice av vs.length nv), (1, .int .i64 k), (5, vl), (6, .int .i64 i)] _
 have hvs2 := hvs0.ext stable_vr hE2
 refine Gs 9 rfl (G.ite rfl (fun hlt => ?_) (fun hlt => ?_))
 ·
  obtain ⟨x, he_x⟩ : ∃ x, vs[i]? = some x := ⟨_, List.getElem?_eq_getElem (by omega)⟩
  have hm_x := List.mem_of_getElem? he_x
  obtain ⟨b_x, o_x, c_x, ha_x, _, hc_x, hR_x⟩ := hvs2.at he_x
  have h1_x := RVr.one hR_x
  obtain rfl := hR_x
  have hlt_x : b_x < _ := World.block_lt_of_cell? _ _ (hc_x 0 _ rfl)
  have hot := ofKind_take (k := k) he_x
  have hol := ofKind_len k (vs.take i)
  rw [List.length_take] at hol
  refine Gs 8 rfl (G.ops1 rfl rfl (R.indexS Tryz.runUnderlying22 Tryz.sizeOf96 rfl rfl ha_x (by omega)) (Gs 1 rfl (G.ld rfl Tryz.isAgg57 (hc_x 1 _ rfl) (Gs 4 rfl (G.ite rfl (fun hkx => ?_) (fun hkx => ?_))))))
  ·
   rw [if_pos hkx] at hot
   refine Gs 4 rfl (G.ops1 rfl rfl (R.indexS Tryz.runUnderlying22 Tryz.sizeOf96 rfl rfl ha_x (by omega)) (G.ldK rfl Tryz.isAgg96 Tryz.sizeOf96 hc_x rfl (G.mem rfl rfl (M.buildSlice (cs := encV x) [(0, _)] Tryz.runUnderlying22 Tryz.sizeOf96 Tryz.zeroValue96 (by decide) rfl (by kernel_rfl)) ?_)))
   rintro _ w5 ⟨b5, rfl, hg_b5, hs_b5, hB_b5, hk_b5⟩
   have hown5 := own_keep hown hk_b5 (fun _ _ h => h)
   have hE5 := hE2.ext hk_b5
   have hs5 := hE5.size
   refine G.mem rfl rfl (M.append Tryz.underlying22 Tryz.el96 rfl (by decide) rfl rfl hown5 rfl (Cells.add hB_b5.cells) (encV_one _) (by omega) (by omega)) ?_
   rintro vl' w6 ⟨hown6, hfr6, hk6, _⟩
   refine Ga 9 rfl (by omega) (G.back ((i + 1, vl')) (Sub.of rfl) (⟨by omega, ?_, ?_, hE5.trans hk6 (fun q hq h => by have := hfr q h; omega)⟩) (by first | omega | (dsimp only; omega)))
   ·
    rw [hot, List.length_append, List.flatMap_append]
    exact hown6
   intro q hq
   rcases hfr6 with h | ⟨q', h, h'⟩
   · exact hfr q (by rw [← h]; exact hq)
   rw [h] at hq; cases hq; omega
  rw [if_neg hkx, List.append_nil] at hot
  refine Ga 8 rfl (by omega) (G.back ((i + 1, vl)) (Sub.of rfl) (⟨by omega, by rw [hot]; exact hown, hfr, hE2⟩) (by first | omega | (dsimp only; omega)))
 obtain rfl : i = vs.length := by omega
 rw [List.take_length] at hown
 refine Gs 12 rfl (G.ret1 Tryz.results38 rfl ⟨_, rfl, SlR.ofRowK (by omega) encV encV_len (fun x _ => rfl) hown hfr, hE2⟩)
theorem refSpace13_ok (vs : List Vr) (k : Int) (vv : Value) (D : Nat → Prop) (w : World) (hvs : SlR 5 RVr D w vv vs) (hlen : vs.length ≤ 1000000) : Calls Tryz.prog 17 #[vv, .int .i64 k] w (Ret fun r w' => (∃ a b : Int, r = .tuple #[.int .i64 a, .int .i64 b]) ∧ Ext w w') := by
 obtain ⟨av, nv, rfl⟩ := hvs.form
 have hE := Keep.refl (fun _ => False) w
 refine G.in2 Tryz.func17 rfl Tryz.ntmps17 rfl (Gs 8 rfl (G.cut (σ := Bool) (fun q => [(0, .slice av vs.length nv), (1, .int .i64 k), (23, .bool q)]) (fun q => fun w' => w' = w) ?_ ?_))
 ·
  refine Gs 4 rfl (G.sp 12 rfl (fun hh1 => ?_) (fun hh1 => ?_))
  ·
   refine Gs 4 rfl (G.sp 16 rfl (fun hh2 => ?_) (fun hh2 => ?_))
   ·
    refine Gs 4 rfl (G.sp 20 rfl (fun hh3 => ?_) (fun hh3 => ?_))
    ·
     refine Gs 4 rfl ?_
     refine G.meet (_) (Sub.of rfl) (rfl)
    refine Gs 4 rfl ?_
    refine G.meet (_) (Sub.cons rfl (Sub.cons rfl (Sub.cons (by first | rfl | (show some (Value.bool false) = some (Value.bool _); simp [*])) Sub.nil))) (rfl)
   refine Gs 8 rfl ?_
   refine G.meet (_) (Sub.cons rfl (Sub.cons rfl (Sub.cons (by first | rfl | (show some (Value.bool false) = some (Value.bool _); simp [*])) Sub.nil))) (rfl)
  refine Gs 12 rfl ?_
  refine G.meet (_) (Sub.cons rfl (Sub.cons rfl (Sub.cons (by first | rfl | (show some (Value.bool false) = some (Value.bool _); simp [*])) Sub.nil))) (rfl)
 rintro q w1 hw1
 subst hw1
 refine Gs 1 rfl (G.bool rfl (fun q1 => ?_) (fun q1 => ?_))
 · refine Gs 8 rfl (G.ret2 Tryz.results17 rfl rfl ⟨_, rfl, ⟨_, _, rfl⟩, hE⟩)
 refine Gs 6 rfl (G.call rfl Tryz.call38 (refOf_ok vs k _ D _ hvs hlen) ?_)
 rintro _ wz4 ⟨hl, hz4⟩
 obtain ⟨hE, hvs⟩ := Tr2 hz4 hE hvs
 have hol := ofKind_len k vs
 generalize ofKind k vs = l at hl hol
 obtain ⟨al, nl, rfl⟩ := hl.form
 refine Gs 10 rfl ?_
 have hlm := hl.max
 refine G.loop (σ := Nat) (fun i => [(6, .slice al l.length nl), (7, .int .i64 i)]) (fun i => fun w' => i ≤ l.length ∧ (∀ v ∈ l.take i, v.low ≤ v.high ∧ -1048576 ≤ v.low ∧ v.high ≤ 1048576) ∧ Ext wz4 w') (fun i => l.length - i) (0) (Sub.of rfl) (⟨Nat.zero_le _, by simp, Keep.refl _ _⟩) ?_
 rintro i w2 ⟨hi, hgood, hL1⟩
 obtain ⟨hE, hvs, hl⟩ := Tr3 hL1 hE hvs hl
 refine Gs 9 rfl (G.ite rfl (fun hlt => ?_) (fun hlt => ?_))
 ·
  obtain ⟨x, he_x⟩ : ∃ x, l[i]? = some x := ⟨_, List.getElem?_eq_getElem (by omega)⟩
  have hm_x := List.mem_of_getElem? he_x
  obtain ⟨b_x, o_x, c_x, ha_x, _, hc_x, hR_x⟩ := hl.at he_x
  have h1_x := RVr.one hR_x
  obtain rfl := hR_x
  have hlt_x : b_x < _ := World.block_lt_of_cell? _ _ (hc_x 0 _ rfl)
  refine Gs 5 rfl (Qt (by kernel_rfl) (Gs 2 rfl (G.opQ rfl rfl (fun w1 hw1 => R.indexS Tryz.runUnderlying22 Tryz.sizeOf96 rfl rfl ha_x (by omega)) (Gs 1 rfl (G.ldQ rfl Tryz.isAgg3 (fun w1 hw1 => ((hw1.cells hc_x (fun h => h)) 2 _ rfl)) (Gs 2 rfl (G.opQ rfl rfl (fun w1 hw1 => R.indexS Tryz.runUnderlying22 Tryz.sizeOf96 rfl rfl ha_x (by omega)) (Gs 1 rfl (G.ldQ rfl Tryz.isAgg3 (fun w1 hw1 => ((hw1.cells hc_x (fun h => h)) 3 _ rfl)) (Gs 2 rfl (G.sp 44 rfl (fun p1 => ?_) (fun p1 => ?_))))))))))))
  ·
   refine Gs 15 rfl (G.nilQ (fun wz5 hz5 => ?_))
   obtain ⟨hE, hvs, hl, hL1, hc_x⟩ := Tr5 hz5 hE hvs hl hL1 hc_x
   refine Gs 14 rfl (G.ret2 Tryz.results17 rfl rfl ⟨_, rfl, ⟨_, _, rfl⟩, hE⟩)
  refine Gs 2 rfl (G.opQ rfl rfl (fun w1 hw1 => R.indexS Tryz.runUnderlying22 Tryz.sizeOf96 rfl rfl ha_x (by omega)) (Gs 1 rfl (G.ldQ rfl Tryz.isAgg3 (fun w1 hw1 => ((hw1.cells hc_x (fun h => h)) 2 _ rfl)) (Gs 3 rfl (G.sp 52 rfl (fun p2 => ?_) (fun p2 => ?_))))))
  ·
   refine Gs 7 rfl (G.nilQ (fun wz6 hz6 => ?_))
   obtain ⟨hE, hvs, hl, hL1, hc_x⟩ := Tr5 hz6 hE hvs hl hL1 hc_x
   refine Gs 14 rfl (G.ret2 Tryz.results17 rfl rfl ⟨_, rfl, ⟨_, _, rfl⟩, hE⟩)
  refine Gs 2 rfl (G.opQ rfl rfl (fun w1 hw1 => R.indexS Tryz.runUnderlying22 Tryz.sizeOf96 rfl rfl ha_x (by omega)) (Gs 1 rfl (G.ldQ rfl Tryz.isAgg3 (fun w1 hw1 => ((hw1.cells hc_x (fun h => h)) 3 _ rfl)) (Gs 2 rfl (G.nilQ (fun wz7 hz7 => ?_))))))
  obtain ⟨hE, hvs, hl, hL1, hc_x⟩ := Tr5 hz7 hE hvs hl hL1 hc_x
  refine Gs 1 rfl (G.ite rfl (fun p3 => ?_) (fun p3 => ?_))
  · refine Gs 12 rfl (G.ret2 Tryz.results17 rfl rfl ⟨_, rfl, ⟨_, _, rfl⟩, hE⟩)
  refine Ga 8 rfl (by omega) ?_
  have hgood2 : ∀ v ∈ l.take (i + 1), v.low ≤ v.high ∧ -1048576 ≤ v.low ∧ v.high ≤ 1048576 := fun v hv => by
   rw [take_get he_x, List.mem_append, List.mem_singleton] at hv
   rcases hv with hv | rfl
   · exact hgood v hv
   omega
  refine G.back (i + 1) (Sub.of rfl) (⟨by omega, hgood2, hL1⟩) (by first | omega | (dsimp only; omega))
 obtain rfl : i = l.length := by omega
 rw [List.take_length] at hgood
 refine Gs 17 rfl (G.loop (σ := Nat × Int) (fun ⟨j, n⟩ => [(6, .slice al l.length nl), (8, .int .i64 n), (9, .int .i64 j)]) (fun ⟨j, n⟩ => fun w' => j ≤ l.length ∧ 0 ≤ n ∧ n ≤ 4096 ∧ Ext w2 w') (fun ⟨j, n⟩ => l.length - j) ((0, 1)) (Sub.of rfl) (⟨Nat.zero_le _, by decide, by decide, Keep.refl _ _⟩) ?_)
 rintro ⟨j, n⟩ w3 ⟨hj, hn0, hn1, hL2⟩
 show G _ _ _ _ _ [(6, .slice al l.length nl), (8, .int .i64 n), (9, .int .i64 j)] _
 obtain ⟨hE, hvs, hl, hL1⟩ := Tr4 hL2 hE hvs hl hL1
 refine Gs 9 rfl (G.ite rfl (fun hlt2 => ?_) (fun hlt2 => ?_))
 ·
  obtain ⟨x, he_x⟩ : ∃ x, l[j]? = some x := ⟨_, List.getElem?_eq_getElem (by omega)⟩
  have hm_x := List.mem_of_getElem? he_x
  obtain ⟨b_x, o_x, c_x, ha_x, _, hc_x, hR_x⟩ := hl.at he_x
  have h1_x := RVr.one hR_x
  obtain rfl := hR_x
  have hlt_x : b_x < _ := World.block_lt_of_cell? _ _ (hc_x 0 _ rfl)
  have hgx := hgood x hm_x
  have hm1 : 0 ≤ n * (x.high - x.low + 1) := Int.mul_nonneg hn0 (by omega)
  have hm2 : n * (x.high - x.low + 1) ≤ 4096 * 2097153 := Int.mul_le_mul hn1 (by omega) (by omega) (by omega)
  refine Gs 5 rfl (Qt (by kernel_rfl) (Gs 3 rfl (G.opQ rfl rfl (fun w1 hw1 => R.indexS Tryz.runUnderlying22 Tryz.sizeOf96 rfl rfl ha_x (by omega)) (Gs 1 rfl (G.ldQ rfl Tryz.isAgg3 (fun w1 hw1 => ((hw1.cells hc_x (fun h => h)) 3 _ rfl)) (Gs 2 rfl (G.opQ rfl rfl (fun w1 hw1 => R.indexS Tryz.runUnderlying22 Tryz.sizeOf96 rfl rfl ha_x (by omega)) (Gs 1 rfl (G.ldQ rfl Tryz.isAgg3 (fun w1 hw1 => ((hw1.cells hc_x (fun h => h)) 2 _ rfl)) (Ga 4 rfl (by omega) (G.nilQ (fun wz8 hz8 => ?_))))))))))))
  obtain ⟨hE, hvs, hl, hL1, hL2, hc_x⟩ := Tr6 hz8 hE hvs hl hL1 hL2 hc_x
  refine Gs 7 rfl (G.ite rfl (fun p4 => ?_) (fun p4 => ?_))
  · refine Gs 12 rfl (G.ret2 Tryz.results17 rfl rfl ⟨_, rfl, ⟨_, _, rfl⟩, hE⟩)
  refine Ga 8 rfl (by omega) (G.back ((j + 1, n * (x.high - x.low + 1))) (Sub.of rfl) (⟨by omega, hm1, by omega, hL2⟩) (by first | omega | (dsimp only; omega)))
 refine Gs 13 rfl (G.ret2 Tryz.results17 rfl rfl ⟨_, rfl, ⟨_, _, rfl⟩, hE⟩)
theorem fit_ok (f : Fl) (a b c : Int) (v1 v2 v3 : Value) (D : Nat → Prop) (w : World) (hf : RFl D w f v1 v2 v3) :
  Calls Tryz.prog 5 #[.agg #[v1, v2, v3], .int .i64 a, .int .i64 b, .int .i64 c] w (Ret fun r w' => (∃ q : Bool, r = .bool q ∧ (q = true → ((f.vars.length : Int) ≤ 10 ∧ (f.hatches.length : Int) ≤ 10 ∧ ((sbulk f.body + hnodes f.hatches : Nat) : Int) ≤ 80) ∧ checkN f = 0)) ∧ Ext w w') := by
 obtain ⟨a1, n1, rfl⟩ := hf.vars.form
 obtain ⟨a2, n2, rfl⟩ := hf.hatches.form
 obtain ⟨a3, n3, rfl⟩ := hf.body.form
 have hE := Keep.refl (fun _ => False) w
 refine G.in4 Tryz.func5 rfl Tryz.ntmps5 rfl (Gs 2 rfl (G.mem rfl rfl (M.box rfl rfl) ?_))
 rintro _ w_bx ⟨bx, rfl, hg_bx, hs_bx, hB_bx, hk_bx⟩
 have hge_bx : _ ≤ bx := Nat.le_trans hE.size (Nat.le_of_eq hg_bx.symm)
 obtain ⟨hE, hf⟩ := Tr2 hk_bx hE hf
 refine Gs 6 rfl (G.ldK rfl Tryz.isAgg26 Tryz.sizeOf26 hB_bx.cells rfl (G.call rfl Tryz.call15 (few17_ok f 10 80 _ _ _ D _ hf (by decide) (by decide)) ?_))
 rintro _ wz1 ⟨rfl, hz1⟩
 obtain ⟨hE, hf, hB_bx⟩ := Tr3 hz1 hE hf hB_bx
 refine G.ops1 rfl rfl (R.notU rfl (by first | exact not_decide_eq | rfl)) (Gs 1 rfl ?_)
 by_cases hfew : (f.vars.length : Int) ≤ 10 ∧ (f.hatches.length : Int) ≤ 10 ∧ ((sbulk f.body + hnodes f.hatches : Nat) : Int) ≤ 80
 ·
  have h1 := sbulk_snodes f.body
  have hsz : snodes f.body + hnodes f.hatches ≤ 1024 := by omega
  have hbk : sbulk f.body ≤ 1000000 := by omega
  refine G.sp 21 rfl (fun q1 => ?_) (fun q1 => ?_)
  · exact absurd hfew q1
  refine G.ldK rfl Tryz.isAgg26 Tryz.sizeOf26 hB_bx.cells rfl (G.call rfl Tryz.call16 (refCheck_ok f _ _ _ D _ hf hsz hbk) ?_)
  rintro _ wz2 ⟨rfl, hz2⟩
  obtain ⟨hE, hf, hB_bx⟩ := Tr3 hz2 hE hf hB_bx
  refine Gs 4 rfl (G.ite rfl (fun c0 => ?_) (fun c0 => ?_))
  · refine Gs 7 rfl (G.ret1 Tryz.results5 rfl ⟨_, rfl, ⟨_, rfl, fun h => by cases h⟩, hE⟩)
  have c0' : checkN f = 0 := by omega
  have hst := (check_parts c0').2.2.2.1
  refine Gs 5 rfl (G.ld rfl Tryz.isAgg22 (hB_bx.cells 0 _ rfl) (G.call rfl Tryz.call17 (refSpace13_ok f.vars 1 _ D _ hf.vars (by omega)) ?_))
  rintro _ wz3 ⟨⟨sa, sb, rfl⟩, hz3⟩
  obtain ⟨hE, hf, hB_bx⟩ := Tr3 hz3 hE hf hB_bx
  refine Gs 10 rfl (G.ld rfl Tryz.isAgg22 (hB_bx.cells 0 _ rfl) (G.call rfl Tryz.call17 (refSpace13_ok f.vars 2 _ D _ hf.vars (by omega)) ?_))
  rintro _ wz4 ⟨⟨ta, tb, rfl⟩, hz4⟩
  obtain ⟨hE, hf, hB_bx⟩ := Tr3 hz4 hE hf hB_bx
  refine Gs 10 rfl (G.ld rfl Tryz.isAgg22 (hB_bx.cells 0 _ rfl) (G.call rfl Tryz.call17 (refSpace13_ok f.vars 3 _ D _ hf.vars (by omega)) ?_))
  rintro _ wz5 ⟨⟨ua, ub, rfl⟩, hz5⟩
  obtain ⟨hE, hf, hB_bx⟩ := Tr3 hz5 hE hf hB_bx
  refine Gs 10 rfl (G.ld rfl Tryz.isAgg24 (hB_bx.cells 2 _ rfl) (G.call rfl Tryz.call18 (refBounds_ok f.vars f.hatches.length f.body _ D _ true hst hf.body hbk) ?_))
  rintro _ wz6 ⟨rfl, hz6⟩
  obtain ⟨hE, hf, hB_bx⟩ := Tr3 hz6 hE hf hB_bx
  refine Gs 15 rfl (G.sp 54 rfl (fun g1 => ?_) (fun g1 => ?_))
  ·
   refine Gs 5 rfl (G.sp 59 rfl (fun g2 => ?_) (fun g2 => ?_))
   ·
    refine Gs 5 rfl (G.sp 64 rfl (fun g3 => ?_) (fun g3 => ?_))
    · refine Gs 7 rfl (G.ret1 Tryz.results5 rfl ⟨_, rfl, ⟨_, rfl, fun _ => ⟨hfew, c0'⟩⟩, hE⟩)
    refine Gs 7 rfl (G.ret1 Tryz.results5 rfl ⟨_, rfl, ⟨_, rfl, fun _ => ⟨hfew, c0'⟩⟩, hE⟩)
   refine Gs 12 rfl (G.ret1 Tryz.results5 rfl ⟨_, rfl, ⟨_, rfl, fun _ => ⟨hfew, c0'⟩⟩, hE⟩)
  refine Gs 17 rfl (G.ret1 Tryz.results5 rfl ⟨_, rfl, ⟨_, rfl, fun _ => ⟨hfew, c0'⟩⟩, hE⟩)
 refine G.sp 21 rfl (fun q1 => ?_) (fun q1 => ?_)
 · refine Gs 14 rfl (G.ret1 Tryz.results5 rfl ⟨_, rfl, ⟨_, rfl, fun h => by cases h⟩, hE⟩)
 exact absurd (Decidable.not_not.1 q1) hfew
theorem valid_of {f : Fl} (h : ((f.vars.length : Int) ≤ 10 ∧ (f.hatches.length : Int) ≤ 10 ∧ ((sbulk f.body + hnodes f.hatches : Nat) : Int) ≤ 80) ∧ checkN f = 0) : Valid f := by
 obtain ⟨⟨_, _, h1⟩, h2⟩ := h
 have h3 := sbulk_snodes f.body
 exact ⟨h2, by omega, by omega⟩
def edk (x : Nd) (k : Nat) : Int := if k = 0 then x.next else x.other
theorem ed_cell {w : World} {b : Nat} {x : Nd} {e : TypeId} {k : Nat} (h : Blk w b [.int .i64 x.next, .int .i64 x.other] e) (hk : k < 2) : w.cell? ⟨b, 0 + (k : Int).toNat * 1, none⟩ = some (.int .i64 (edk x k)) := by
 have h0 := Blk.cells h 0 _ rfl
 have h1 := Blk.cells h 1 _ rfl
 rcases (show k = 0 ∨ k = 1 by omega) with rfl | rfl
 · exact h0
 exact h1
def edOf (i : Int) (to : Int) : List (Int × Int) := if 0 ≤ to then [(i, to)] else []
def rawTo (g : List Nd) (k : Nat) : List (Int × Int) := (List.range k).flatMap fun i : Nat => edOf i (ndAt g i).next ++ edOf i (ndAt g i).other
theorem rawTo_succ {g : List Nd} {k : Nat} {x : Nd} (h : g[k]? = some x) : rawTo g (k + 1) = rawTo g k ++ (edOf k x.next ++ edOf k x.other) := by
 unfold rawTo
 rw [List.range_succ, List.flatMap_append, List.flatMap_singleton, ndAt_eq h]
theorem edOf_len (i to : Int) : (edOf i to).length ≤ 1 := by unfold edOf; split <;> simp
theorem rawTo_len (g : List Nd) : ∀ k, (rawTo g k).length ≤ 2 * k
 | 0 => by simp [rawTo]
 | k + 1 => by
  have := rawTo_len g k
  have h1 := edOf_len k (ndAt g k).next
  have h2 := edOf_len k (ndAt g k).other
  unfold rawTo at this ⊢
  rw [List.range_succ, List.flatMap_append, List.flatMap_singleton, List.length_append, List.length_append]
  omega
def inL (g : List Nd) (i : Nat) (x : Nd) (q : Nat) : List (Int × Int) := rawTo g i ++ (List.range q).flatMap fun j => edOf i (edk x j)
theorem inL_len (g : List Nd) (i : Nat) (x : Nd) (q : Nat) : (inL g i x q).length ≤ 2 * i + q := by
 have := rawTo_len g i
 have key : ∀ q, ((List.range q).flatMap fun j => edOf i (edk x j)).length ≤ q := by
  intro q
  induction q with
  | zero => simp
  | succ q ih =>
   have h1 := edOf_len i (edk x q)
   rw [List.range_succ, List.flatMap_append, List.flatMap_singleton, List.length_append]
   omega
 have := key q
 unfold inL
 rw [List.length_append]; omega
theorem inL_zero (g : List Nd) (i : Nat) (x : Nd) : inL g i x 0 = rawTo g i := by simp [inL]
theorem inL_succ (g : List Nd) (i : Nat) (x : Nd) (q : Nat) : inL g i x (q + 1) = inL g i x q ++ edOf i (edk x q) := by
 unfold inL
 rw [List.range_succ, List.flatMap_append, List.flatMap_singleton, List.append_assoc]
theorem inL_end {g : List Nd} {i : Nat} {x : Nd} (h : g[i]? = some x) : inL g i x 2 = rawTo g (i + 1) := by
 rw [rawTo_succ h]
 unfold inL
 simp [List.range_succ, edk]
theorem cfgGraph_ok (g : List Nd) (gv : Value) (D : Nat → Prop) (W : World) (hg : SlR 4 RNd D W gv g) :
  Calls Tryz.prog 7 #[.agg #[gv]] W (Ret fun r w' => (∃ m a s c e, r = .tuple #[.agg #[.int .i64 m, .slice a (List.length s) c], .int .i64 e] ∧ (¬ Formed g → e = 1 ∧ m = 0 ∧ s = []) ∧ (Formed g → e = Gr.check g.length (rawTo g g.length) ∧ (e ≠ 0 → m = 0 ∧ s = []) ∧ (e = 0 → m = g.length ∧ Simple (rawTo g g.length) s)) ∧ SlR 2 RPair (fun b => W.heap.size ≤ b) w' (.slice a s.length c) s) ∧ Ext W w') := by
 obtain ⟨ag, cg, rfl⟩ := hg.form
 have hmx := hg.max
 refine G.in1 Tryz.func7 rfl Tryz.ntmps7 rfl (V.inn (Vs 2 rfl (V.box 1 rfl rfl (fun b1 => ?_))))
 refine V.alloc 2 Tryz.zeroValue37 rfl rfl (fun b2 => (Vs 7 rfl (V.call2 Tryz.call21 rfl (fun w hI => cfgFormed_ok g _ D w (Tr1 hI.k0 hg)) ?_)))
 rintro rr w1 w2 hI1 hk12 ⟨b, rfl, hb⟩ hlow
 refine V.ops1 rfl (fun w hI => R.notU rfl (by first | exact not_decide_eq | rfl)) (Vs 2 rfl (V.bool rfl (fun q => ?_) (fun q => ?_)))
 ·
  have hnf : ¬ Formed g := fun h => by rw [hb.2 h] at q; cases q
  refine Vs 2 rfl (V.bld [Value.int IntKind.i64 0, Value.slice none 0 0] [(0, 1), (1, 1)] [] rfl rfl (fun _ => by kernel_rfl) (Vs 6 rfl (V.retCT Tryz.results7 Tryz.isAgg37 Tryz.sizeOf37 rfl rfl rfl rfl (fun w hI => ⟨_, rfl, ⟨0, none, [], 0, 1, rfl, fun _ => ⟨rfl, rfl, rfl⟩, fun h => absurd h hnf, SlR.nil⟩, hI.k1⟩))))
 have hF : Formed g := hb.1 (by simpa using q)
 have hlo := hF.lo
 have hhi := hF.hi
 refine Vs 7 rfl (V.bld [Value.int IntKind.i64 0, Value.slice none 0 0] [(0, 1), (1, 1)] [(0, _)] rfl rfl (fun _ => by kernel_rfl) (V.alloc 4 Tryz.zeroValue37 rfl rfl (fun b4 => ?_)))
 refine Vs 5 rfl (V.nilrow 900 43 2 rfl (Vs 8 rfl (V.loopK (σ := Nat × Value) [2, 4, 18, 19] [2] [2, 4] rfl (fun e ⟨i, rv⟩ => (20, .int .i64 i) :: e) (fun e ⟨i, rv⟩ => (4, .own b4 [.int .i64 g.length, rv] 37) :: (900, .row 43 2 rv (rawTo g i).length ((rawTo g i).flatMap encP)) :: e) (fun ⟨i, rv⟩ => i ≤ g.length) (fun ⟨i, rv⟩ => g.length - i) ((0, _)) (Sub.of rfl) (Has.of rfl) (fun _ => rfl) (fun _ => rfl) (fun _ => rfl) (Nat.zero_le _) ?_)))
 rintro ⟨i, rv⟩ hi
 show V _ _ _ _ _ ((20, .int .i64 i) :: _) _ ((4, .own b4 [.int .i64 g.length, rv] 37) :: (900, .row 43 2 rv (rawTo g i).length ((rawTo g i).flatMap encP)) :: _) _
 refine Vs 6 rfl (V.ite rfl (fun hlt => ?_) (fun hlt => ?_))
 ·
  refine Vs 7 rfl (V.elG 1000 1 i (by omega) hg rfl rfl rfl (fun x b_x o_x c_x he_x hm_x ha_x hR_x => ?_))
  obtain rfl := hR_x
  refine V.ix 1000 Tryz.runUnderlying29 Tryz.sizeOf64 rfl ha_x (by omega) (_) (rfl) rfl ?_
  have hr := inL_end he_x
  refine V.heq 900 rfl (e' := .row 43 2 rv (inL g i x 0).length ((inL g i x 0).flatMap encP)) (by rw [inL_zero]) (Vs 1 rfl (V.alloc 6 Tryz.zeroValue64 rfl rfl (fun b6 => ?_)))
  refine Vs 10 rfl (V.bs 29 [(0, _), (1, _)] Tryz.runUnderlying49 Tryz.sizeOf3 Tryz.zeroValue3 (by decide) rfl rfl (by kernel_rfl) (fun b29 => ?_))
  refine Vs 5 rfl (V.loopK (σ := Nat × Value) [2, 4, 5, 18, 19, 20, 29, 30] [2, 29] [2, 4] rfl (fun e ⟨q, rv⟩ => (31, .int .i64 q) :: e) (fun e ⟨q, rv⟩ => (4, .own b4 [.int .i64 g.length, rv] 37) :: (900, .row 43 2 rv (inL g i x q).length ((inL g i x q).flatMap encP)) :: e) (fun ⟨q, rv⟩ => q ≤ 2) (fun ⟨q, rv⟩ => 2 - q) ((0, rv)) (Sub.of rfl) (Has.of rfl) (fun _ => rfl) (fun _ => rfl) (fun _ => rfl) (by omega) ?_)
  rintro ⟨q, rv⟩ hq
  show V _ _ _ _ _ ((31, .int .i64 q) :: _) _ ((4, .own b4 [.int .i64 g.length, rv] 37) :: (900, .row 43 2 rv (inL g i x q).length ((inL g i x q).flatMap encP)) :: _) _
  have hil := inL_len g i x q
  have hsu := inL_succ g i x q
  refine Vs 6 rfl (V.ite rfl (fun hq2 => ?_) (fun hq2 => ?_))
  ·
   refine Vs 6 rfl (V.ops1 rfl (fun w hI => R.indexS Tryz.runUnderlying49 Tryz.sizeOf3 rfl rfl rfl (by omega)) (V.ops1 rfl (fun w hI => R.load Tryz.isAgg3 rfl (ed_cell (hI.at 29 rfl) (by omega))) (Vs 9 rfl (V.ite rfl (fun hz => ?_) (fun hz => ?_)))))
   ·
    rw [show edOf i (edk x q) = [((i : Int), edk x q)] from if_pos hz] at hsu
    refine Vs 5 rfl (V.bld [Value.int IntKind.i64 0, Value.int IntKind.i64 0] [(0, 1), (1, 1)] [(0, _), (1, _)] rfl rfl (fun _ => by kernel_rfl) (V.bs 42 [(0, _)] Tryz.runUnderlying35 Tryz.sizeOf43 Tryz.zeroValue43 (by decide) rfl rfl (by kernel_rfl) (fun b42 => ?_)))
    refine V.ap 900 42 Tryz.underlying35 Tryz.el43 rfl (by decide) rfl rfl (by omega) (by omega) (fun u900 => (Vs 1 rfl (V.opened 900 rfl (by omega) ?_)))
    rintro b9 c9 rfl hcap_900
    refine Va 8 rfl (by omega) (V.heq 900 rfl (e' := .row 43 2 (.slice (some ⟨b9, 0, none⟩) ((inL g i x q).length + 1) c9) (inL g i x (q + 1)).length ((inL g i x (q + 1)).flatMap encP)) (by rw [hsu, List.length_append, List.flatMap_append]; rfl) (V.back (⟨q + 1, _⟩) (Sub.of rfl) (Has.of rfl) (by omega) (by first | omega | (dsimp only; omega)) 0 rfl rfl))
   rw [show edOf i (edk x q) = [] from if_neg hz, List.append_nil] at hsu
   refine V.heq 900 rfl (e' := .row 43 2 rv (inL g i x (q + 1)).length ((inL g i x (q + 1)).flatMap encP)) (by rw [hsu]) (Va 7 rfl (by omega) (V.back (⟨q + 1, rv⟩) (Sub.of rfl) (Has.of rfl) (by omega) (by first | omega | (dsimp only; omega)) 0 rfl rfl))
  obtain rfl : q = 2 := by omega
  refine V.heq 900 rfl (e' := .row 43 2 rv (rawTo g (i + 1)).length ((rawTo g (i + 1)).flatMap encP)) (by rw [hr]) (Va 10 rfl (by omega) (V.back (⟨i + 1, rv⟩) (Sub.of rfl) (Has.of rfl) (by omega) (by first | omega | (dsimp only; omega)) 0 rfl rfl))
 obtain rfl : i = g.length := by omega
 refine Vs 8 rfl (V.call2 Tryz.call22 rfl (fun w hI => digSimple_ok g.length (rawTo g g.length) rv (fun _ => True) w (SlR.ofRowK (by omega) encP encP_len (fun x _ => rfl) (hI.at 900 rfl) (fun _ _ => trivial))) ?_)
 rintro rr w3 w4 hI3 hk34 ⟨m, a, s, c, rfl, h1, h2, hs⟩ hlow2
 have hsz : W.heap.size ≤ w3.heap.size := hI3.k1.size
 refine Vs 7 rfl (V.dat 901 0 rfl rfl rfl (hs) (fun b hb _ hs => by have := hlow2 b hs; omega) (V.retCT Tryz.results7 Tryz.isAgg37 Tryz.sizeOf37 rfl rfl rfl rfl (fun w hI => ⟨_, rfl, ⟨m, a, s, c, _, rfl, fun h => absurd hF h, fun _ => ⟨rfl, fun he => ⟨(h1 he).1, (h1 he).2.2.2⟩, h2⟩, (hI.at 901 rfl).1.wide stable_pair (fun b hb => by omega)⟩, hI.k2⟩)))
theorem simple_uniq : ∀ {s t : List (Int × Int)}, s.Pairwise lexLt → t.Pairwise lexLt → (∀ e, e ∈ s ↔ e ∈ t) → s = t := by
 intro s
 induction s with
 | nil =>
  intro t _ _ h
  cases t with
  | nil => rfl
  | cons c r => exact absurd ((h c).2 (List.mem_cons_self ..)) (by simp)
 | cons c r ih =>
  intro t hs ht h
  cases t with
  | nil => exact absurd ((h c).1 (List.mem_cons_self ..)) (by simp)
  | cons c' r' =>
   rw [List.pairwise_cons] at hs ht
   have e1 := (h c).1 (List.mem_cons_self ..)
   have e2 := (h c').2 (List.mem_cons_self ..)
   have e : c = c' := by
    rcases List.mem_cons.1 e1 with e1 | e1
    · exact e1
    rcases List.mem_cons.1 e2 with e2 | e2
    · exact e2.symm
    have h1 := hs.1 c' e2; have h2 := ht.1 c e1; unfold lexLt at h1 h2; omega
   subst e
   have hirr : ¬ lexLt c c := by unfold lexLt; omega
   congr 1
   refine ih hs.2 ht.2 fun e => ⟨fun he => ?_, fun he => ?_⟩
   ·
    rcases List.mem_cons.1 ((h e).1 (List.mem_cons_of_mem _ he)) with e1 | e1
    · exact absurd (e1 ▸ hs.1 e he) hirr
    exact e1
   rcases List.mem_cons.1 ((h e).2 (List.mem_cons_of_mem _ he)) with e1 | e1
   · exact absurd (e1 ▸ ht.1 e he) hirr
   exact e1
theorem rawTo_ok {g : List Nd} (hg : ∀ (i : Nat) x, g[i]? = some x → ∀ to, to = x.next ∨ to = x.other → 0 ≤ to → to < g.length) {e : Int × Int} (h : e ∈ rawTo g g.length) : (0 ≤ e.1 ∧ e.1 < g.length) ∧ 0 ≤ e.2 ∧ e.2 < g.length := by
 unfold rawTo at h
 obtain ⟨j, hj, he⟩ := List.mem_flatMap.1 h
 rw [List.mem_range] at hj
 have hx : g[j]? = some g[j] := List.getElem?_eq_getElem hj
 have h1 := hg j _ hx
 rw [ndAt_eq hx] at he
 unfold edOf at he
 rcases List.mem_append.1 he with he | he <;> (split at he <;> simp at he; subst he; rename_i h0; dsimp only)
 · have := h1 _ (.inl rfl) h0; omega
 have := h1 _ (.inr rfl) h0; omega
theorem raw_check {g : List Nd} (hl : g.length ≤ 2050) (hg : ∀ (i : Nat) x, g[i]? = some x → ∀ to, to = x.next ∨ to = x.other → 0 ≤ to → to < g.length) : Gr.check g.length (rawTo g g.length) = 0 := by
 have := rawTo_len g g.length
 unfold Gr.check
 rw [if_neg (by omega), if_neg (by omega), if_pos]
 rw [List.all_eq_true]
 intro e he
 have := rawTo_ok hg he
 unfold Gr.okE
 simp
 omega
theorem lay_nds (l : List St) : ∀ (a n e N : Nat), 1 ≤ n → 1 ≤ e → n + widL l ≤ N → e < N → ∀ x ∈ layL l a n e, (2 ≤ x.kind ∧ x.kind ≤ 5) ∧ (1 ≤ x.next ∧ x.next < N) ∧ (x.kind = 3 ∨ x.kind = 5 → 1 ≤ x.other ∧ x.other < N) ∧ (¬ (x.kind = 3 ∨ x.kind = 5) → x.other = -1) ∧ 0 ≤ x.at_ := by
 induction l using Sts.ind with
 | h l ih =>
 have key : ∀ r : List St, (∀ x ∈ r, x ∈ l) → ∀ (a n e N : Nat), 1 ≤ n → 1 ≤ e → n + widL r ≤ N → e < N → ∀ x ∈ layL r a n e, (2 ≤ x.kind ∧ x.kind ≤ 5) ∧ (1 ≤ x.next ∧ x.next < N) ∧ (x.kind = 3 ∨ x.kind = 5 → 1 ≤ x.other ∧ x.other < N) ∧ (¬ (x.kind = 3 ∨ x.kind = 5) → x.other = -1) ∧ 0 ≤ x.at_ := by
  intro r
  induction r with
  | nil => intro _ a n e N _ _ _ _ x hx; simp [layL] at hx
  | cons s r ihr =>
   intro hm a n e N h1n h1e hN he x hx
   have h1 := (ih s (hm s (List.mem_cons_self ..))).1
   have h2 := (ih s (hm s (List.mem_cons_self ..))).2
   have hw := s.wid_eq
   simp only [widL] at hN
   rw [layL, List.mem_append] at hx
   rcases hx with hx | hx
   ·
    have he' : 1 ≤ (if r.isEmpty then e else n + s.wid) ∧ (if r.isEmpty then e else n + s.wid) < N := by
     cases hr : r.isEmpty
     · have := lay_pos hr; simp; omega
     simp; omega
    generalize (if r.isEmpty then e else n + s.wid) = e' at hx he'
    rw [s.lay_eq] at hx
    split at hx
    ·
     rename_i a3
     rw [if_neg (show ¬ s.act = 4 by omega)] at hw
     rw [List.mem_cons, List.mem_append] at hx
     rcases hx with rfl | hx | hx
     ·
      dsimp only
      have c1 : ∀ z : Bool, (z = false → 1 ≤ widL s.thn) → 1 ≤ (if z then (e' : Int) else (n + 1 : Nat)) ∧ (if z then (e' : Int) else (n + 1 : Nat)) < N := by
       intro z hz; cases z
       · have := hz rfl; simp; omega
       simp; omega
      have c2 : ∀ z : Bool, (z = false → 1 ≤ widL s.els) → 1 ≤ (if z then (e' : Int) else (n + 1 + widL s.thn : Nat)) ∧ (if z then (e' : Int) else (n + 1 + widL s.thn : Nat)) < N := by
       intro z hz; cases z
       · have := hz rfl; simp; omega
       simp; omega
      exact ⟨by omega, c1 _ lay_pos, fun _ => c2 _ lay_pos, fun h => absurd (.inl rfl) h, by omega⟩
     · exact h1 _ _ _ N (by omega) (by omega) (by omega) he'.2 x hx
     exact h2 _ _ _ N (by omega) (by omega) (by omega) he'.2 x hx
    split at hx
    ·
     rename_i a4
     rw [if_pos a4] at hw
     rw [List.mem_cons, List.mem_cons] at hx
     rcases hx with rfl | rfl | hx
     ·
      dsimp only
      exact ⟨by omega, by omega, fun h => by omega, fun _ => rfl, by omega⟩
     ·
      dsimp only
      refine ⟨by omega, ?_, fun _ => by omega, fun h => absurd (.inr rfl) h, by omega⟩
      cases hr : s.thn.isEmpty
      · have := lay_pos hr; simp; omega
      simp; omega
     exact h1 _ _ _ N (by omega) (by omega) (by omega) (by omega) x hx
    rw [List.mem_singleton] at hx
    subst hx
    dsimp only
    exact ⟨by omega, by omega, fun h => by omega, fun _ => rfl, by omega⟩
   exact ihr (fun y hy => hm y (List.mem_cons_of_mem _ hy)) _ _ _ N (by omega) h1e (by omega) he x hx
 exact key l (fun x h => h)
theorem formed_cfg {f : Fl} (V : Valid f) : Formed (cfgN f) := by
 have hlen := cfgN_len f V.plain
 have hll := layL_len f.body V.plain 0 1 (1 + widL f.body)
 have hss := V.ssize
 have hwl := widL_le f.body
 refine ⟨by omega, by omega, fun j x hx => ?_⟩
 have hj := (List.getElem?_eq_some_iff.1 hx).1
 unfold cfgN at hx
 rw [List.getElem?_cons] at hx
 split at hx
 ·
  rename_i j0
  cases hx
  exact ⟨fun _ => rfl, fun h => by omega, fun h => by omega, fun h => by omega, fun _ => by dsimp only; omega, fun h => by (rcases h with h | h <;> cases h), fun _ => rfl, fun _ => rfl, fun h => by omega⟩
 rename_i j0
 by_cases hl : j - 1 < widL f.body
 ·
  rw [List.getElem?_append_left (by omega)] at hx
  obtain ⟨h1, h2, h3, h4, h5⟩ := lay_nds f.body 0 1 (1 + widL f.body) (cfgN f).length (by omega) (by omega) (by omega) (by omega) x (List.mem_of_getElem? hx)
  exact ⟨fun h => by omega, fun h => by omega, fun _ => h1, fun h => by omega, fun _ => by omega, fun h => by have := h3 h; omega, h4, fun h => by omega, fun _ => h5⟩
 rw [List.getElem?_append_right (by omega), hll, show j - 1 - widL f.body = 0 by omega] at hx
 cases hx
 exact ⟨fun h => by omega, fun _ => rfl, fun h => by omega, fun _ => rfl, fun h => by omega, fun h => by (rcases h with h | h <;> cases h), fun _ => rfl, fun _ => rfl, fun h => by omega⟩
theorem rawTo_of {g : List Nd} {a b : Nat} {x : Nd} (hx : g[a]? = some x) (h : (b : Int) = x.next ∨ (b : Int) = x.other) : ((a : Int), (b : Int)) ∈ rawTo g g.length := by
 unfold rawTo
 refine List.mem_flatMap.2 ⟨a, List.mem_range.2 (List.getElem?_eq_some_iff.1 hx).1, ?_⟩
 rw [ndAt_eq hx, List.mem_append]
 unfold edOf
 rcases h with h | h
 · exact .inl (by rw [← h, if_pos (by omega)]; simp)
 exact .inr (by rw [← h, if_pos (by omega)]; simp)
theorem rawTo_inv {g : List Nd} {e : Int × Int} (h : e ∈ rawTo g g.length) : ∃ (a b : Nat) (x : Nd), e = ((a : Int), (b : Int)) ∧ g[a]? = some x ∧ ((b : Int) = x.next ∨ (b : Int) = x.other) := by
 unfold rawTo at h
 obtain ⟨j, hj, he⟩ := List.mem_flatMap.1 h
 rw [List.mem_range] at hj
 have hx : g[j]? = some g[j] := List.getElem?_eq_getElem hj
 rw [ndAt_eq hx] at he
 unfold edOf at he
 rcases List.mem_append.1 he with he | he <;> (split at he <;> simp at he; rename_i h0)
 · exact ⟨j, (g[j]).next.toNat, _, by rw [he, Int.toNat_of_nonneg h0], hx, .inl (Int.toNat_of_nonneg h0)⟩
 exact ⟨j, (g[j]).other.toNat, _, by rw [he, Int.toNat_of_nonneg h0], hx, .inr (Int.toNat_of_nonneg h0)⟩
theorem flat_cell {α : Type} {c : Nat} {enc : α → List Value} (hc : ∀ x, (enc x).length = c) {v : Value} {j : Nat} {x y : α} (hj : j < c) (hy : enc y = (enc x).set j v) : ∀ (L : List α) (k : Nat) (sp : List Value), L[k]? = some x → (L.flatMap enc ++ sp).set (k * c + j) v = (L.set k y).flatMap enc ++ sp
 | [], k, sp, h => by simp at h
 | z :: r, 0, sp, h => by
  simp at h
  subst h
  simp only [Nat.zero_mul, Nat.zero_add, List.flatMap_cons, List.set_cons_zero, List.append_assoc]
  rw [List.set_append_left _ _ (by rw [hc]; exact hj), ← hy]
 | z :: r, k + 1, sp, h => by
  simp only [List.getElem?_cons_succ] at h
  simp only [List.flatMap_cons, List.set_cons_succ, List.append_assoc]
  rw [List.set_append_right _ _ (by rw [hc, Nat.succ_mul]; omega), hc]
  rw [show (k + 1) * c + j - c = k * c + j from by rw [Nat.succ_mul]; omega, flat_cell hc hj hy r k sp h]
theorem zeros1 (m : Nat) : Builtin.zeroCells (Value.int .i64 0).cells m = (List.replicate (m * 1) (.int .i64 0)).toArray := by
 apply Array.ext
 · simp [Builtin.zeroCells, Value.cells]
 intro i h1 h2
 have : i % 1 = 0 := by omega
 simp [Builtin.zeroCells, Value.cells, this]
theorem compactI_ok (es : List Int) (v : Value) (n : Nat) (w : World) (hown : w.ownsRow 0 3 1 v n (es.flatMap encI)) (hlen : es.length ≤ 1048576) : Calls Tryz.prog 65 #[v] w (Ret fun u w' => w'.ownsRow 0 3 1 u (Gr.compactL es).length ((Gr.compactL es).flatMap encI) ∧ u.ownBlock = v.ownBlock ∧ Keep (fun q => v.ownBlock = some q) w w') := by
 have hn : n = es.length := by
  have := hown.1
  rw [flatI_len] at this
  omega
 subst hn
 by_cases h0 : es = []
 ·
  subst h0
  obtain ⟨l, c, hv⟩ : ∃ ao c, v = .slice ao 0 c := by
   rcases hown.2 with ⟨rfl, _⟩ | ⟨g, cap, cur, rfl, _⟩ <;> exact ⟨_, _, rfl⟩
  subst hv
  refine G.in1 Tryz.func65 rfl Tryz.ntmps65 rfl (Gs 13 rfl (G.tt rfl (rfl) (Gs 8 rfl (G.ret1 Tryz.results65 rfl ⟨_, rfl, hown, rfl, Keep.refl _ _⟩))))
 obtain ⟨g, cap, sp, rfl, _, hnc, hcm, hB, hcl⟩ := own_open encI_len (by omega) hown h0
 refine G.in1 Tryz.func65 rfl Tryz.ntmps65 rfl (Gs 13 rfl (G.ite0 rfl (fun h2 => ?_) (fun h2 => ?_)))
 ·
  refine Gs 8 rfl ?_
  have e1 : Gr.compactL es = es := by
   match es, h0, h2 with
   | [x], _, _ => rfl
   | x :: y :: r, _, h => simp at h; omega
  refine G.ret1 Tryz.results65 rfl ⟨_, rfl, by rw [e1]; exact hown, rfl, Keep.refl _ _⟩
 refine Gs 9 rfl ?_
 have e1 : Gr.compactL (es.take 1) = es.take 1 := by
  match es, h0 with
  | x :: r, _ => rfl
 refine G.loop (σ := Nat) (fun k => [(0, .slice (some ⟨g, 0, none⟩) es.length cap), (3, .int .i64 k)]) (fun k => fun w' => 1 ≤ k ∧ k ≤ es.length ∧ Gr.compactL (es.take k) = es.take k ∧ Ext w w') (fun k => es.length - k) (1) (Sub.of rfl) (⟨by omega, by omega, e1, Keep.refl _ _⟩) ?_
 rintro k w2 ⟨hk1, hkn, hck, hk2⟩
 have hB2 := hk2.blk hB (fun h => h)
 refine Gs 9 rfl (G.ite0 rfl (fun hlt => ?_) (fun hge => ?_))
 ·
  refine Gs 5 rfl (Qt (by kernel_rfl) (Gs 2 rfl ?_))
  obtain ⟨x, hx⟩ : ∃ e, es[k]? = some e := ⟨_, List.getElem?_eq_getElem (by omega)⟩
  obtain ⟨y, hy⟩ : ∃ e, es[k - 1]? = some e := ⟨_, List.getElem?_eq_getElem (by omega)⟩
  refine Ga 1 rfl (by omega) (G.ldQ rfl Tryz.isAgg3 (fun w1 hw1 => (hw1.cell (flat_cells encI_len hB2 hx 0 _ rfl) (fun h => h))) (Ga 4 rfl (by omega) (G.ldQ rfl Tryz.isAgg3 (fun w1 hw1 => ((show Cells w2 g (0 + ((k : Int) - 1).toNat * 1) (encI y) from by rw [show ((k : Int) - 1).toNat = k - 1 from by omega]; exact flat_cells encI_len hB2 hy) 0 _ rfl |> fun h => hw1.cell h (fun h => h))) (Gs 1 rfl (G.nilQ (fun w3 hw3 => ?_))))))
  have hB3 := hw3.blk hB2 (fun h => h)
  have hlast : (Gr.compactL (es.take k)).getLast? = some y := by
   have := Gr.compactL_last hy
   rwa [show k - 1 + 1 = k from by omega] at this
  refine Gs 1 rfl (G.ite0 rfl (fun heq => ?_) (fun hne => ?_))
  ·
   refine Gs 4 rfl ?_
   have hxy : x = y := heq
   refine G.ops1 rfl rfl (R.cutLo Tryz.runUnderlying49 Tryz.sizeOf3 rfl rfl rfl (by omega) (by omega)) (Gs 10 rfl ?_)
   have hs0 : Gr.compactL (es.take (k + 1)) = es.take k := by
    rw [Gr.compactL_take hx]
    unfold Gr.cstep
    rw [if_pos (by rw [hlast, hxy]), hck]
   refine G.loop (σ := Nat × Nat × List Int) (fun ⟨q, k2, L⟩ => [(0, .slice (some ⟨g, 0, none⟩) es.length cap), (3, .int .i64 q), (4, .slice (some ⟨g, 0 + k * 1, none⟩) (es.length - k) (cap - k)), (5, .int .i64 k2)]) (fun ⟨q, k2, L⟩ => fun w' => Blk w' g (L.flatMap encI ++ sp) 3 ∧ L.length = es.length ∧ k ≤ q ∧ q + 1 ≤ k + k2 ∧ 1 ≤ k2 ∧ k2 ≤ es.length - k ∧ L.take q = Gr.compactL (es.take (k + k2)) ∧ L.drop (k + k2 - 1) = es.drop (k + k2 - 1) ∧ Keep (fun b => b = g) w w') (fun ⟨q, k2, L⟩ => es.length - k - k2) ((k, 1, es)) (Sub.of rfl) (⟨hB3, rfl, Nat.le_refl _, by omega, by omega, by omega, hs0.symm, rfl, (hk2.ext hw3).mono (fun _ _ h => h.elim)⟩) ?_
   rintro ⟨q, k2, L⟩ w4 ⟨hB4, hL, hq1, hq2, hk21, hk22, htk, hdr, hK4⟩
   show G _ _ _ _ _ [(0, .slice (some ⟨g, 0, none⟩) es.length cap), (3, .int .i64 q), (4, .slice (some ⟨g, 0 + k * 1, none⟩) (es.length - k) (cap - k)), (5, .int .i64 k2)] _
   have hclL : (L.flatMap encI ++ sp).length = cap * 1 := by rw [← hcl, List.length_append, List.length_append, flatI_len, flatI_len, hL]
   refine Gs 9 rfl (G.ite0 rfl (fun hlt2 => ?_) (fun hge2 => ?_))
   ·
    refine Gs 5 rfl (Qt (by kernel_rfl) (Gs 2 rfl ?_))
    obtain ⟨x2, hx2⟩ : ∃ e, es[k + k2]? = some e := ⟨_, List.getElem?_eq_getElem (by omega)⟩
    obtain ⟨y2, hy2⟩ : ∃ e, es[k + k2 - 1]? = some e := ⟨_, List.getElem?_eq_getElem (by omega)⟩
    have hLx : L[k + k2]? = some x2 := by
     have := congrArg (fun l => l[1]?) hdr
     simp only [List.getElem?_drop] at this
     rw [show k + k2 - 1 + 1 = k + k2 from by omega] at this
     rw [this]; exact hx2
    have hLy : L[k + k2 - 1]? = some y2 := by
     have := congrArg (fun l => l[0]?) hdr
     simp only [List.getElem?_drop, Nat.add_zero] at this
     rw [this]; exact hy2
    have hcx : Cells w4 g (0 + k * 1 + (k2 : Int).toNat * 1) (encI x2) := by
     have := flat_cells encI_len hB4 hLx
     rwa [show 0 + (k + k2) * 1 = 0 + k * 1 + (k2 : Int).toNat * 1 from by rw [Int.toNat_natCast]; omega] at this
    have hcy : Cells w4 g (0 + k * 1 + ((k2 : Int) - 1).toNat * 1) (encI y2) := by
     have := flat_cells encI_len hB4 hLy
     rwa [show 0 + (k + k2 - 1) * 1 = 0 + k * 1 + ((k2 : Int) - 1).toNat * 1 from by omega] at this
    refine Ga 1 rfl (by omega) (G.ldQ rfl Tryz.isAgg3 (fun w1 hw1 => (hw1.cell (hcx 0 _ rfl) (fun h => h))) (Ga 4 rfl (by omega) (G.ldQ rfl Tryz.isAgg3 (fun w1 hw1 => (hw1.cell (hcy 0 _ rfl) (fun h => h))) (Gs 1 rfl (G.nilQ (fun w5 hw5 => ?_))))))
    have hB5 := hw5.blk hB4 (fun h => h)
    have hlast2 : (Gr.compactL (es.take (k + k2))).getLast? = some y2 := by
     have := Gr.compactL_last hy2
     rwa [show k + k2 - 1 + 1 = k + k2 from by omega] at this
    refine Gs 1 rfl (G.ite0 rfl (fun hne2 => ?_) (fun heq2 => ?_))
    ·
     refine Ga 7 rfl (by omega) (G.ld rfl Tryz.isAgg3 (hw5.cell (hcx 0 _ rfl) (fun h => h)) (Ga 1 rfl (by omega) (G.mem0 rfl (M.store Tryz.sizeOf3 rfl rfl rfl rfl hB5 (by rw [Int.toNat_natCast, hclL]; omega)) ?_)))
     rintro w6 ⟨hs6, hB6, hk6⟩
     obtain ⟨z, hz⟩ : ∃ z, L[q]? = some z := ⟨_, List.getElem?_eq_getElem (by omega)⟩
     rw [Int.toNat_natCast, Nat.zero_add, ← Nat.add_zero (q * 1), flat_cell encI_len (y := x2) (by decide) rfl L q sp hz] at hB6
     refine Ga 14 rfl (by omega) (G.back ((q + 1, k2 + 1, L.set q x2)) (Sub.of rfl) (⟨hB6, by simp [hL], by omega, by omega, by omega, by omega, ?_, ?_, (hK4.ext hw5).trans hk6 (fun _ _ h => h)⟩) (by first | omega | (dsimp only; omega)))
     ·
      rw [show k + (k2 + 1) = k + k2 + 1 from by omega, Gr.compactL_take hx2, ← htk]
      unfold Gr.cstep
      rw [if_neg (by rw [htk, hlast2]; intro h; exact hne2 (by cases h; rfl))]
      rw [List.take_succ_eq_append_getElem (by simp; omega)]
      simp [List.take_set_of_le]
     rw [List.drop_set_of_lt (by omega)]
     have := congrArg (List.drop 1) hdr
     simp only [List.drop_drop] at this
     rw [show k + (k2 + 1) - 1 = k + k2 - 1 + 1 from by omega]
     exact this
    refine Ga 8 rfl (by omega) (G.back ((q, k2 + 1, L)) (Sub.of rfl) (⟨hB5, hL, by omega, by omega, by omega, by omega, ?_, ?_, hK4.ext hw5⟩) (by first | omega | (dsimp only; omega)))
    ·
     rw [show k + (k2 + 1) = k + k2 + 1 from by omega, Gr.compactL_take hx2, ← htk]
     unfold Gr.cstep
     have : x2 = y2 := by
      have := heq2
      simp only [ne_eq, Decidable.not_not] at this
      exact this
     rw [if_pos (by rw [htk, hlast2, this])]
    have := congrArg (List.drop 1) hdr
    simp only [List.drop_drop] at this
    rw [show k + (k2 + 1) - 1 = k + k2 - 1 + 1 from by omega]
    exact this
   refine Gs 9 rfl (G.ops1 rfl rfl (R.cutLo Tryz.runUnderlying49 Tryz.sizeOf3 rfl rfl rfl (by omega) (by omega)) (G.memN rfl (M.clear (k := 1) (zs := List.replicate ((es.length - q) * 1) (.int .i64 0)) Tryz.runUnderlying49 Tryz.zeroValue3 rfl (by omega) (zeros1 _) (by simp) (by intro u hu; rw [List.eq_of_mem_replicate hu]; rfl) hB4 (by rw [Int.toNat_natCast, hclL]; omega)) ?_))
   rintro _ w6 ⟨rfl, hs6, hB6, hk6⟩
   refine Gs 6 rfl (G.ops1 rfl rfl (R.cutHi Tryz.runUnderlying49 Tryz.sizeOf3 rfl rfl (by omega)) (Gs 9 rfl (G.ret1 Tryz.results65 rfl ⟨_, rfl, ?_, rfl, (hK4.trans hk6 (fun _ _ h => h)).mono (fun q _ h => by rw [h]; rfl)⟩)))
   have hk2e : k + k2 = es.length := by omega
   rw [hk2e, List.take_length] at htk
   have hlq : (Gr.compactL es).length = q := by rw [← htk, List.length_take]; omega
   have hql : q * 1 ≤ (L.flatMap encI ++ sp).length := by rw [hclL]; omega
   rw [hlq]
   rw [Int.toNat_natCast, Nat.zero_add] at hB6
   have h7 := own_blk (k := 1) (n := q) (cap := cap) hB6 (by omega) hcm (by simp only [List.length_append, List.length_take, List.length_drop, List.length_replicate] at *; omega)
   rw [List.append_assoc, List.take_append_of_le_length (by rw [List.length_take]; omega), List.take_take, Nat.min_self, List.take_append_of_le_length (by rw [flatI_len]; omega), flat_take encI_len, htk] at h7
   exact h7
  refine Ga 8 rfl (by omega) (G.back (k + 1) (Sub.of rfl) (⟨by omega, by omega, ?_, hk2.ext hw3⟩) (by first | omega | (dsimp only; omega)))
  rw [Gr.compactL_take hx]
  unfold Gr.cstep
  rw [if_neg (by rw [hlast]; intro h; exact hne (by cases h; rfl)), hck]
  rw [List.take_succ_eq_append_getElem (by omega)]
  rw [List.getElem?_eq_getElem (by omega)] at hx
  cases hx
  rfl
 refine Gs 12 rfl ?_
 have : k = es.length := by omega
 subst this
 rw [List.take_length] at hck
 refine G.ret1 Tryz.results65 rfl ⟨_, rfl, by rw [hck]; exact own_keep hown hk2 (fun _ _ h => h), rfl, hk2.mono (fun _ _ h => h.elim)⟩
open Go.GL Go.GL.Dom
theorem map_at {α β : Type} {f : α → β} {l : List α} {i : Nat} {x : α} (h : l[i]? = some x) : (l.map f)[i]? = some (f x) := by simp [h]
theorem meet_ok {pl T : List Int} {root n bw bp bt : Nat} {nv bv ov : Value} (w : World) (hc : Chain pl T root) (hW : Blk w bw [nv, bv, ov, .slice (some ⟨bp, 0, none⟩) n n, .slice (some ⟨bt, 0, none⟩) n n] 84) (hP : Blk w bp (pl.map (.int .i64)) 3) (hT : Blk w bt (T.map (.int .i64)) 3)
  (hpl : pl.length = n) (hTl : T.length = n) (a b : Nat) (ha : 0 ≤ lk T a) (hb : 0 ≤ lk T b) :
  Calls Tryz.prog 106 #[.pointer (some ⟨bw, 0, none⟩), .int .i64 a, .int .i64 b] w (Ret fun v w' => ∃ m : Nat, v = .int .i64 m ∧ Meet T root a b m ∧ 0 ≤ lk T m ∧ Ext w w') := by
 refine G.in3 Tryz.func106 rfl Tryz.ntmps106 rfl (Gs 7 rfl (G.loop (σ := Nat × Nat) (fun ⟨x, y⟩ => [(0, .pointer (some ⟨bw, 0, none⟩)), (1, .int .i64 x), (2, .int .i64 y)]) (fun ⟨x, y⟩ => fun w' => MeetInv T root a b x y ∧ 0 ≤ lk T x ∧ 0 ≤ lk T y ∧ Ext w w') (fun ⟨x, y⟩ => (lk pl x + lk pl y).toNat) ((a, b)) (Sub.of rfl) (⟨.start a b, ha, hb, Keep.refl _ _⟩) ?_))
 rintro ⟨x, y⟩ w1 ⟨hI, hx, hy, hk1⟩
 show G _ _ _ _ _ [(0, .pointer (some ⟨bw, 0, none⟩)), (1, .int .i64 x), (2, .int .i64 y)] _
 have hW1 := hk1.blk hW (fun h => h)
 have hP1 := hk1.blk hP (fun h => h)
 have hT1 := hk1.blk hT (fun h => h)
 have hpx := hc.proc x hx
 have hpy := hc.proc y hy
 have hlx : x < n := by rw [← hpl]; exact (List.getElem?_eq_some_iff.1 (lk_get hpx)).1
 have hly : y < n := by rw [← hpl]; exact (List.getElem?_eq_some_iff.1 (lk_get hpy)).1
 refine Gs 8 rfl (G.ite0 rfl (fun hne => ?_) (fun heq => ?_))
 ·
  refine Gs 4 rfl (Qt (by kernel_rfl) (Gs 3 rfl (G.ldQ rfl Tryz.isAgg49 (fun w1 hw1 => (hw1.cell (hW1.cells 3 _ rfl) (fun h => h))) (Ga 2 rfl (by omega) (G.ldQ rfl Tryz.isAgg3 (fun w1 hw1 => (hw1.cell (hP1.cells.el1 x rfl (map_at (lk_get hpx))) (fun h => h))) (Gs 3 rfl (G.ldQ rfl Tryz.isAgg49 (fun w1 hw1 => (hw1.cell (hW1.cells 3 _ rfl) (fun h => h))) (Ga 2 rfl (by omega) (G.ldQ rfl Tryz.isAgg3 (fun w1 hw1 => (hw1.cell (hP1.cells.el1 y rfl (map_at (lk_get hpy))) (fun h => h))) (Gs 1 rfl (G.nilQ (fun w2 hk2 => ?_))))))))))))
  have hW2 := hk2.blk hW1 (fun h => h)
  have hT2 := hk2.blk hT1 (fun h => h)
  have hxy : x ≠ y := by omega
  refine Gs 1 rfl (G.ite0 rfl (fun hlt => ?_) (fun hge => ?_))
  ·
   have hxr : x ≠ root := by rintro rfl; rw [hc.rootP] at hlt; omega
   obtain ⟨p, hp1, hp2, hp3⟩ := hc.par x hx hxr
   have hp : T[x]? = some (p : Int) := by rw [← hp1]; exact lk_get hx
   have hpp := hc.proc p hp3
   refine Gs 4 rfl (G.ld rfl Tryz.isAgg49 (hW2.cells 4 _ rfl) (Ga 2 rfl (by omega) (G.ld rfl Tryz.isAgg3 (hT2.cells.el1 x rfl (map_at hp)) (Gs 3 rfl (G.back ((p, y)) (Sub.of rfl) (⟨hI.left hc hx hy hlt hp1, hp3, hy, hk1.ext hk2⟩) ((by dsimp only; omega)))))))
  have hxp : lk pl x ≠ lk pl y := fun h => hxy (hc.inj x y hpx h)
  have hyr : y ≠ root := by rintro rfl; rw [hc.rootP] at *; omega
  obtain ⟨p, hp1, hp2, hp3⟩ := hc.par y hy hyr
  have hp : T[y]? = some (p : Int) := by rw [← hp1]; exact lk_get hy
  have hpp := hc.proc p hp3
  refine Gs 4 rfl (G.ld rfl Tryz.isAgg49 (hW2.cells 4 _ rfl) (Ga 2 rfl (by omega) (G.ld rfl Tryz.isAgg3 (hT2.cells.el1 y rfl (map_at hp)) (Gs 3 rfl (G.back ((x, p)) (Sub.of rfl) (⟨hI.right hc hx hy hxy hge hp1, hx, hp3, hk1.ext hk2⟩) ((by dsimp only; omega)))))))
 refine Gs 12 rfl ?_
 have e : x = y := by omega
 subst e
 refine G.ret1 Tryz.results106 rfl ⟨_, rfl, x, rfl, hI.done, hx, hk1⟩
theorem set_map {α β : Type} (f : α → β) (l : List α) (sp : List β) (i : Nat) (x : α) (h : i < l.length) : (l.map f ++ sp).set i (f x) = (l.set i x).map f ++ sp := by
 rw [List.set_append_left _ _ (by simpa using h), List.map_set]
structure RevInv (l L : List Int) (i j : Nat) : Prop where
 len : L.length = l.length
 sum : i + j + 1 = l.length
 at' : ∀ k : Nat, k < l.length → L[k]? = if k < i ∨ j < k then l.reverse[k]? else l[k]?
theorem RevInv.step {l L : List Int} {i j : Nat} {x y : Int} (h : RevInv l L i j) (hij : i < j) (hx : L[i]? = some x) (hy : L[j]? = some y) : RevInv l ((L.set i y).set j x) (i + 1) (j - 1) := by
 have hs := h.sum
 have hx' : l[i]? = some x := by
  have := h.at' i (by omega)
  rw [if_neg (by omega)] at this
  rw [← this]; exact hx
 have hy' : l[j]? = some y := by
  have := h.at' j (by omega)
  rw [if_neg (by omega)] at this
  rw [← this]; exact hy
 refine ⟨by simp [h.len], by omega, ?_⟩
 intro k hk
 by_cases hkj : j = k
 ·
  subst hkj
  rw [List.getElem?_set_self (by simp [h.len]; omega), if_pos (by omega), List.getElem?_reverse (by omega)]
  rw [show l.length - 1 - j = i from by omega, hx']
 rw [List.getElem?_set_ne hkj]
 by_cases hki : i = k
 ·
  subst hki
  rw [List.getElem?_set_self (by rw [h.len]; omega), if_pos (by omega), List.getElem?_reverse (by omega)]
  rw [show l.length - 1 - i = j from by omega, hy']
 rw [List.getElem?_set_ne hki, h.at' k hk]
 by_cases h1 : k < i ∨ j < k
 · rw [if_pos h1, if_pos (by omega)]
 rw [if_neg h1, if_neg (by omega)]
theorem RevInv.done {l L : List Int} {i j : Nat} (h : RevInv l L i j) (hij : j ≤ i) : L = l.reverse := by
 have hs := h.sum
 apply List.ext_getElem?
 intro k
 by_cases hk : k < l.length
 ·
  rw [h.at' k hk]
  by_cases h1 : k < i ∨ j < k
  · rw [if_pos h1]
  rw [if_neg h1, List.getElem?_reverse hk, show l.length - 1 - k = k from by omega]
 rw [List.getElem?_eq_none (by rw [h.len]; omega), List.getElem?_eq_none (by simp; omega)]
theorem reverseI_ok (l : List Int) (v : Value) (n : Nat) (w : World) (hown : w.ownsRow 0 3 1 v n (l.map (.int .i64))) (hlen : l.length ≤ 1048576) : Calls Tryz.prog 105 #[v] w (Ret fun u w' => u = .tuple #[] ∧ w'.ownsRow 0 3 1 v n (l.reverse.map (.int .i64)) ∧ Keep (fun q => v.ownBlock = some q) w w') := by
 have hn := own_len1 hown
 subst hn
 by_cases h0 : l = []
 ·
  subst h0
  obtain ⟨ao, c, rfl⟩ := own_form hown
  refine G.in1 Tryz.func105 rfl Tryz.ntmps105 rfl (Ga 10 rfl (by omega) (G.loop (σ := Unit) (fun _u => [(0, .slice ao 0 c), (2, .int .i64 0), (3, .int .i64 (-1))]) (fun _u => fun w' => w' = w) (fun _u => 0) (()) (Sub.of rfl) (rfl) ?_))
  rintro _u w1 rfl
  refine Gs 8 rfl (G.ite0 rfl (fun h => ?_) (fun h => ?_))
  · exact absurd h (by omega)
  refine Gs 4 rfl (G.end0 Tryz.results105 ⟨_, rfl, rfl, hown, Keep.refl _ _⟩)
 obtain ⟨g, cap, sp, rfl, _, hnc, hcm, hB, hcl⟩ := own_open1 hown h0
 have hpos : 0 < l.length := List.length_pos_iff.2 h0
 refine G.in1 Tryz.func105 rfl Tryz.ntmps105 rfl (Ga 10 rfl (by omega) (G.loop (σ := Nat × Int × List Int) (fun ⟨i, j, L⟩ => [(0, .slice (some ⟨g, 0, none⟩) l.length cap), (2, .int .i64 i), (3, .int .i64 j)]) (fun ⟨i, j, L⟩ => fun w' => (∃ jn : Nat, j = (jn : Int) ∧ RevInv l L i jn ∨ j = (jn : Int) - 1 ∧ L = l.reverse ∧ jn ≤ i) ∧ L.length = l.length ∧ i ≤ l.length ∧ Blk w' g (L.map (.int .i64) ++ sp) 3 ∧ Keep (fun q => q = g) w w') (fun ⟨i, j, L⟩ => (j - i + 2).toNat) ((0, (l.length : Int) - 1, l)) (Sub.of rfl) (⟨⟨l.length - 1, .inl ⟨by omega, rfl, by omega, fun k hk => by rw [if_neg (by omega)]⟩⟩, rfl, by omega, hB, Keep.refl _ _⟩) ?_))
 rintro ⟨i, j, L⟩ w1 ⟨⟨jn, hj⟩, hL, hil, hB1, hk1⟩
 show G _ _ _ _ _ [(0, .slice (some ⟨g, 0, none⟩) l.length cap), (2, .int .i64 i), (3, .int .i64 j)] _
 refine Gs 8 rfl (G.ite0 rfl (fun hlt => ?_) (fun hge => ?_))
 ·
  rcases hj with ⟨rfl, hI⟩ | ⟨rfl, _, hji⟩
  ·
   have hs := hI.sum
   obtain ⟨x, hx⟩ : ∃ x, L[i]? = some x := ⟨_, List.getElem?_eq_getElem (by omega)⟩
   obtain ⟨y, hy⟩ : ∃ y, L[jn]? = some y := ⟨_, List.getElem?_eq_getElem (by omega)⟩
   have hcx : (L.map (Value.int .i64) ++ sp)[i]? = some (.int .i64 x) := by rw [List.getElem?_append_left (by simp; omega)]; exact map_at hx
   have hcy : (L.map (Value.int .i64) ++ sp)[jn]? = some (.int .i64 y) := by rw [List.getElem?_append_left (by simp; omega)]; exact map_at hy
   refine Gs 4 rfl (Dw (fun w' => Blk w' g (L.map (.int .i64) ++ sp) 3) [12, 13, 14, 15] (fun w2 hE2 hh2 => ?_))
   have hB2 := hE2.blk hB1 (fun h => h)
   refine Da [0, 1, 2, 3, 4, 5, 6] (by kernel_rfl) rfl (by omega) (WD.take 7 rfl (by kernel_rfl) rfl rfl rfl hB2 (fun w1 hw1 => R.load Tryz.isAgg3 rfl (hw1.cells.el1 jn rfl hcy)) (Da [8, 9, 10] (by kernel_rfl) rfl (by omega) (WD.take 11 rfl (by kernel_rfl) rfl rfl rfl hB2 (fun w1 hw1 => R.load Tryz.isAgg3 rfl (hw1.cells.el1 i rfl hcx)) (Da [12] (by kernel_rfl) rfl (by omega) (WD.mem0 13 rfl (by kernel_rfl) rfl rfl (M.store Tryz.sizeOf3 rfl rfl rfl rfl hB2 (by rw [List.length_append, List.length_map]; omega)) ?_)))))
   rintro w3 ⟨hs3, hB3, hk3⟩
   refine ⟨fun h => absurd (by decide) h, ?_⟩
   refine Da [14] (by kernel_rfl) rfl (by omega) (WD.mem0 15 rfl (by kernel_rfl) rfl rfl (M.store Tryz.sizeOf3 rfl rfl rfl rfl hB3 (by rw [List.length_set, List.length_append, List.length_map]; omega)) ?_)
   rintro w4 ⟨hs4, hB4, hk4⟩
   refine ⟨fun h => absurd (by decide) h, ?_⟩
   rw [show 0 + (i : Int).toNat * 1 = i from by omega, show 0 + (jn : Int).toNat * 1 = jn from by omega, set_map _ _ _ _ _ (by omega), set_map _ _ _ _ _ (by simp; omega)] at hB4
   refine G.done (by kernel_rfl) ?_ _
   refine Ga 10 rfl (by omega) (G.back ((i + 1, (jn : Int) - 1, (L.set i y).set jn x)) (Sub.of rfl) (⟨?_, by simp [hL], by omega, hB4, ((hk1.ext hE2).trans hk3 (fun _ _ h => h)).trans hk4 (fun _ _ h => h)⟩) ((by dsimp only; omega)))
   have hst := hI.step (by omega) hx hy
   exact ⟨jn - 1, .inl ⟨by omega, hst⟩⟩
  omega
 have hLr : L = l.reverse := by
  rcases hj with ⟨rfl, hI⟩ | ⟨_, h, _⟩
  · exact hI.done (by omega)
  exact h
 refine Gs 4 rfl (G.end0 Tryz.results105 ⟨_, rfl, rfl, ?_, hk1.mono (fun q _ h => by rw [h]; rfl)⟩)
 have := own_shut1 hB1 (cap := cap) (by rw [← hcl]; simp [hL]) hcm
 rw [hL, hLr] at this
 exact this
open Go.GL Go.GL.Dom Go.GL.Dfs
def encF (f : Nat × Nat) : List Value := [.int .i64 f.1, .int .i64 f.2]
theorem encF_len (f : Nat × Nat) : (encF f).length = 2 := rfl
theorem encF_one (f : Nat × Nat) : ∀ u ∈ encF f, u.oneCell' = true := by simp [encF, Value.oneCell']
def encNum (x : Nat) : Value := .int .i64 x
theorem flatF_len (l : List (Nat × Nat)) : (l.flatMap encF).length = l.length * 2 := flat_len encF_len l
theorem map_boolset (l : List Bool) (i : Nat) : (l.map Value.bool).set i (.bool true) = (l.set i true).map Value.bool := by rw [List.map_set]
structure SearchI (Rw : List (List Int)) (root n bw bs : Nat) (nv bv pv tv : Value) (w : World) (seen : List Bool) (st : List (Nat × Nat)) (out : List Nat) (vs vo : Value) (w' : World) : Prop where
 inv : Dfs.Inv Rw root seen st out
 hs : Blk w' bs (seen.map .bool) 4
 stk : w'.ownsRow 0 161 2 vs st.length (st.flatMap encF)
 lst : w'.ownsRow 0 3 1 vo out.length (out.map encNum)
 hw : Blk w' bw [nv, bv, vo, pv, tv] 84
 fs : ∀ g, vs.ownBlock = some g → w.heap.size ≤ g ∧ g ≠ bs
 fo : ∀ g, vo.ownBlock = some g → w.heap.size ≤ g ∧ g ≠ bs
 apart : ∀ g, vs.ownBlock = some g → vo.ownBlock ≠ some g
 keep : Keep (fun b => b = bw) w w'
theorem search_ok (Rw : List (List Int)) (root n bw bp : Nat) (nv bv tv : Value) (D : Nat → Prop) (w : World) (hR : Dfs.Rows Rw) (hn : Rw.length = n) (hn4 : n ≤ 4096) (hroot : root < n) (hsort : ∀ (a : Nat) r, Rw[a]? = some r → r.Pairwise (· < ·))
  (hnv : SlR 1 (RSl 1 RInt) D w nv Rw) (hD : ∀ b, D b → b ≠ bw ∧ b ≠ bp) (hbp : bw ≠ bp) (hW : Blk w bw [nv, bv, .slice none 0 0, .slice (some ⟨bp, 0, none⟩) n n, tv] 84) (hP : Blk w bp (List.replicate n (.int .i64 (-1))) 3) :
  Calls Tryz.prog 69 #[.pointer (some ⟨bw, 0, none⟩), .int .i64 root] w (Ret fun u w' => u = .tuple #[] ∧ ∃ (order : List Nat) (pl : List Int) (ov : Value), Dfs.Order Rw root order ∧ Dfs.Place n order pl ∧ Blk w' bw [nv, bv, ov, .slice (some ⟨bp, 0, none⟩) n n, tv] 84 ∧ w'.ownsRow 0 3 1 ov order.length (order.map encNum) ∧ (∀ g, ov.ownBlock = some g → w.heap.size ≤ g) ∧ Blk w' bp (pl.map (.int .i64)) 3 ∧ Keep (fun b => b = bw ∨ b = bp) w w') := by
 have hrow : ∀ (a : Nat) r, Rw[a]? = some r → r.length ≤ n := by
  intro a r hr
  have h1 := nodup_le n (r.map Int.toNat) (by
   rw [List.Nodup, List.pairwise_map]
   refine (hsort a r hr).imp_of_mem ?_
   intro x y hx hy hxy
   obtain ⟨b, rfl, _⟩ := hR.ok a r hr x hx
   obtain ⟨c, rfl, _⟩ := hR.ok a r hr y hy
   omega) (by
   intro x hx
   obtain ⟨y, hy, rfl⟩ := List.mem_map.1 hx
   obtain ⟨b, rfl, hb⟩ := hR.ok a r hr y hy
   omega)
  simpa using h1
 obtain ⟨na, nc, rfl, hnl, hnm, hnel⟩ := hnv
 have hbw := hW.lt
 have hbpl := hP.lt
 refine G.in2 Tryz.func69 rfl Tryz.ntmps69 rfl (Gs 5 rfl (G.ld rfl Tryz.isAgg80 (hW.cells 0 _ rfl) (Gs 1 rfl (G.mem rfl rfl (M.make Tryz.underlying159 Tryz.el4 rfl rfl (by omega) (by omega) (made1 _ Rw.length rfl)) ?_))))
 rintro _ w1 ⟨bs, rfl, hbs, hs1, hB1, hk1⟩
 refine Ga 8 rfl (by omega) (G.mem0 rfl (M.store Tryz.sizeOf4 rfl rfl rfl rfl hB1 (by simp; omega)) ?_)
 rintro w2 ⟨hs2, hB2, hk2⟩
 rw [show 0 + (root : Int).toNat * 1 = root from by omega] at hB2
 refine Gs 5 rfl (G.ops1 rfl rfl (R.build (v := .agg #[.int .i64 root, .int .i64 0]) [(0, _), (1, _)] rfl (fun _ => by kernel_rfl)) (G.mem rfl rfl (M.buildSlice (cs := encF (root, 0)) [(0, _)] Tryz.runUnderlying162 Tryz.sizeOf161 Tryz.zeroValue161 (by decide) rfl (by kernel_rfl)) ?_))
 rintro _ w3 ⟨b3, rfl, hb3, hs3, hB3, hk3⟩
 refine Gs 5 rfl ?_
 have hE12 : Ext w w2 := hk1.trans hk2 (fun q hq h => by omega)
 have hstart : SearchI Rw root n bw bs (.slice na Rw.length nc) bv (.slice (some ⟨bp, 0, none⟩) n n) tv w ((List.replicate Rw.length false).set root true) [(root, 0)] [] (.slice (some ⟨b3, 0, none⟩) 1 1) (.slice none 0 0) w3 := by
  refine ⟨Dfs.Inv.start (by omega), ?_, ?_, own_nil _ _ _, (hE12.ext hk3).blk hW (fun h => h), ?_, ?_, ?_, (hE12.ext hk3).mono (fun _ _ h => h.elim)⟩
  ·
   have := hk3.blk hB2 (fun h => h)
   rw [List.map_set, List.map_replicate]
   exact this
  ·
   have := own_blk (k := 2) (n := 1) (cap := 1) hB3 (by omega) (by omega) rfl
   exact this
  ·
   intro g hg
   simp [Value.ownBlock] at hg
   omega
  · intro g hg; simp [Value.ownBlock] at hg
  intro g _ h; simp [Value.ownBlock] at h
 refine G.loop (σ := List Bool × List (Nat × Nat) × List Nat × Value × Value) (fun ⟨seen, st, out, vs, vo⟩ => [(0, .pointer (some ⟨bw, 0, none⟩)), (4, .slice (some ⟨bs, 0, none⟩) Rw.length Rw.length), (5, vs)]) (fun ⟨seen, st, out, vs, vo⟩ => fun w' => SearchI Rw root n bw bs (.slice na Rw.length nc) bv (.slice (some ⟨bp, 0, none⟩) n n) tv w seen st out vs vo w') (fun ⟨seen, st, out, vs, vo⟩ => dsum Rw seen + ssum Rw st) (((List.replicate Rw.length false).set root true, [(root, 0)], [], .slice (some ⟨b3, 0, none⟩) 1 1, .slice none 0 0)) (Sub.of rfl) (hstart) ?_
 rintro ⟨seen, st, out, vs, vo⟩ w4 hI
 show G _ _ _ _ _ [(0, .pointer (some ⟨bw, 0, none⟩)), (4, .slice (some ⟨bs, 0, none⟩) Rw.length Rw.length), (5, vs)] _
 obtain ⟨hinv, hsn, hstk, hlst, hwk, hfs, hfo, hap, hkp⟩ := hI
 have hnd := hinv.nodup
 have hall : ∀ x ∈ st.map Prod.fst ++ out, x < n := by
  intro x hx
  have := (hinv.mark x).2 (List.mem_append.1 hx)
  have h2 := (List.getElem?_eq_some_iff.1 this).1
  rw [hinv.len, hn] at h2
  exact h2
 have hcount := nodup_le n _ hnd hall
 rw [List.length_append, List.length_map] at hcount
 have hsz4 := hkp.size
 obtain ⟨av, cv, hvs⟩ := own_form hstk
 rw [hvs]
 refine Gs 8 rfl (G.ite0 rfl (fun hgt => ?_) (fun hle => ?_))
 ·
  obtain ⟨st', x, e, rfl⟩ : ∃ st' x e, st = st' ++ [(x, e)] := by
   rcases List.eq_nil_or_concat st with rfl | ⟨s, ⟨x, e⟩, rfl⟩
   · simp at hgt
   exact ⟨s, x, e, by simp⟩
  have hne : st' ++ [(x, e)] ≠ [] := by simp
  obtain ⟨g, cap, sp, hvs', hlen, hnc, hcm, hBg, hcl⟩ := own_open encF_len (by omega) hstk hne
  rw [hvs] at hvs'
  cases hvs'
  have hl1 : (st' ++ [(x, e)]).length = st'.length + 1 := by simp
  have hgg := hfs g (by rw [hvs]; rfl)
  have hglt := hBg.lt
  have hbsl := hsn.lt
  have hxat : (st' ++ [(x, e)])[st'.length]? = some (x, e) := by simp
  have hct : Cells w4 g (0 + st'.length * 2) (encF (x, e)) := flat_cells encF_len hBg hxat
  obtain ⟨r, hr, her, hpart⟩ := hinv.part x e (by simp)
  have hxn : x < n := hall x (by simp)
  have hrl := hrow x r hr
  obtain ⟨bo, oo, cs, hnao, hDbo, hcsl, hcs, hRs⟩ := hnel x r hr
  obtain ⟨rv, rfl, ra, rc, rfl, hrlc, hrcm, hrel⟩ := hRs
  have hDk : ∀ b, D b → ¬ b = bw := fun b hb => (hD b hb).1
  have hcs4 := hkp.cells hcs (hDk bo hDbo)
  rw [hl1]
  refine Ga 10 rfl (by omega) ?_
  rw [show 0 + ((((st'.length + 1 : Nat) : Int) - 1).toNat) * 2 = 0 + st'.length * 2 from by omega]
  refine Gs 5 rfl (Qt (by kernel_rfl) (Gs 3 rfl (G.ldQ rfl Tryz.isAgg3 (fun w1 hw1 => (hw1.cell (hct 1 _ rfl) (fun h => h))) (Gs 3 rfl (G.ldQ rfl Tryz.isAgg80 (fun w1 hw1 => (hw1.cell (hwk.cells 0 _ rfl) (fun h => h))) (Gs 3 rfl (G.ldQ rfl Tryz.isAgg3 (fun w1 hw1 => (hw1.cell (hct 0 _ rfl) (fun h => h))) (G.opQ rfl rfl (fun w1 hw1 => R.indexS Tryz.runUnderlying80 Tryz.sizeOf49 rfl rfl hnao (by omega)) (G.ldQ rfl Tryz.isAgg49 (fun w1 hw1 => (hw1.cell (hcs4.el1 (cs := [_]) 0 rfl rfl) (fun h => h))) (Gs 2 rfl (G.nilQ (fun w5 hE5 => ?_))))))))))))
  refine Gs 1 rfl ?_
  have hB5g := hE5.blk hBg (fun h => h)
  have hwk5 := hE5.blk hwk (fun h => h)
  have hct5 := hE5.cells hct (fun h => h)
  refine G.ite0 rfl (fun heq => ?_) (fun hneq => ?_)
  ·
   have he : e = r.length := by have := heq; simp at this; omega
   have hI' := hinv.pop hr he
   refine Gs 1 rfl (Dw (fun w' => Blk w' bw [.slice na Rw.length nc, bv, vo, .slice (some ⟨bp, 0, none⟩) n n, tv] 84 ∧ Cells w' g (0 + st'.length * 2) (encF (x, e))) [13] (fun w6 hE6 hh6 => ?_))
   have hwk6 := hE6.blk hwk5 (fun h => h)
   have hct6 := hE6.cells hct5 (fun h => h)
   refine Ds [0, 1, 2, 3] (by kernel_rfl) rfl (WD.take 4 rfl (by kernel_rfl) rfl rfl rfl ⟨hwk6, hct6⟩ (fun w1 hw1 => R.load Tryz.isAgg49 rfl (hw1.1.cells 2 _ rfl)) (Ds [5, 6, 7] (by kernel_rfl) rfl (WD.take 8 rfl (by kernel_rfl) rfl rfl rfl ⟨hwk6, hct6⟩ (fun w1 hw1 => R.load Tryz.isAgg3 rfl (hw1.2 0 _ rfl)) (WD.mem 9 rfl (by kernel_rfl) rfl rfl rfl (M.buildSlice (cs := [.int .i64 x]) [(0, _)] Tryz.runUnderlying49 Tryz.sizeOf3 Tryz.zeroValue3 (by decide) rfl (by kernel_rfl)) ?_))))
   rintro _ w7 ⟨b7, rfl, hb7, hs7, hB7, hk7⟩
   refine ⟨fun _ => ⟨hk7.blk hwk6 (fun h => h), hk7.cells hct6 (fun h => h)⟩, ?_⟩
   have hE57 := hE5.ext (hE6.ext hk7)
   have hs57 := hE57.size
   have hlst7 := own_keep hlst hE57 (fun _ _ h => h)
   refine WD.mem 10 rfl (by kernel_rfl) rfl rfl rfl (M.append Tryz.underlying49 Tryz.el3 rfl (by decide) rfl rfl hlst7 rfl (Cells.add hB7.cells) (by simp; rfl) (by omega) (by omega)) ?_
   rintro vo' w8 ⟨hown8, hfr8, hk8, _⟩
   obtain ⟨a8, c8, rfl⟩ := own_form hown8
   have hbwo : vo.ownBlock ≠ some bw := fun h => by have := (hfo bw h).1; omega
   have hgo : vo.ownBlock ≠ some g := hap g (by rw [hvs]; rfl)
   have hwk8 := hk8.blk (hk7.blk hwk6 (fun h => h)) hbwo
   refine ⟨fun _ => ⟨hwk8, hk8.cells (hk7.cells hct6 (fun h => h)) hgo⟩, ?_⟩
   refine Ds [11, 12] (by kernel_rfl) rfl (WD.mem0 13 rfl (by kernel_rfl) rfl rfl (M.store Tryz.sizeOf49 rfl rfl rfl rfl hwk8 (by simp)) ?_)
   rintro w9 ⟨hs9, hB9, hk9⟩
   refine ⟨fun h => absurd (List.mem_singleton.2 rfl) h, ?_⟩
   refine G.done (by kernel_rfl) ?_ _
   refine Ga 7 rfl (by omega) (G.ops1 rfl rfl (R.cutHi Tryz.runUnderlying162 Tryz.sizeOf161 rfl rfl (by omega)) (Gs 6 rfl ?_))
   have hk49 : Keep (fun q => vo.ownBlock = some q ∨ q = bw) w4 w9 := ((hE57.mono (fun _ _ h => h.elim)).trans (hk8.mono (fun _ _ h => .inl h)) (fun _ _ h => h)).trans hk9 (fun _ _ h => .inr h)
   have hmd' : ∀ q, vo.ownBlock ≠ some q → q ≠ bw → ¬ (vo.ownBlock = some q ∨ q = bw) := fun q h1 h2 h => h.elim h1 h2
   rw [show (((st'.length + 1 : Nat) : Int) - 1).toNat = st'.length from by omega]
   refine G.back ((seen, st', out ++ [x], .slice (some ⟨g, 0, none⟩) st'.length cv, .slice a8 (out.length + 1) c8)) (Sub.of rfl) (⟨hI', ?_, ?_, ?_, ?_, ?_, ?_, ?_, ?_⟩) (?_)
   · exact hk49.blk hsn (hmd' bs (fun h => (hfo bs h).2 rfl) (by omega))
   ·
    have h1 := own_shut encF_len (k := st'.length) (hk49.blk hBg (hmd' g hgo (by omega))) hcl (by simp) (by omega) (by simpa [maxLen] using hcm)
    rw [List.take_left] at h1
    exact h1
   ·
    have h1 := own_keep hown8 hk9 (fun q hq h => by
     rcases hfr8 with h2 | ⟨q', h2, h3⟩
     · rw [h2] at hq; have := (hfo q hq).1; omega
     ·
      rw [h2] at hq; cases hq; omega)
    rw [List.map_append, List.length_append]
    exact h1
   · exact hB9
   ·
    intro q hq
    cases hq
    exact hgg
   ·
    intro q hq
    rcases hfr8 with h2 | ⟨q', h2, h3⟩
    · rw [h2] at hq; exact hfo q hq
    rw [h2] at hq; cases hq; omega
   ·
    intro q hq h
    obtain rfl : g = q := Option.some.inj hq
    rcases hfr8 with h2 | ⟨q', h2, h3⟩
    · rw [h2] at h; exact hgo h
    rw [h2] at h; cases h; omega
   ·
    exact hkp.trans hk49 (fun q hq h => by
     rcases h with h | h
     · have := (hfo q h).1; omega
     ·
      exact h)
   dsimp only; rw [ssum_snoc]; omega
  have he : e < r.length := by have := hneq; simp at this; omega
  obtain ⟨y, hy⟩ : ∃ y, r[e]? = some y := ⟨_, List.getElem?_eq_getElem he⟩
  obtain ⟨b, rfl, hbn⟩ := hR.ok x r hr y (List.mem_of_getElem? hy)
  obtain ⟨be, oe, ce, hra, hDb, hcel, hce, rfl⟩ := hrel e _ hy
  have hce5 := hE5.cells (hkp.cells hce (hDk be hDb)) (fun h => h)
  have hcs5 := hE5.cells hcs4 (fun h => h)
  refine Gs 3 rfl (Qt (by kernel_rfl) (Gs 3 rfl (G.ldQ rfl Tryz.isAgg80 (fun w1 hw1 => (hw1.cell (hwk5.cells 0 _ rfl) (fun h => h))) (Gs 3 rfl (G.ldQ rfl Tryz.isAgg3 (fun w1 hw1 => (hw1.cell (hct5 0 _ rfl) (fun h => h))) (G.opQ rfl rfl (fun w1 hw1 => R.indexS Tryz.runUnderlying80 Tryz.sizeOf49 rfl rfl hnao (by omega)) (G.ldQ rfl Tryz.isAgg49 (fun w1 hw1 => (hw1.cell (hcs5.el1 (cs := [_]) 0 rfl rfl) (fun h => h))) (Gs 3 rfl (G.ldQ rfl Tryz.isAgg3 (fun w1 hw1 => (hw1.cell (hct5 1 _ rfl) (fun h => h))) (G.opQ rfl rfl (fun w1 hw1 => R.indexS Tryz.runUnderlying49 Tryz.sizeOf3 rfl rfl hra (by omega)) ?_))))))))))
  refine G.ldQ rfl Tryz.isAgg3 (fun w1 hw1 => (hw1.cell (hce5.el1 (cs := [_]) 0 rfl rfl) (fun h => h))) (Gs 1 rfl (G.nilQ (fun w6 hE6 => ?_)))
  refine Gs 6 rfl ?_
  have hB6g := hE6.blk hB5g (fun h => h)
  have hct6 := hE6.cells hct5 (fun h => h)
  refine G.ld rfl Tryz.isAgg3 (hct6 1 _ rfl) (Ga 3 rfl (by omega) (G.mem0 rfl (M.store Tryz.sizeOf3 rfl rfl rfl rfl hB6g (by rw [List.length_append, flatF_len]; simp; omega)) ?_))
  rintro w7 ⟨hs7, hB7, hk7⟩
  have hB7' : Blk w7 g ((st' ++ [(x, e + 1)]).flatMap encF ++ sp) 161 := by
   have h1 := flat_cell encF_len (v := .int .i64 ((e : Int) + 1)) (j := 1) (x := (x, e)) (y := (x, e + 1)) (by decide) rfl (st' ++ [(x, e)]) st'.length sp hxat
   rw [List.set_append_right _ _ (Nat.le_refl _), Nat.sub_self] at h1
   rw [show 0 + st'.length * 2 = st'.length * 2 from by omega] at hB7
   have h2 : Blk w7 g (((st' ++ [(x, e)]).flatMap encF ++ sp).set (st'.length * 2 + 1) (.int .i64 ((e : Int) + 1))) 161 := hB7
   rw [h1] at h2
   exact h2
  have hcl2 : ((st' ++ [(x, e + 1)]).flatMap encF ++ sp).length = cv * 2 := by
   rw [← hcl]; simp only [List.length_append, flatF_len, List.length_cons, List.length_nil]
  have hgbs : bs ≠ g := fun h => hgg.2 h.symm
  have hk47 : Keep (fun q => q = g) w4 w7 := ((hE5.ext hE6).mono (fun _ _ h => h.elim)).trans hk7 (fun _ _ h => h)
  have hsn7 := hk47.blk hsn hgbs
  have hsl : seen.length = n := by rw [hinv.len, hn]
  obtain ⟨s, hsb⟩ : ∃ s, seen[b]? = some s := ⟨_, List.getElem?_eq_getElem (by omega)⟩
  have hsb' : (seen.map Value.bool)[b]? = some (.bool s) := by rw [List.getElem?_map, hsb]; rfl
  have hbg : bw ≠ g := by omega
  have hwk7 := hk47.blk hwk hbg
  have hgo : vo.ownBlock ≠ some g := hap g (by rw [hvs]; rfl)
  refine Ga 7 rfl (by omega) (G.ld rfl Tryz.isAgg4 (hsn7.cells.el1 b rfl hsb') (G.ops1 rfl rfl (R.not rfl) (Gs 2 rfl (G.bool0 rfl (fun hs => ?_) (fun hs => ?_)))))
  ·
   have hsf : s = false := by simpa using hs
   subst hsf
   have hI' := hinv.push hr hy hsb
   refine Ga 5 rfl (by omega) (G.mem0 rfl (M.store Tryz.sizeOf4 rfl rfl rfl rfl hsn7 (by rw [List.length_map]; omega)) ?_)
   rintro w8 ⟨hs8, hB8, hk8⟩
   rw [show 0 + (b : Int).toNat * 1 = b from by omega, map_boolset] at hB8
   refine Gs 5 rfl (G.ops1 rfl rfl (R.build (v := .agg #[.int .i64 b, .int .i64 0]) [(0, _), (1, _)] rfl (fun _ => by kernel_rfl)) (G.mem rfl rfl (M.buildSlice (cs := encF (b, 0)) [(0, _)] Tryz.runUnderlying162 Tryz.sizeOf161 Tryz.zeroValue161 (by decide) rfl (by kernel_rfl)) ?_))
   rintro _ w9 ⟨b9, rfl, hb9, hs9, hB9, hk9⟩
   have hst9 := own_shut encF_len (k := (st' ++ [(x, e + 1)]).length) (hk9.blk (hk8.blk hB7' (fun h => hgbs h.symm)) (fun h => h)) (cap := cv) hcl2 (Nat.le_refl _) (by simp at hnc ⊢; omega) (by simpa [maxLen] using hcm)
   rw [List.take_length, List.length_append] at hst9
   refine G.mem rfl rfl (M.append Tryz.underlying162 Tryz.el161 rfl (by decide) rfl rfl hst9 rfl (Cells.add hB9.cells) (encF_one _) (by simp; omega) (by simp; omega)) ?_
   rintro vs' w10 ⟨hown10, hfr10, hk10, _⟩
   have hk49 : Keep (fun q => q = g ∨ q = bs) w4 w9 := ((hk47.mono (fun _ _ h => .inl h)).trans hk8 (fun _ _ h => .inr h)).ext hk9
   have hk410 : Keep (fun q => q = g ∨ q = bs) w4 w10 := hk49.trans hk10 (fun q _ h => .inl (Option.some.inj h).symm)
   have hs49 := hk49.size
   have hvg : ∀ q, vs'.ownBlock = some q → q = g ∨ w9.heap.size ≤ q := by
    intro q hq
    rcases hfr10 with h2 | ⟨q', h2, h3⟩
    · rw [h2] at hq; exact .inl (Option.some.inj hq).symm
    rw [h2] at hq; cases hq; exact .inr h3
   refine Gs 3 rfl (G.back ((seen.set b true, st' ++ [(x, e + 1)] ++ [(b, 0)], out, vs', vo)) (Sub.of rfl) (⟨hI', ?_, ?_, ?_, ?_, ?_, ?_, ?_, ?_⟩) (?_))
   · exact (hk9.blk hB8 (fun h => h) |> fun h => hk10.blk h (fun h => hgbs (Option.some.inj h).symm))
   ·
    have := hown10
    simp only [List.flatMap_append, List.length_append] at this ⊢
    exact this
   ·
    exact own_keep hlst hk410 (fun q hq h => by
     rcases h with rfl | rfl
     · exact hgo hq
     ·
      exact (hfo _ hq).2 rfl)
   · exact hk410.blk hwk (fun h => by omega)
   ·
    intro q hq
    have := hvg q hq
    omega
   · exact hfo
   ·
    intro q hq h
    rcases hvg q hq with rfl | h2
    · exact hgo h
    have := own_lt hlst h; omega
   · exact hkp.trans hk410 (fun q hq h => by omega)
   dsimp only
   rw [ssum_snoc, ssum_snoc, ssum_snoc, dsum_set hinv.len hsb, deg_of hr]
   omega
  have hst : s = true := by simpa using hs
  subst hst
  have hI' := hinv.skip hr hy hsb
  refine Gs 2 rfl (G.back ((seen, st' ++ [(x, e + 1)], out, .slice (some ⟨g, 0, none⟩) (st'.length + 1) cv, vo)) (Sub.of rfl) (⟨hI', ?_, ?_, ?_, ?_, ?_, ?_, ?_, ?_⟩) (?_))
  · exact hsn7
  ·
   have hst9 := own_shut encF_len (k := (st' ++ [(x, e + 1)]).length) hB7' (cap := cv) hcl2 (Nat.le_refl _) (by simp at hnc ⊢; omega) (by simpa [maxLen] using hcm)
   rw [List.take_length, List.length_append] at hst9
   rw [List.length_append]
   exact hst9
  · exact own_keep hlst hk47 (fun q hq h => by subst h; exact hgo hq)
  · exact hwk7
  ·
   intro q hq
   cases hq
   exact hgg
  · exact hfo
  ·
   intro q hq
   obtain rfl : g = q := Option.some.inj hq
   exact hgo
  · exact hkp.trans hk47 (fun q hq h => by omega)
  dsimp only
  rw [ssum_snoc, ssum_snoc, deg_of hr]
  omega
 have hst0 : st = [] := by
  cases st with
  | nil => rfl
  | cons a l => exact absurd hle (by simp)
 subst hst0
 have hO := hinv.finish
 have hlst' : w4.ownsRow 0 3 1 vo out.length ((out.map fun x : Nat => (x : Int)).map (.int .i64)) := by
  rw [List.map_map]; exact hlst
 refine Gs 10 rfl (G.ld rfl Tryz.isAgg49 (hwk.cells 2 _ rfl) (G.call rfl Tryz.call105 (reverseI_ok _ vo out.length w4 hlst' (by rw [List.length_map]; omega)) ?_))
 rintro _ w5 ⟨rfl, hown5, hk5⟩
 rw [← List.map_reverse, List.map_map] at hown5
 have hown5 : w5.ownsRow 0 3 1 vo out.length (out.reverse.map encNum) := hown5
 have hne : out.reverse ≠ [] := by
  intro h
  have := hO.head
  rw [h] at this
  cases this
 obtain ⟨g, cap, sp, rfl, hgl, hnc, hcm, hBg, hcl⟩ := own_open1 hown5 hne
 have hbwg : bw ≠ g := fun h => by have := (hfo g rfl).1; omega
 have hbpg : bp ≠ g := fun h => by have := (hfo g rfl).1; omega
 have hk5' : Keep (fun q => q = g) w4 w5 := hk5.mono (fun _ _ h => (Option.some.inj h).symm)
 have hwk5 := hk5'.blk hwk hbwg
 have hP5 := hk5'.blk (hkp.blk hP (fun h => hbp h.symm)) hbpg
 refine Gs 7 rfl (G.ld rfl Tryz.isAgg49 (hwk5.cells 2 _ rfl) (Gs 5 rfl ?_))
 have hPs : Blk w5 bp ((List.replicate n (-1 : Int)).map (.int .i64)) 3 := by rw [List.map_replicate]; exact hP5
 refine G.loop (σ := Nat × List Int) (fun ⟨k, pl⟩ => [(0, .pointer (some ⟨bw, 0, none⟩)), (108, .slice (some ⟨g, 0, none⟩) out.length cap), (109, .int .i64 out.length), (110, .int .i64 k)]) (fun ⟨k, pl⟩ => fun w' => k ≤ out.length ∧ Dfs.Place n (out.reverse.take k) pl ∧ Blk w' bp (pl.map (.int .i64)) 3 ∧ Keep (fun q => q = bp) w5 w') (fun ⟨k, pl⟩ => out.length - k) ((0, List.replicate n (-1))) (Sub.of rfl) (⟨Nat.zero_le _, Dfs.Place.start n, hPs, Keep.refl _ _⟩) ?_
 rintro ⟨k, pl⟩ w6 ⟨hkl, hpl, hB6, hk6⟩
 show G _ _ _ _ _ [(0, .pointer (some ⟨bw, 0, none⟩)), (108, .slice (some ⟨g, 0, none⟩) out.length cap), (109, .int .i64 out.length), (110, .int .i64 k)] _
 refine Gs 6 rfl (G.ite0 rfl (fun hlt => ?_) (fun hge => ?_))
 ·
  refine Gs 7 rfl ?_
  obtain ⟨x, hx⟩ : ∃ x, out.reverse[k]? = some x := ⟨_, List.getElem?_eq_getElem (by simp; omega)⟩
  have hxn : x < n := hall x (by
   have := List.mem_of_getElem? hx
   simp at this
   simp [this])
  have hcx : (out.reverse.map encNum ++ sp)[k]? = some (encNum x) := by
   rw [List.getElem?_append_left (by simp; omega), List.getElem?_map, hx]; rfl
  refine Ga 1 rfl (by omega) (G.ld rfl Tryz.isAgg3 ((hk6.blk hBg (fun h => hbpg h.symm)).cells.el1 k rfl hcx) (Gs 8 rfl (G.ld rfl Tryz.isAgg49 ((hk6.blk hwk5 hbp).cells 3 _ rfl) (Ga 3 rfl (by omega) (G.mem0 rfl (M.store Tryz.sizeOf3 rfl rfl rfl rfl hB6 (by rw [List.length_map, hpl.len]; omega)) ?_)))))
  rintro w7 ⟨hs7, hB7, hk7⟩
  rw [show 0 + (x : Int).toNat * 1 = x from by omega, ← List.map_set] at hB7
  refine Ga 7 rfl (by omega) (G.back ((k + 1, pl.set x (k : Int))) (Sub.of rfl) (⟨by omega, hpl.step hO.nodup hx hxn, hB7, hk6.trans hk7 (fun _ _ h => h)⟩) (by first | omega | (dsimp only; omega)))
 refine Gs 4 rfl ?_
 have hkl' : k = out.length := by omega
 subst hkl'
 rw [List.take_of_length_le (by simp)] at hpl
 have hk4 : Keep (fun q => q = g ∨ q = bp) w4 w6 := (hk5'.mono (fun _ _ h => .inl h)).trans hk6 (fun _ _ h => .inr h)
 refine G.end0 Tryz.results69 ⟨_, rfl, rfl, out.reverse, pl, _, hO, hpl, hk6.blk hwk5 hbp, ?_, fun q hq => ?_, hB6, ?_⟩
 ·
  have := own_shut1 (hk6.blk hBg (fun h => hbpg h.symm)) (cap := cap) hcl hcm
  rw [List.length_reverse] at this ⊢
  exact this
 · exact (hfo q hq).1
 exact (hkp.mono (fun _ _ h => .inl h)).trans hk4 (fun q hq h => by
  rcases h with h | h
  · have := (hfo g rfl).1; omega
  ·
   exact .inr h)
end Go.Proofs.YtgojdedggmehiaaGreat
namespace Go.GL
theorem R.loE {P : Program} {env : Env} {w : World} {dst : Option Tmp} {ty : TypeId} {pos : String} {aft : Array Edge} {g : Option (Nat × Bool)} {t e : TypeId} {k : Nat} {x lo : Operand} {ao ao1 : Option Addr} {l c : Nat} {kd : IntKind} {i : Int} (hu : ∀ w, (underlying t).run P w = .ok (.slice e) w) (hs : ∀ w, (sizeOf e).run P w = .ok k w) (hx : ev env x = some (.slice ao l c)) (hy : ev env lo = some (.int kd i)) (hE : (if c = i.toNat then ao else ao.map (·.add (i.toNat * k))) = ao1) (h0 : 0 ≤ i ∧ i ≤ l) :
  Runs P ⟨dst, .slice t x (some lo) none none, ty, pos, aft, g⟩ env w (.slice ao1 (l - i.toNat) (c - i.toNat)) w := hE ▸ R.sliceLo hu hs hx hy h0
end Go.GL
namespace Go.Proofs.YtgojdedggmehiaaGreat
open Go.GL Go.GL.Dom Go.GL.Dfs
structure BackRows (R P : List (List Int)) : Prop where
 len : P.length = R.length
 mem : ∀ (b : Nat) r, P[b]? = some r → ∀ y : Int, y ∈ r ↔ ∃ a : Nat, y = (a : Int) ∧ Dfs.Edge R a b
 short : ∀ (b : Nat) r, P[b]? = some r → r.length ≤ R.length
theorem lk_lt {l : List Int} {i : Nat} (h : i < l.length) : l[i]? = some (lk l i) := by simp [lk, h]
theorem solve_ok (Rw Pw : List (List Int)) (root n bw bp bt : Nat) (nv bv ov : Value) (order : List Nat) (pl : List Int) (D : Nat → Prop) (w : World) (hn : Rw.length = n) (hroot : root < n) (hO : Dfs.Order Rw root order) (hpl : Dfs.Place n order pl) (hB : BackRows Rw Pw)
  (hbv : SlR 1 (RSl 1 RInt) D w bv Pw) (hD : ∀ b, D b → b ≠ bt) (hW : Blk w bw [nv, bv, ov, .slice (some ⟨bp, 0, none⟩) n n, .slice (some ⟨bt, 0, none⟩) n n] 84) (hov : w.ownsRow 0 3 1 ov order.length (order.map encNum)) (hog : ∀ g, ov.ownBlock = some g → g ≠ bt)
  (hP : Blk w bp (pl.map (.int .i64)) 3) (hT : Blk w bt (List.replicate n (.int .i64 (-1))) 3) (hbt1 : bw ≠ bt) (hbt2 : bp ≠ bt) :
  Calls Tryz.prog 70 #[.pointer (some ⟨bw, 0, none⟩)] w (Ret fun u w' => u = .tuple #[] ∧ ∃ T, Solved Rw root n pl T ∧ Blk w' bt (T.map (.int .i64)) 3 ∧ Keep (fun q => q = bt) w w') := by
 obtain ⟨nb, cb, rfl, hblc, hbcm, hbel⟩ := hbv
 have hne : order ≠ [] := by
  intro h
  have := hO.head
  rw [h] at this
  cases this
 have hol : 0 < order.length := List.length_pos_iff.2 hne
 obtain ⟨g, cap, sp, rfl, _, hnc, hcm, hBg, hcl⟩ := own_open1 hov hne
 have hgbt : g ≠ bt := hog g rfl
 have hc0 : (order.map encNum ++ sp)[0]? = some (encNum root) := by
  rw [List.getElem?_append_left (by simpa using hol), List.getElem?_map, hO.head]; rfl
 obtain ⟨K, hK0, hK⟩ := bound Rw root n
 refine G.in1 Tryz.func70 rfl Tryz.ntmps70 rfl (Gs 5 rfl (G.ld rfl Tryz.isAgg49 (hW.cells 2 _ rfl) (Ga 1 rfl (by omega) (G.ld rfl Tryz.isAgg3 (hBg.cells.el1 0 rfl hc0) (Gs 8 rfl (G.ld rfl Tryz.isAgg49 (hW.cells 4 _ rfl) (Ga 3 rfl (by omega) (G.mem0 rfl (M.store Tryz.sizeOf3 rfl rfl rfl rfl hT (by simp; omega)) ?_))))))))
 rintro w1 ⟨hs1, hT1, hk1⟩
 rw [show 0 + (root : Int).toNat * 1 = root from by omega] at hT1
 have hT1' : Blk w1 bt (((List.replicate n (-1)).set root (root : Int)).map (.int .i64)) 3 := by rw [List.map_set, List.map_replicate]; exact hT1
 refine Gs 9 rfl (G.loop (σ := Nat × Bool × List Int) (fun ⟨k, ch, T⟩ => [(0, .pointer (some ⟨bw, 0, none⟩)), (2, .int .i64 root), (3, .bool ch)]) (fun ⟨k, ch, T⟩ => fun w' => L1 Rw root n pl K k ch T ∧ Blk w' bt (T.map (.int .i64)) 3 ∧ Keep (fun q => q = bt) w w') (fun ⟨k, ch, T⟩ => (if ch then K + 1 - k else 0)) ((0, true, (List.replicate n (-1)).set root (root : Int))) (Sub.of rfl) (⟨L1.init hO hpl hroot, hT1', hk1⟩) ?_)
 rintro ⟨k, ch, T⟩ w2 ⟨hL, hT2, hk2⟩
 show G _ _ _ _ _ [(0, .pointer (some ⟨bw, 0, none⟩)), (2, .int .i64 root), (3, .bool ch)] _
 refine Gs 6 rfl (G.bool0 rfl (fun hch => ?_) (fun hch => ?_))
 ·
  subst hch
  have hW2 := hk2.blk hW hbt1
  have hkK := hL.big rfl
  obtain ⟨ao1, hE, hF⟩ : ∃ ao1 : Option Addr, (if cap = (1 : Int).toNat then some ⟨g, 0, none⟩ else (some (⟨g, 0, none⟩ : Addr)).map (·.add ((1 : Int).toNat * 1))) = ao1 ∧ (1 < order.length → ao1 = some ⟨g, 1, none⟩) := by
   refine ⟨_, rfl, fun h => ?_⟩
   rw [if_neg (by have : (1 : Int).toNat = 1 := rfl; omega)]
   rfl
  refine Gs 13 rfl (G.ld rfl Tryz.isAgg49 (hW2.cells 2 _ rfl) (G.ops1 rfl rfl (R.loE Tryz.runUnderlying49 Tryz.sizeOf3 rfl rfl hE (by omega)) (Gs 5 rfl (G.loop (σ := Nat × Bool × List Int) (fun ⟨i, ch, T⟩ => [(0, .pointer (some ⟨bw, 0, none⟩)), (2, .int .i64 root), (3, .bool ch), (27, .slice ao1 (order.length - 1) (cap - 1)), (28, .int .i64 (order.length - 1 : Nat)), (29, .int .i64 i)]) (fun ⟨i, ch, T⟩ => fun w' => L2 Rw root n pl order K k i ch T ∧ i + 1 ≤ order.length ∧ Blk w' bt (T.map (.int .i64)) 3 ∧ Keep (fun q => q = bt) w w') (fun ⟨i, ch, T⟩ => order.length - i) ((0, false, T)) (Sub.of rfl) (⟨L2.start hO hL, by omega, hT2, hk2⟩) ?_))))
  rintro ⟨i, ch, T⟩ w3 ⟨hL2, hio, hT3, hk3⟩
  show G _ _ _ _ _ [(0, .pointer (some ⟨bw, 0, none⟩)), (2, .int .i64 root), (3, .bool ch), (27, .slice ao1 (order.length - 1) (cap - 1)), (28, .int .i64 (order.length - 1 : Nat)), (29, .int .i64 i)] _
  have hTl := hL2.len
  refine Gs 6 rfl (G.ite0 rfl (fun hlt => ?_) (fun hge => ?_))
  ·
   obtain ⟨d, hd⟩ : ∃ d, order[i + 1]? = some d := ⟨_, List.getElem?_eq_getElem (by omega)⟩
   have hcd : ((order.map encNum ++ sp).drop 1)[i]? = some (encNum d) := by
    rw [List.getElem?_drop, List.getElem?_append_left (by simp; omega), List.getElem?_map, Nat.add_comm, hd]; rfl
   have hB3 := hk3.blk hBg hgbt
   have hW3 := hk3.blk hW hbt1
   have hP3 := hk3.blk hP hbt2
   have hc1 : Cells w3 g 1 ((order.map encNum ++ sp).drop 1) := hB3.cells.part 1 (fun j u h => by rwa [List.getElem?_drop] at h)
   have hdn : d < n := by rw [← hpl.len]; exact (List.getElem?_eq_some_iff.1 (hpl.inn _ _ hd)).1
   obtain ⟨r, hr⟩ : ∃ r, Pw[d]? = some r := ⟨_, List.getElem?_eq_getElem (by rw [hB.len]; omega)⟩
   obtain ⟨bo, oo, cs, hnao, hDbo, hcsl, hcs, hRs⟩ := hbel d r hr
   obtain ⟨rv, rfl, ra, rc, rfl, hrlc, hrcm, hrel⟩ := hRs
   have hcs3 := hk3.cells hcs (hD bo hDbo)
   have hbl := hB.len
   refine Gs 6 rfl (G.ops1 rfl rfl (R.indexS Tryz.runUnderlying49 Tryz.sizeOf3 rfl rfl (hF (by omega)) (by omega)) (G.ld rfl Tryz.isAgg3 (hc1.el1 i rfl hcd) (Gs 14 rfl (G.ld rfl Tryz.isAgg80 (hW3.cells 1 _ rfl) (Gs 1 rfl (G.ops1 rfl rfl (R.indexS Tryz.runUnderlying80 Tryz.sizeOf49 rfl rfl hnao (by omega)) (G.ld rfl Tryz.isAgg49 (hcs3.el1 (cs := [_]) 0 rfl rfl) (Gs 5 rfl (G.loop (σ := Nat × Int) (fun ⟨j, new⟩ => [(0, .pointer (some ⟨bw, 0, none⟩)), (2, .int .i64 root), (3, .bool ch), (27, .slice ao1 (order.length - 1) (cap - 1)), (28, .int .i64 (order.length - 1 : Nat)), (29, .int .i64 i), (5, .int .i64 d), (6, .int .i64 new), (39, .slice ra r.length rc), (40, .int .i64 r.length), (41, .int .i64 j)]) (fun ⟨j, new⟩ => fun w' => j ≤ r.length ∧ Ext w3 w' ∧ ∃ ps : List Nat, (∀ p : Nat, p ∈ ps ↔ 0 ≤ lk T p ∧ (p : Int) ∈ r.take j) ∧ ((new = -1 ∧ ps = []) ∨ ∃ m : Nat, new = (m : Int) ∧ MeetAll T root ps m)) (fun ⟨j, new⟩ => r.length - j) ((0, -1)) (Sub.of rfl) (⟨Nat.zero_le _, Keep.refl _ _, [], by simp, .inl ⟨rfl, rfl⟩⟩) ?_)))))))))
   rintro ⟨j, new⟩ w4 ⟨hjr, hk4, ps, hps, hnew⟩
   show G _ _ _ _ _ [(0, .pointer (some ⟨bw, 0, none⟩)), (2, .int .i64 root), (3, .bool ch), (27, .slice ao1 (order.length - 1) (cap - 1)), (28, .int .i64 (order.length - 1 : Nat)), (29, .int .i64 i), (5, .int .i64 d), (6, .int .i64 new), (39, .slice ra r.length rc), (40, .int .i64 r.length), (41, .int .i64 j)] _
   refine Gs 6 rfl (G.ite0 rfl (fun hjl => ?_) (fun hjg => ?_))
   ·
    obtain ⟨y, hy⟩ : ∃ y, r[j]? = some y := ⟨_, List.getElem?_eq_getElem (by omega)⟩
    obtain ⟨p, rfl, hpd⟩ := (hB.mem d r hr y).1 (List.mem_of_getElem? hy)
    have hpn : p < n := by
     obtain ⟨r', h1, _⟩ := hpd
     rw [← hn]; exact (List.getElem?_eq_some_iff.1 h1).1
    obtain ⟨be, oe, ce, hra, hDb, hcel, hce, rfl⟩ := hrel j _ hy
    have hce4 := hk4.cells (hk3.cells hce (hD be hDb)) (fun h => h)
    have hW4 := hk4.blk hW3 (fun h => h)
    have hP4 := hk4.blk hP3 (fun h => h)
    have hT4 := hk4.blk hT3 (fun h => h)
    have htk : ∀ q : Nat, (q : Int) ∈ r.take (j + 1) ↔ (q : Int) ∈ r.take j ∨ q = p := by
     intro q
     obtain ⟨hjlt, hje⟩ := List.getElem?_eq_some_iff.1 hy
     rw [List.take_succ_eq_append_getElem hjlt, List.mem_append, List.mem_singleton, hje]
     constructor
     ·
      rintro (h | h)
      · exact .inl h
      exact .inr (Int.ofNat.inj h)
     rintro (h | h)
     · exact .inl h
     exact .inr (by rw [h])
    refine Gs 6 rfl (G.ops1 rfl rfl (R.indexS Tryz.runUnderlying49 Tryz.sizeOf3 rfl rfl hra (by omega)) (G.ld rfl Tryz.isAgg3 (hce4.el1 (cs := [_]) 0 rfl rfl) (Gs 9 rfl (G.ld rfl Tryz.isAgg49 (hW4.cells 3 _ rfl) (Ga 2 rfl (by omega) (G.ld rfl Tryz.isAgg3 (hP4.cells.el1 p rfl (map_at (lk_lt (by rw [hpl.len]; exact hpn)))) (Gs 2 rfl (G.cases (p := 0 ≤ lk T p) (fun hp0 => ?_) (fun hp0 => ?_)))))))))
    ·
     have hpp := hL2.up.proc p hp0
     refine G.yes rfl rfl (decide_eq_false (by omega)) (Gs 1 rfl (G.yes rfl rfl (decide_eq_false (by omega)) (Gs 1 rfl (G.yes rfl rfl (decide_eq_false (by omega)) (Gs 1 rfl (G.yes rfl rfl (decide_eq_false (by omega)) (G.ld rfl Tryz.isAgg49 (hW4.cells 4 _ rfl) (G.yes rfl rfl (decide_eq_false (by omega)) (Gs 1 rfl (G.yes rfl rfl (decide_eq_false (by omega)) (Ga 1 rfl (by omega) (G.yes rfl rfl (decide_eq_false (by omega)) (G.ld rfl Tryz.isAgg3 (hT4.cells.el1 p rfl (map_at (lk_lt (by omega)))) (G.yes rfl rfl (decide_eq_false (by omega)) (Gs 1 rfl (G.ops1 rfl rfl (R.pickF rfl (decide_eq_false (by omega)) rfl) ?_))))))))))))))))
     refine Gs 3 rfl (G.ff rfl ((decide_eq_false (by omega))) (Gs 7 rfl (G.ite0 rfl (fun hn0 => ?_) (fun hn0 => ?_))))
     ·
      have hps0 : ps = [] := by
       rcases hnew with ⟨_, h⟩ | ⟨m, h, _⟩
       · exact h
       omega
      subst hps0
      refine Ga 11 rfl (by omega) (G.back ((j + 1, (p : Int))) (Sub.of rfl) (⟨by omega, hk4, [p], ?_, .inr ⟨p, rfl, .one hp0⟩⟩) (by first | omega | (dsimp only; omega)))
      intro q
      rw [List.mem_singleton, htk]
      have := hps q
      constructor
      · rintro rfl; exact ⟨hp0, .inr rfl⟩
      rintro ⟨h1, h2 | h2⟩
      · exact absurd (this.2 ⟨h1, h2⟩) (by simp)
      exact h2
     obtain ⟨m, rfl, hm⟩ : ∃ m : Nat, new = (m : Int) ∧ MeetAll T root ps m := by
      rcases hnew with ⟨h, _⟩ | h
      · omega
      exact h
     refine Gs 4 rfl (G.call rfl Tryz.call106 (meet_ok w4 hL2.up.toChain hW4 hP4 hT4 hpl.len hTl m p hm.ok hp0) ?_)
     rintro _ w5 ⟨m', rfl, hmm, hm0, hk5⟩
     refine Ga 9 rfl (by omega) (G.back ((j + 1, (m' : Int))) (Sub.of rfl) (⟨by omega, hk4.ext hk5, ps ++ [p], ?_, .inr ⟨m', rfl, hm.step hmm hm0⟩⟩) (by first | omega | (dsimp only; omega)))
     intro q
     rw [List.mem_append, List.mem_singleton, htk, hps]
     constructor
     ·
      rintro (⟨h1, h2⟩ | rfl)
      · exact ⟨h1, .inl h2⟩
      exact ⟨hp0, .inr rfl⟩
     rintro ⟨h1, h2 | h2⟩
     · exact .inl ⟨h1, h2⟩
     exact .inr h2
    have hps' : ∀ q : Nat, q ∈ ps ↔ 0 ≤ lk T q ∧ (q : Int) ∈ r.take (j + 1) := by
     intro q
     rw [htk, hps]
     constructor
     · rintro ⟨h1, h2⟩; exact ⟨h1, .inl h2⟩
     rintro ⟨h1, h2 | rfl⟩
     · exact ⟨h1, h2⟩
     exact absurd h1 hp0
    refine G.cases (p := lk pl p < 0) (fun hq0 => ?_) (fun hq0 => ?_)
    · refine G.no rfl rfl (decide_eq_true hq0) rfl (G.no rfl rfl (decide_eq_true hq0) rfl (G.no rfl rfl (decide_eq_true hq0) rfl (G.no rfl rfl (decide_eq_true hq0) rfl (G.no rfl rfl (decide_eq_true hq0) rfl (G.no rfl rfl (decide_eq_true hq0) rfl (G.no rfl rfl (decide_eq_true hq0) rfl (G.no rfl rfl (decide_eq_true hq0) rfl (G.ops1 rfl rfl (R.pickT rfl (decide_eq_true hq0) rfl) (Gs 3 rfl (G.tt rfl (rfl) (Ga 8 rfl (by omega) (G.back ((j + 1, new)) (Sub.of rfl) (⟨by omega, hk4, ps, hps', hnew⟩) (by first | omega | (dsimp only; omega))))))))))))))
    refine G.yes rfl rfl (decide_eq_false hq0) (Gs 1 rfl (G.yes rfl rfl (decide_eq_false hq0) (Gs 1 rfl (G.yes rfl rfl (decide_eq_false hq0) (Gs 1 rfl (G.yes rfl rfl (decide_eq_false hq0) (G.ld rfl Tryz.isAgg49 (hW4.cells 4 _ rfl) (G.yes rfl rfl (decide_eq_false hq0) (Gs 1 rfl (G.yes rfl rfl (decide_eq_false hq0) (Ga 1 rfl (by omega) (G.yes rfl rfl (decide_eq_false hq0) (G.ld rfl Tryz.isAgg3 (hT4.cells.el1 p rfl (map_at (lk_lt (by omega)))) (G.yes rfl rfl (decide_eq_false hq0) (Gs 1 rfl (G.ops1 rfl rfl (R.pickF rfl (decide_eq_false hq0) rfl) (Gs 3 rfl (G.tt rfl ((decide_eq_true (by omega))) ?_))))))))))))))))))
    refine Ga 8 rfl (by omega) (G.back ((j + 1, new)) (Sub.of rfl) (⟨by omega, hk4, ps, hps', hnew⟩) (by first | omega | (dsimp only; omega)))
   have hjr' : j = r.length := by omega
   subst hjr'
   have hps' : ∀ p, p ∈ ps ↔ 0 ≤ lk T p ∧ Dfs.Edge Rw p d := by
    intro p
    rw [hps, List.take_length, hB.mem d r hr]
    constructor
    ·
     rintro ⟨h1, a, h2, h3⟩
     have := Int.ofNat.inj h2
     subst this
     exact ⟨h1, h3⟩
    rintro ⟨h1, h2⟩
    exact ⟨h1, p, rfl, h2⟩
   obtain ⟨hdr, _, hdp, hpsn, hmlt⟩ := hL2.facts hO hpl hd hps'
   obtain ⟨m, rfl, hm⟩ : ∃ m : Nat, new = (m : Int) ∧ MeetAll T root ps m := by
    rcases hnew with ⟨_, h⟩ | h
    · exact absurd h hpsn
    exact h
   have hW4 := hk4.blk hW3 (fun h => h)
   have hT4 := hk4.blk hT3 (fun h => h)
   refine Gs 10 rfl (G.ld rfl Tryz.isAgg49 (hW4.cells 4 _ rfl) (Ga 2 rfl (by omega) (G.ld rfl Tryz.isAgg3 (hT4.cells.el1 d rfl (map_at (lk_lt (by omega)))) (Gs 4 rfl ?_))))
   have hi2 : i + 1 + 1 ≤ order.length := (List.getElem?_eq_some_iff.1 hd).1
   refine G.ite0 rfl (fun hne' => ?_) (fun heq' => ?_)
   ·
    refine Gs 4 rfl (G.ld rfl Tryz.isAgg49 (hW4.cells 4 _ rfl) (Ga 3 rfl (by omega) (G.mem0 rfl (M.store Tryz.sizeOf3 rfl rfl rfl rfl hT4 (by simp; omega)) ?_)))
    rintro w5 ⟨hs5, hT5, hk5⟩
    rw [show 0 + (d : Int).toNat * 1 = d from by omega, ← List.map_set] at hT5
    refine Ga 8 rfl (by omega) (G.back ((i + 1, true, T.set d (m : Int))) (Sub.of rfl) (⟨hL2.change hO hpl hK0 hK hd hps' hm hne', hi2, hT5, (hk3.ext hk4).trans hk5 (fun _ _ h => h)⟩) ((by show order.length - (i + 1) < order.length - i; omega)))
   refine Ga 7 rfl (by omega) (G.back ((i + 1, ch, T)) (Sub.of rfl) (⟨hL2.same hO hpl hd hps' hm (by simpa using heq'), hi2, hT4, hk3.ext hk4⟩) (by first | omega | (dsimp only; omega)))
  refine Gs 5 rfl (G.back ((k + 1, ch, T)) (Sub.of rfl) (⟨hL2.last hO (by omega), hT3, hk3⟩) (?_))
  dsimp only
  cases ch with
  | true => have := hL2.big rfl; simp; omega
  | false => simp; omega
 have hch' : ch = false := by simpa using hch
 subst hch'
 have hS := hL.solved hO hpl hroot
 have hTl := hL.len
 have hW2 := hk2.blk hW hbt1
 refine Gs 9 rfl (G.ld rfl Tryz.isAgg49 (hW2.cells 4 _ rfl) (Ga 2 rfl (by omega) (G.mem0 rfl (M.store Tryz.sizeOf3 rfl rfl rfl rfl hT2 (by simp; omega)) ?_)))
 rintro w3 ⟨hs3, hT3, hk3⟩
 rw [show 0 + (root : Int).toNat * 1 = root from by omega, ← List.map_set] at hT3
 refine Gs 1 rfl (G.end0 Tryz.results70 ⟨_, rfl, rfl, _, hS, hT3, hk2.trans hk3 (fun _ _ h => h)⟩)
end Go.Proofs.YtgojdedggmehiaaGreat
namespace Go.GL
theorem SlR.bnd {α : Type} {k : Nat} {R : Rel α} {D : Nat → Prop} {w : World} {v : Value} {l : List α} (hk : 0 < k) (hR : ∀ x cs, R D w x cs → R (fun b => D b ∧ b < w.heap.size) w x cs) (h : SlR k R D w v l) : SlR k R (fun b => D b ∧ b < w.heap.size) w v l := by
 obtain ⟨ao, c, rfl, h1, h2, h3⟩ := h
 refine ⟨ao, c, rfl, h1, h2, fun i x hx => ?_⟩
 obtain ⟨b, o, cs, h4, h5, h6, h7, h8⟩ := h3 i x hx
 refine ⟨b, o, cs, h4, ⟨h5, ?_⟩, h6, h7, hR x cs h8⟩
 have h9 := h7 0 cs[0] (List.getElem?_eq_getElem (by omega))
 exact World.block_lt_of_cell? w _ h9
end Go.GL
namespace Go.Proofs.YtgojdedggmehiaaGreat
open Go.GL Go.GL.Dom Go.GL.Dfs
structure Prep (B : Nat) (w : World) (n root : Nat) (es : List (Int × Int)) (bw : Nat) (Rw Pw : List (List Int)) (order : List Nat) (pl T : List Int) (nv bv ov : Value) (bp bt : Nat) : Prop where
 hn : n ≤ 4096
 hroot : root < n
 rows : Dfs.Rows Rw
 succ : Succs n es Rw
 back : BackRows Rw Pw
 ord : Dfs.Order Rw root order
 place : Dfs.Place n order pl
 sol : Solved Rw root n pl T
 hw : Blk w bw [nv, bv, ov, .slice (some ⟨bp, 0, none⟩) n n, .slice (some ⟨bt, 0, none⟩) n n] 84
 hnv : SlR 1 (RSl 1 RInt) (fun b => B ≤ b) w nv Rw
 hbv : SlR 1 (RSl 1 RInt) (fun b => B ≤ b) w bv Pw
 hov : w.ownsRow 0 3 1 ov order.length (order.map encNum)
 hog : ∀ g, ov.ownBlock = some g → B ≤ g
 hP : Blk w bp (pl.map (.int .i64)) 3
 hT : Blk w bt (T.map (.int .i64)) 3
 ge : B ≤ bw ∧ B ≤ bp ∧ B ≤ bt
def codeOf (n : Int) (es : List (Int × Int)) (root : Int) : Int := if Gr.check n es ≠ 0 then Gr.check n es else if root < 0 ∨ n ≤ root then 3 else 0
theorem succ_rows {n : Nat} {es : List (Int × Int)} {Rw : List (List Int)} (h : Succs n es Rw) (hc : es.all (Gr.okE n) = true) : Dfs.Rows Rw := by
 refine ⟨fun a r hr y hy => ?_⟩
 have h1 := (h.mem a r hr y).1 hy
 have h2 := List.all_eq_true.1 hc _ h1
 simp [Gr.okE] at h2
 refine ⟨y.toNat, by omega, ?_⟩
 rw [h.len]; omega
structure Half (Rw : List (List Int)) (a j : Nat) (rows : List (List Int)) : Prop where
 len : rows.length = Rw.length
 mem : ∀ (b : Nat) r, rows[b]? = some r → ∀ y : Int, y ∈ r ↔ ∃ c : Nat, y = (c : Int) ∧ ((c < a ∧ Dfs.Edge Rw c b) ∨ (c = a ∧ ∃ r', Rw[a]? = some r' ∧ (b : Int) ∈ r'.take j))
 short : ∀ (b : Nat) r, rows[b]? = some r → r.length ≤ a + 1 ∧ ((∀ ra, Rw[a]? = some ra → (b : Int) ∉ ra.take j) → r.length ≤ a)
theorem Half.start (Rw : List (List Int)) : Half Rw 0 0 (List.replicate Rw.length []) := by
 refine ⟨by simp, fun b r hr y => ?_, fun b r hr => ?_⟩
 ·
  have : r = [] := List.eq_of_mem_replicate (List.mem_of_getElem? hr)
  subst this
  simp
 have : r = [] := List.eq_of_mem_replicate (List.mem_of_getElem? hr)
 subst this
 simp
theorem Half.next {Rw rows : List (List Int)} {a : Nat} {ra : List Int} (h : Half Rw a ra.length rows) (hra : Rw[a]? = some ra) : Half Rw (a + 1) 0 rows := by
 refine ⟨h.len, fun b r hr y => ?_, fun b r hr => ?_⟩
 ·
  rw [h.mem b r hr y]
  constructor
  ·
   rintro ⟨c, rfl, h1 | ⟨rfl, r', h2, h3⟩⟩
   · exact ⟨c, rfl, .inl ⟨by omega, h1.2⟩⟩
   rw [hra] at h2
   cases h2
   rw [List.take_length] at h3
   exact ⟨c, rfl, .inl ⟨by omega, ra, hra, h3⟩⟩
  rintro ⟨c, rfl, ⟨h1, h2⟩ | ⟨_, r', _, h3⟩⟩
  ·
   by_cases e : c = a
   ·
    subst e
    obtain ⟨r', h3, h4⟩ := h2
    rw [hra] at h3
    cases h3
    exact ⟨c, rfl, .inr ⟨rfl, ra, hra, by rw [List.take_length]; exact h4⟩⟩
   exact ⟨c, rfl, .inl ⟨by omega, h2⟩⟩
  simp at h3
 have h5 := h.short b r hr
 exact ⟨by omega, fun _ => h5.1⟩
theorem Half.push {Rw rows : List (List Int)} {a j : Nat} {ra r : List Int} {b : Nat} (h : Half Rw a j rows) (hra : Rw[a]? = some ra) (hj : ra[j]? = some (b : Int)) (hs : ra.Pairwise (· < ·)) (hr : rows[b]? = some r) : Half Rw a (j + 1) (rows.set b (r ++ [(a : Int)])) := by
 obtain ⟨hjl, hje⟩ := List.getElem?_eq_some_iff.1 hj
 have htk : ∀ y, y ∈ ra.take (j + 1) ↔ y ∈ ra.take j ∨ y = (b : Int) := by
  intro y
  rw [List.take_succ_eq_append_getElem hjl, List.mem_append, List.mem_singleton, hje]
 refine ⟨by rw [List.length_set]; exact h.len, fun d q hq y => ?_, fun d q hq => ?_⟩
 ·
  by_cases e : b = d
  ·
   subst e
   rw [List.getElem?_set_self (List.getElem?_eq_some_iff.1 hr).1] at hq
   cases hq
   rw [List.mem_append, List.mem_singleton, h.mem b r hr y]
   constructor
   ·
    rintro (⟨c, rfl, h1 | ⟨rfl, r', h2, h3⟩⟩ | rfl)
    · exact ⟨c, rfl, .inl h1⟩
    ·
     rw [hra] at h2; cases h2
     exact ⟨c, rfl, .inr ⟨rfl, ra, hra, (htk _).2 (.inl h3)⟩⟩
    exact ⟨a, rfl, .inr ⟨rfl, ra, hra, (htk _).2 (.inr rfl)⟩⟩
   rintro ⟨c, rfl, h1 | ⟨rfl, r', h2, h3⟩⟩
   · exact .inl ⟨c, rfl, .inl h1⟩
   exact .inr rfl
  rw [List.getElem?_set_ne e] at hq
  rw [h.mem d q hq y]
  constructor
  ·
   rintro ⟨c, rfl, h1 | ⟨rfl, r', h2, h3⟩⟩
   · exact ⟨c, rfl, .inl h1⟩
   rw [hra] at h2; cases h2
   exact ⟨c, rfl, .inr ⟨rfl, ra, hra, (htk _).2 (.inl h3)⟩⟩
  rintro ⟨c, rfl, h1 | ⟨rfl, r', h2, h3⟩⟩
  · exact ⟨c, rfl, .inl h1⟩
  rw [hra] at h2; cases h2
  rcases (htk _).1 h3 with h4 | h4
  · exact ⟨c, rfl, .inr ⟨rfl, ra, hra, h4⟩⟩
  exact absurd (Int.ofNat.inj h4).symm e
 by_cases e : b = d
 ·
  subst e
  rw [List.getElem?_set_self (List.getElem?_eq_some_iff.1 hr).1] at hq
  cases hq
  have h5 := (h.short b r hr).2 (fun ra' h6 h7 => by
   rw [hra] at h6
   cases h6
   obtain ⟨k, hk, hk2⟩ := List.mem_iff_getElem.1 h7
   rw [List.length_take] at hk
   rw [List.getElem_take] at hk2
   have := List.pairwise_iff_getElem.1 hs k j (by omega) hjl (by omega)
   omega)
  rw [List.length_append, List.length_singleton]
  refine ⟨by omega, fun h6 => absurd ((htk _).2 (.inr rfl)) (h6 ra hra)⟩
 rw [List.getElem?_set_ne e] at hq
 have h5 := h.short d q hq
 refine ⟨h5.1, fun h6 => h5.2 (fun ra' h7 h8 => ?_)⟩
 rw [hra] at h7
 cases h7
 exact h6 ra hra ((htk _).2 (.inl h8))
theorem Half.back {Rw rows : List (List Int)} (h : Half Rw Rw.length 0 rows) : BackRows Rw rows := by
 refine ⟨h.len, fun b r hr y => ?_, fun b r hr => (h.short b r hr).2 (fun ra _ => by simp)⟩
 rw [h.mem b r hr y]
 constructor
 ·
  rintro ⟨c, rfl, ⟨_, h1⟩ | ⟨_, r', _, h3⟩⟩
  · exact ⟨c, rfl, h1⟩
  simp at h3
 rintro ⟨c, rfl, h1⟩
 obtain ⟨r', h2, h3⟩ := h1
 exact ⟨c, rfl, .inl ⟨(List.getElem?_eq_some_iff.1 h2).1, r', h2, h3⟩⟩
set_option maxRecDepth 100000 in
theorem prepare_ok (n root : Int) (es : List (Int × Int)) (ev : Value) (D : Nat → Prop) (w : World) (hes : SlR 2 RPair D w ev es) : Calls Tryz.prog 29 #[.agg #[.int .i64 n, ev], .int .i64 root] w (Ret fun v w' => ∃ u, v = .tuple #[u, .int .i64 (codeOf n es root)] ∧ (codeOf n es root ≠ 0 → u = .pointer none) ∧ (codeOf n es root = 0 → ∃ bw Rw Pw order pl T nv bv ov bp bt, u = .pointer (some ⟨bw, 0, none⟩) ∧ Prep w.heap.size w' n.toNat root.toNat es bw Rw Pw order pl T nv bv ov bp bt) ∧ Ext w w') := by
 have hes' := hes
 obtain ⟨ao, cap, rfl, _⟩ := hes'
 refine G.in2 Tryz.func29 rfl Tryz.ntmps29 rfl (Gs 2 rfl (G.mem rfl rfl (M.box rfl rfl) ?_))
 rintro _ w1 ⟨b, rfl, hb, hs1, hB1, hk1⟩
 refine Gs 6 rfl (G.ldK rfl Tryz.isAgg37 Tryz.sizeOf37 hB1.cells rfl (G.call rfl Tryz.call67 (successors_ok n es _ D w1 (hes.ext stable_pair hk1)) ?_))
 rintro _ w2 ⟨u, rfl, hu0, hu1, hk2⟩
 have hE2 := hk1.ext hk2
 have hB2 := hk2.blk hB1 (fun h => h)
 refine Gs 14 rfl (G.ite0 rfl (fun hc => ?_) (fun hc => ?_))
 ·
  have hcode : codeOf n es root = Gr.check n es := by unfold codeOf; rw [if_pos hc]
  refine Gs 9 rfl (G.ret2 Tryz.results29 rfl rfl ⟨_, rfl, .pointer none, by rw [hcode] <;> rfl, fun _ => rfl, fun h => absurd (hcode ▸ h) hc, hE2⟩)
 have hc0 : Gr.check n es = 0 := by simpa using hc
 obtain ⟨h1, h2, h3, h4⟩ := Gr.check_zero hc0
 obtain ⟨m, rfl⟩ := Int.eq_ofNat_of_zero_le h1
 refine Gs 8 rfl (G.cases (p := root < 0) (fun hr0 => ?_) (fun hr0 => ?_))
 ·
  have hcode : codeOf m es root = 3 := by unfold codeOf; rw [if_neg (by simpa using hc0), if_pos (.inl hr0)]
  refine G.no rfl rfl (decide_eq_true hr0) rfl (G.no rfl rfl (decide_eq_true hr0) rfl (G.no rfl rfl (decide_eq_true hr0) rfl (G.no rfl rfl (decide_eq_true hr0) rfl (G.ops1 rfl rfl (R.pickT rfl (decide_eq_true hr0) rfl) (Gs 2 rfl (G.tt rfl (rfl) (Gs 8 rfl (G.ret2 Tryz.results29 rfl rfl ⟨_, rfl, .pointer none, by rw [hcode], fun _ => rfl, fun h => by rw [hcode] at h; exact absurd h (by decide), hE2⟩))))))))
 refine G.yes rfl rfl (decide_eq_false hr0) (Gs 1 rfl (G.yes rfl rfl (decide_eq_false hr0) (Gs 1 rfl (G.yes rfl rfl (decide_eq_false hr0) (G.ld rfl Tryz.isAgg3 (hB2.cells 0 _ rfl) (G.yes rfl rfl (decide_eq_false hr0) (Gs 1 rfl (G.ops1 rfl rfl (R.pickF rfl (decide_eq_false hr0) rfl) (Gs 2 rfl (G.ite0 rfl (fun hr1 => ?_) (fun hr1 => ?_)))))))))))
 ·
  have hcode : codeOf m es root = 3 := by unfold codeOf; rw [if_neg (by simpa using hc0), if_pos (.inr (by omega))]
  refine Gs 8 rfl (G.ret2 Tryz.results29 rfl rfl ⟨_, rfl, .pointer none, by rw [hcode], fun _ => rfl, fun h => by rw [hcode] at h; exact absurd h (by decide), hE2⟩)
 have hcode : codeOf m es root = 0 := by unfold codeOf; rw [if_neg (by simpa using hc0), if_neg (by omega)]
 obtain ⟨rt, rfl⟩ := Int.eq_ofNat_of_zero_le (by omega : 0 ≤ root)
 obtain ⟨Rw, hR, hu⟩ := hu1 hc0
 simp only [Int.toNat_natCast] at hR
 have hRows := succ_rows hR h4
 have hu' := hu
 obtain ⟨an, cn, rfl, hnl, hnm, hnel⟩ := hu'
 have hRl := hR.len
 have hmm : m ≤ 4096 := by omega
 refine Gs 3 rfl (Dw (fun w' => Blk w' b [.int .i64 m, .slice ao es.length cap] 37) [] (fun w3 hE3 hh3 => ?_))
 have hB3 := hE3.blk hB2 (fun h => h)
 refine Ds [0, 1] (by kernel_rfl) rfl (WD.take 2 rfl (by kernel_rfl) rfl rfl rfl hB3 (fun w1 hw1 => R.load Tryz.isAgg3 rfl (hw1.cells 0 _ rfl)) (Ds [4] (by kernel_rfl) rfl (WD.take 5 rfl (by kernel_rfl) rfl rfl rfl hB3 (fun w1 hw1 => R.load Tryz.isAgg3 rfl (hw1.cells 0 _ rfl)) (Ds [7] (by kernel_rfl) rfl (WD.take 8 rfl (by kernel_rfl) rfl rfl rfl hB3 (fun w1 hw1 => R.load Tryz.isAgg3 rfl (hw1.cells 0 _ rfl)) (WD.tri (Ri := fun w v w' => ∃ b, v = .slice (some ⟨b, 0, none⟩) m m ∧ New w (List.replicate m (.slice none 0 0)) 49 b w') (Rj := fun w v w' => ∃ b, v = .slice (some ⟨b, 0, none⟩) m m ∧ w.heap.size ≤ b ∧ Blk w' b (List.replicate m (.int .i64 (-1))) 3 ∧ Ext w w') (Rk := fun w v w' => ∃ b, v = .slice (some ⟨b, 0, none⟩) m m ∧ w.heap.size ≤ b ∧ Blk w' b (List.replicate m (.int .i64 (-1))) 3 ∧ Ext w w') 3 6 9 rfl rfl rfl (by kernel_rfl) (by kernel_rfl) (by kernel_rfl) (by kernel_rfl) (by kernel_rfl) (by kernel_rfl) rfl rfl rfl rfl rfl rfl rfl rfl rfl rfl rfl rfl rfl rfl rfl rfl rfl rfl (fun w' hw' => hw'.blk hB3 (fun h => h)) (fun w' hw' => ?_) (fun w' hw' => ?_) (fun w' hw' => ?_) ?_ ?_ ?_ ?_))))))
 · exact .of (M.make Tryz.underlying80 Tryz.el49 rfl rfl (by omega) (by omega) (madeNil m))
 · exact .call (F.call (vs := [_]) Tryz.call68 rfl) (filled_ok m (by omega) w')
 · exact .call (F.call (vs := [_]) Tryz.call68 rfl) (filled_ok m (by omega) w')
 ·
  rintro a v a' ⟨b, rfl, hN⟩
  exact ⟨hN.2.2.2, b, rfl, by have := hN.1; omega, by have := hN.1; have := hN.2.1; omega⟩
 ·
  rintro a v a' ⟨b, rfl, hN, hB, hk⟩
  exact ⟨hk, b, rfl, hN, hB.lt⟩
 ·
  rintro a v a' ⟨b, rfl, hN, hB, hk⟩
  exact ⟨hk, b, rfl, hN, hB.lt⟩
 rintro _ _ _ w4 hk4 ⟨a1, a1', k1, ⟨bo, rfl, hN1⟩, k1'⟩ ⟨a2, a2', k2, ⟨bp, rfl, hn2, hBp, k2''⟩, k2'⟩ ⟨a3, a3', k3, ⟨bt, rfl, hn3, hBt, k3''⟩, k3'⟩ hd1 hd2 hd3
 have hBo4 := k1'.blk hN1.2.2.1 (fun h => h)
 have hBp4 := k2'.blk hBp (fun h => h)
 have hBt4 := k3'.blk hBt (fun h => h)
 have hop : bo ≠ bp := fun h => hd1 (by rw [h])
 have hot : bo ≠ bt := fun h => hd2 (by rw [h])
 have hpt : bp ≠ bt := fun h => hd3 (by rw [h])
 have hgo : w3.heap.size ≤ bo := by have := hN1.1; have := k1.size; omega
 have hgp : w3.heap.size ≤ bp := by have := k2.size; omega
 have hgt : w3.heap.size ≤ bt := by have := k3.size; omega
 refine WD.takeW 10 rfl (by kernel_rfl) rfl rfl rfl (fun w1 => R.build (v := .agg #[.slice an Rw.length cn, .slice (some ⟨bo, 0, none⟩) m m, .slice none 0 0, .slice (some ⟨bp, 0, none⟩) m m, .slice (some ⟨bt, 0, none⟩) m m]) [(0, _), (1, _), (3, _), (4, _)] rfl (fun _ => by kernel_rfl)) (WD.mem 11 rfl (by kernel_rfl) rfl rfl rfl (M.box rfl rfl) ?_)
 rintro _ w5 ⟨bw, rfl, hbw, hs5, hBw, hk5⟩
 refine ⟨fun _ => (hk4.ext hk5).blk hB3 (fun h => h), ?_⟩
 refine Ds [12] (by kernel_rfl) rfl (G.done (by kernel_rfl) ?_ _)
 refine Gs 10 rfl ?_
 have hs24 := hE3.size
 have hs34 := hk4.size
 have hE5 : Ext w3 w5 := hk4.ext hk5
 have hM5 : Mat (Value.int .i64) 3 49 w5.heap.size w5 bo (List.replicate m (.slice none 0 0)) (List.replicate Rw.length ([] : List Int)) := by
  rw [hRl]
  exact Mat.start (hk5.blk hBo4 (fun h => h))
 have hbwo : bw ≠ bo := by have := hBo4.lt; omega
 have hbo5 : bo < w5.heap.size := by have := hBo4.lt; omega
 refine G.loop (σ := Nat × List Value × List (List Int)) (fun ⟨a, rv, rows⟩ => [(8, .pointer (some ⟨bw, 0, none⟩)), (1, .int .i64 rt), (41, .slice an Rw.length cn), (42, .int .i64 Rw.length), (43, .int .i64 a)]) (fun ⟨a, rv, rows⟩ => fun w' => a ≤ Rw.length ∧ Half Rw a 0 rows ∧ Mat (Value.int .i64) 3 49 w5.heap.size w' bo rv rows ∧ Keep (fun q => q = bo) w5 w') (fun ⟨a, rv, rows⟩ => Rw.length - a) ((0, List.replicate m (.slice none 0 0), List.replicate Rw.length [])) (Sub.of rfl) (⟨Nat.zero_le _, Half.start Rw, hM5, Keep.refl _ _⟩) ?_
 rintro ⟨a, rv, rows⟩ w6 ⟨han, hH, hM, hk6⟩
 show G _ _ _ _ _ [(8, .pointer (some ⟨bw, 0, none⟩)), (1, .int .i64 rt), (41, .slice an Rw.length cn), (42, .int .i64 Rw.length), (43, .int .i64 a)] _
 refine Gs 6 rfl (G.ite0 rfl (fun hlt => ?_) (fun hge => ?_))
 ·
  obtain ⟨r, hr⟩ : ∃ r, Rw[a]? = some r := ⟨_, List.getElem?_eq_getElem (by omega)⟩
  obtain ⟨b1, o1, cs1, hnao, hDb1, hcsl, hcs, hRs⟩ := hnel a r hr
  obtain ⟨rv1, rfl, ra, rc, rfl, hrlc, hrcm, hrel⟩ := hRs
  have hcs6 := (hcs.same (fun hlt => by rw [hk6.block b1 (by have := hE3.size; omega) (by omega), hE5.block b1 (by omega) (fun h => h), hE3.block b1 hlt (fun h => h)]))
  refine Gs 7 rfl (G.ops1 rfl rfl (R.indexS Tryz.runUnderlying80 Tryz.sizeOf49 rfl rfl hnao (by omega)) (G.ld rfl Tryz.isAgg49 (hcs6.el1 (cs := [_]) 0 rfl rfl) (Gs 12 rfl ?_)))
  have hrl : r.length ≤ 4096 := by
   have h5 := nodup_le m (r.map Int.toNat) (by
    rw [List.Nodup, List.pairwise_map]
    refine (hR.sorted a r hr).imp_of_mem ?_
    intro x y hx hy hxy
    obtain ⟨q, rfl, _⟩ := hRows.ok a r hr x hx
    obtain ⟨q', rfl, _⟩ := hRows.ok a r hr y hy
    omega) (by
    intro x hx
    obtain ⟨y, hy, rfl⟩ := List.mem_map.1 hx
    obtain ⟨q, rfl, hq⟩ := hRows.ok a r hr y hy
    omega)
   rw [List.length_map] at h5
   omega
  refine G.loop (σ := Nat × List Value × List (List Int)) (fun ⟨j, rv, rows⟩ => [(8, .pointer (some ⟨bw, 0, none⟩)), (1, .int .i64 rt), (41, .slice an Rw.length cn), (42, .int .i64 Rw.length), (43, .int .i64 a), (9, .int .i64 a), (48, .slice ra r.length rc), (49, .int .i64 r.length), (50, .int .i64 j)]) (fun ⟨j, rv, rows⟩ => fun w' => j ≤ r.length ∧ Half Rw a j rows ∧ Mat (Value.int .i64) 3 49 w5.heap.size w' bo rv rows ∧ Keep (fun q => q = bo) w5 w') (fun ⟨j, rv, rows⟩ => r.length - j) ((0, rv, rows)) (Sub.of rfl) (⟨Nat.zero_le _, hH, hM, hk6⟩) ?_
  rintro ⟨j, rv, rows⟩ w7 ⟨hjr, hH7, hM7, hk7⟩
  show G _ _ _ _ _ [(8, .pointer (some ⟨bw, 0, none⟩)), (1, .int .i64 rt), (41, .slice an Rw.length cn), (42, .int .i64 Rw.length), (43, .int .i64 a), (9, .int .i64 a), (48, .slice ra r.length rc), (49, .int .i64 r.length), (50, .int .i64 j)] _
  refine Gs 6 rfl (G.ite0 rfl (fun hjl => ?_) (fun hjg => ?_))
  ·
   obtain ⟨y, hy⟩ : ∃ y, r[j]? = some y := ⟨_, List.getElem?_eq_getElem (by omega)⟩
   obtain ⟨b, rfl, hbn⟩ := hRows.ok a r hr y (List.mem_of_getElem? hy)
   obtain ⟨be, oe, ce, hra, hDb, hcel, hce, rfl⟩ := hrel j _ hy
   have hce7 := (hce.same (fun hlt => by rw [hk7.block be (by have := hE3.size; omega) (by omega), hE5.block be (by omega) (fun h => h), hE3.block be hlt (fun h => h)]))
   have hBw7 := hk7.blk hBw hbwo
   have hm := Mat.at (i := b) hM7 (by rw [hH7.len]; omega)
   obtain ⟨v, q, hv, hq⟩ := hm
   refine Gs 6 rfl (G.ops1 rfl rfl (R.indexS Tryz.runUnderlying49 Tryz.sizeOf3 rfl rfl hra (by omega)) (G.ld rfl Tryz.isAgg3 (hce7.el1 (cs := [_]) 0 rfl rfl) (Gs 3 rfl (Dw (fun w' => Blk w' bw [.slice an Rw.length cn, .slice (some ⟨bo, 0, none⟩) m m, .slice none 0 0, .slice (some ⟨bp, 0, none⟩) m m, .slice (some ⟨bt, 0, none⟩) m m] 84 ∧ Blk w' bo rv 49) [16] (fun w8 hE8 hh8 => ?_)))))
   have hBw8 := hE8.blk hBw7 (fun h => h)
   have hM8 := hM7.ext hE8
   refine Ds [0, 1, 2] (by kernel_rfl) rfl (WD.take 3 rfl (by kernel_rfl) rfl rfl rfl ⟨hBw8, hM8.out⟩ (fun w1 hw1 => R.load Tryz.isAgg80 rfl (hw1.1.cells 1 _ rfl)) (Ds [4, 5, 6, 7] (by kernel_rfl) rfl (WD.take 8 rfl (by kernel_rfl) rfl rfl rfl ⟨hBw8, hM8.out⟩ (fun w1 hw1 => R.load Tryz.isAgg80 rfl (hw1.1.cells 1 _ rfl)) (Da [9, 10] (by kernel_rfl) rfl (by omega) (WD.take 11 rfl (by kernel_rfl) rfl rfl rfl ⟨hBw8, hM8.out⟩ (fun w1 hw1 => R.load Tryz.isAgg49 rfl (hw1.2.cells.el1 b rfl hv)) (Ds [12] (by kernel_rfl) rfl (WD.mem 13 rfl (by kernel_rfl) rfl rfl rfl (M.buildSlice (cs := [.int .i64 a]) [(0, _)] Tryz.runUnderlying49 Tryz.sizeOf3 Tryz.zeroValue3 (by decide) rfl (by kernel_rfl)) ?_)))))))
   rintro _ w9 ⟨b9, rfl, hb9, hs9, hB9, hk9⟩
   refine ⟨fun _ => ⟨hk9.blk hBw8 (fun h => h), hk9.blk hM8.out (fun h => h)⟩, ?_⟩
   have hM9 := hM8.ext hk9
   have hrow := hM9.row b v q hv hq
   have hql := hH7.short b q hq
   have hqb : q.length ≤ 20000 := by have := hql.1; omega
   refine WD.mem 14 rfl (by kernel_rfl) rfl rfl rfl (M.append Tryz.underlying49 Tryz.el3 rfl (by decide) rfl rfl hrow rfl (Cells.add hB9.cells) (by simp; rfl) (by omega) (by omega)) ?_
   rintro v' w10 ⟨hown10, hfr10, hk10, _⟩
   obtain ⟨av, cv, rfl⟩ := own_form hown10
   have hbo10 : v.ownBlock ≠ some bo := fun h => (hM9.far b v bo hv h).2 rfl
   have hbw10 : v.ownBlock ≠ some bw := fun h => by have := (hM9.far b v bw hv h).1; have := hBw.lt; omega
   have hBw10 := hk10.blk (hk9.blk hBw8 (fun h => h)) hbw10
   refine ⟨fun _ => ⟨hBw10, hk10.blk hM9.out hbo10⟩, ?_⟩
   refine Da [15] (by kernel_rfl) rfl (by omega) (WD.mem0 16 rfl (by kernel_rfl) rfl rfl (M.store Tryz.sizeOf49 rfl rfl rfl rfl (hk10.blk hM9.out hbo10) (by rw [hM9.len, hH7.len]; omega)) ?_)
   rintro w11 hW11
   refine ⟨fun h => absurd (List.mem_singleton.2 rfl) h, ?_⟩
   rw [show 0 + (b : Int).toNat * 1 = b from by omega] at hW11
   have hk911 : Keep (fun q => v.ownBlock = some q ∨ q = bo) w9 w11 := (hk10.mono (fun _ _ h => .inl h)).trans hW11.2.2 (fun _ _ h => .inr h)
   have hk711 : Keep (fun q => v.ownBlock = some q ∨ q = bo) w7 w11 := ((hE8.ext hk9).mono (fun _ _ h => h.elim)).trans hk911 (fun _ _ h => h)
   refine G.done (by kernel_rfl) ?_ _
   refine Ga 6 rfl (by omega) (G.back ((j + 1, rv.set b (.slice av (q.length + 1) cv), rows.set b (q ++ [(a : Int)]))) (Sub.of rfl) (⟨by omega, hH7.push hr hy (hR.sorted a r hr) hq, ?_, ?_⟩) (by first | omega | (dsimp only; omega)))
   · exact hM9.push (by have := hk9.size; have := hE8.size; have := hk7.size; omega) hv hq hown10 hfr10 hk10 hW11
   exact hk7.trans hk711 (fun q' hq' h => by
    rcases h with h | h
    · have := (hM7.far b v q' hv h).1; omega
    ·
     exact h)
  have hjr' : j = r.length := by omega
  subst hjr'
  refine Ga 10 rfl (by omega) (G.back ((a + 1, rv, rows)) (Sub.of rfl) (⟨by omega, hH7.next hr, hM7, hk7⟩) (by first | omega | (dsimp only; omega)))
 have han' : a = Rw.length := by omega
 subst han'
 have hPw := hH.back
 have hBw6 := hk6.blk hBw hbwo
 have hBp6 := hk6.blk (hk5.blk hBp4 (fun h => h)) (fun h => hop h.symm)
 have hBt6 := hk6.blk (hk5.blk hBt4 (fun h => h)) (fun h => hot h.symm)
 have hk36 : Keep (fun q => q = bo) w3 w6 := (hE5.mono (fun _ _ h => h.elim)).trans hk6 (fun _ _ h => h)
 have hk26 : Keep (fun q => q = bo) w2 w6 := (hE3.mono (fun _ _ h => h.elim)).trans hk36 (fun _ _ h => h)
 have hnv6 := (SlR.bnd (by decide) (fun x cs h => by
  obtain ⟨v, h1, h2⟩ := h
  exact ⟨v, h1, SlR.bnd (by decide) (fun _ _ h => h) h2⟩) hu).keep (stable_sl stable_int) hk26 (fun q hq hlt h => by have h2 : q < w2.heap.size := hq.2; have h3 : q = bo := h; omega)
 have hltp := hBp4.lt
 have hltt := hBt4.lt
 refine Gs 9 rfl (G.call rfl Tryz.call69 (search_ok Rw rt m bw bp _ _ _ (fun b => w1.heap.size ≤ b ∧ b < w2.heap.size) w6 hRows hRl hmm (by omega) hR.sorted hnv6 (fun q hq => by omega) (by omega) hBw6 hBp6) ?_)
 rintro _ w7 ⟨rfl, order, pl, ov, hO, hPl, hBw7, hov7, hog7, hBp7, hk7⟩
 have hk47 : Keep (fun q => q = bo ∨ q = bw ∨ q = bp) w3 w7 := (hk36.mono (fun _ _ h => .inl h)).trans hk7 (fun _ _ h => .inr h)
 have hM7 := hM.keep hk7 (fun h => h.elim (fun h => hbwo h.symm) hop) (fun i v q hv hq h => by
  have := (hM.far i v q hv hq).1
  rcases h with h | h <;> omega)
 have hBt7 := hk7.blk hBt6 (fun h => h.elim (fun h => by omega) (fun h => hpt h.symm))
 have hbv7 : SlR 1 (RSl 1 RInt) (fun q => q = bo ∨ w5.heap.size ≤ q) w7 (.slice (some ⟨bo, 0, none⟩) m m) rows := by
  refine hM7.sl (fun _ => rfl) (.inl rfl) (fun i v g hv hg => .inr (hM7.far i v g hv hg).1) ?_ ?_ (by omega)
  · rw [hH.len]; exact hRl.symm
  rw [hH.len]; omega
 have hs67 := hk6.size
 have hog7' : ∀ g, ov.ownBlock = some g → w5.heap.size ≤ g := fun g hg => by have := hog7 g hg; omega
 refine Gs 5 rfl (G.call rfl Tryz.call70 (solve_ok Rw rows rt m bw bp bt _ _ _ order pl (fun q => q = bo ∨ w5.heap.size ≤ q) w7 hRl (by omega) hO hPl hPw hbv7 (fun q hq => by rcases hq with h | h <;> omega) hBw7 hov7 (fun g hg => by have := hog7' g hg; omega) hBp7 hBt7 (by omega) hpt) ?_)
 rintro _ w8 ⟨rfl, T, hS, hBt8, hk8⟩
 have hwt : bw ≠ bt := by omega
 have hk28 : Keep (fun q => q = bo ∨ q = bw ∨ q = bp ∨ q = bt) w3 w8 := (hk47.mono (fun _ _ h => by rcases h with h | h | h <;> simp [h])).trans hk8 (fun _ _ h => .inr (.inr (.inr h)))
 have hk28' : Ext w2 w8 := hE3.trans hk28 (fun q hq h => by rcases h with h | h | h | h <;> omega)
 refine Gs 10 rfl ?_
 rw [hcode]
 refine G.ret2 Tryz.results29 rfl rfl ⟨_, rfl, .pointer (some ⟨bw, 0, none⟩), rfl, fun h => absurd rfl h, fun _ => ⟨bw, Rw, rows, order, pl, T, .slice an Rw.length cn, .slice (some ⟨bo, 0, none⟩) m m, ov, bp, bt, rfl, ?_⟩, hE2.ext hk28'⟩
 have hw1 := hE2.size
 refine ⟨hmm, by simp; omega, hRows, hR, hPw, hO, hPl, hS, hk8.blk hBw7 hwt, ?_, ?_, ?_, ?_, hk8.blk hBp7 hpt, hBt8, ?_⟩
 · exact (hu.ext (stable_sl stable_int) hk28').wide (stable_sl stable_int) (fun b h => by have := hk1.size; omega)
 · exact (hbv7.keep (stable_sl stable_int) hk8 (fun q hq _ h => by rcases hq with h' | h' <;> omega)).wide (stable_sl stable_int) (fun b h => by rcases h with h | h <;> omega)
 · exact own_keep hov7 hk8 (fun g hg h => by have := hog7' g hg; omega)
 · exact fun g hg => by have := hog7' g hg; omega
 omega
open Go.GL
theorem sameD_ok (xs ys : List Int) (u v : Value) (D D' : Nat → Prop) (w : World) (hx : SlR 1 RInt D w u xs) (hy : SlR 1 RInt D' w v ys) : Calls Tryz.prog 14 #[u, v] w (Ret fun r w' => r = .bool (decide (xs = ys)) ∧ Ext w w') := by
 obtain ⟨ao, cx, rfl, hxc, hxm, hxe⟩ := hx
 obtain ⟨bo, cy, rfl, hyc, hym, hye⟩ := hy
 refine G.in2 Tryz.func14 rfl Tryz.ntmps14 rfl (Gs 15 rfl (G.ite0 rfl (fun hne => ?_) (fun heq => ?_)))
 ·
  refine Gs 7 rfl ?_
  have : ¬ xs = ys := fun h => hne (by rw [h])
  refine G.ret1 Tryz.results14 rfl ⟨_, rfl, by rw [decide_eq_false this], Keep.refl _ _⟩
 have hl : xs.length = ys.length := by omega
 refine Gs 11 rfl (G.loop (σ := Nat) (fun k => [(0, .slice ao xs.length cx), (1, .slice bo ys.length cy), (11, .slice ao xs.length cx), (12, .int .i64 xs.length), (13, .int .i64 k)]) (fun k => fun w' => k ≤ xs.length ∧ xs.take k = ys.take k ∧ Ext w w') (fun k => xs.length - k) (0) (Sub.of rfl) (⟨Nat.zero_le _, rfl, Keep.refl _ _⟩) ?_)
 rintro k w1 ⟨hkl, htk, hk1⟩
 refine Gs 6 rfl (G.ite0 rfl (fun hlt => ?_) (fun hge => ?_))
 ·
  obtain ⟨x, hx⟩ : ∃ x, xs[k]? = some x := ⟨_, List.getElem?_eq_getElem (by omega)⟩
  obtain ⟨y, hy⟩ : ∃ y, ys[k]? = some y := ⟨_, List.getElem?_eq_getElem (by omega)⟩
  obtain ⟨b1, o1, c1, hao, _, hcl1, hcs1, rfl⟩ := hxe k x hx
  obtain ⟨b2, o2, c2, hbo, _, hcl2, hcs2, rfl⟩ := hye k y hy
  have hcs1' := hk1.cells hcs1 (fun h => h)
  have hcs2' := hk1.cells hcs2 (fun h => h)
  refine Gs 11 rfl (Qt (by kernel_rfl) (Gs 2 rfl (G.opQ rfl rfl (fun w1 hw1 => R.indexS Tryz.runUnderlying49 Tryz.sizeOf3 rfl rfl hao (by omega)) (G.ldQ rfl Tryz.isAgg3 (fun w1 hw1 => (hw1.cell (hcs1' 0 _ rfl) (fun h => h))) (Gs 2 rfl (G.opQ rfl rfl (fun w1 hw1 => R.indexS Tryz.runUnderlying49 Tryz.sizeOf3 rfl rfl hbo (by omega)) (G.ldQ rfl Tryz.isAgg3 (fun w1 hw1 => (hw1.cell (hcs2' 0 _ rfl) (fun h => h))) (Gs 1 rfl (G.nilQ (fun w2 hk2 => ?_))))))))))
  refine Gs 1 rfl (G.ite0 rfl (fun hd => ?_) (fun he => ?_))
  ·
   have : ¬ xs = ys := by
    rintro rfl
    rw [hx] at hy
    exact hd (Option.some.inj hy)
   refine Gs 11 rfl (G.ret1 Tryz.results14 rfl ⟨_, rfl, by rw [decide_eq_false this], hk1.ext hk2⟩)
  have hxy : x = y := Decidable.not_not.1 he
  refine Ga 7 rfl (by omega) (G.back (k + 1) (Sub.of rfl) (⟨by omega, ?_, hk1.ext hk2⟩) (by first | omega | (dsimp only; omega)))
  obtain ⟨h1, h2⟩ := List.getElem?_eq_some_iff.1 hx
  obtain ⟨h3, h4⟩ := List.getElem?_eq_some_iff.1 hy
  rw [List.take_succ_eq_append_getElem h1, List.take_succ_eq_append_getElem h3, htk, h2, h4, hxy]
 have hkk : k = xs.length := by omega
 have : xs = ys := by
  rw [hkk, List.take_length] at htk
  rw [hl, List.take_length] at htk
  exact htk
 refine Gs 11 rfl (G.ret1 Tryz.results14 rfl ⟨_, rfl, by rw [decide_eq_true this], hk1⟩)
theorem samePairs_ok (xs ys : List (Int × Int)) (u v : Value) (D D' : Nat → Prop) (w : World) (hx : SlR 2 RPair D w u xs) (hy : SlR 2 RPair D' w v ys) : Calls Tryz.prog 12 #[u, v] w (Ret fun r w' => r = .bool (decide (xs = ys)) ∧ Ext w w') := by
 obtain ⟨ao, cx, rfl, hxc, hxm, hxe⟩ := hx
 obtain ⟨bo, cy, rfl, hyc, hym, hye⟩ := hy
 refine G.in2 Tryz.func12 rfl Tryz.ntmps12 rfl (Gs 15 rfl (G.ite0 rfl (fun hne => ?_) (fun heq => ?_)))
 ·
  refine Gs 7 rfl ?_
  have : ¬ xs = ys := fun h => hne (by rw [h])
  refine G.ret1 Tryz.results12 rfl ⟨_, rfl, by rw [decide_eq_false this], Keep.refl _ _⟩
 have hl : xs.length = ys.length := by omega
 refine Gs 11 rfl (G.loop (σ := Nat) (fun k => [(0, .slice ao xs.length cx), (1, .slice bo ys.length cy), (11, .slice ao xs.length cx), (12, .int .i64 xs.length), (13, .int .i64 k)]) (fun k => fun w' => k ≤ xs.length ∧ xs.take k = ys.take k ∧ Ext w w') (fun k => xs.length - k) (0) (Sub.of rfl) (⟨Nat.zero_le _, rfl, Keep.refl _ _⟩) ?_)
 rintro k w1 ⟨hkl, htk, hk1⟩
 refine Gs 6 rfl (G.ite0 rfl (fun hlt => ?_) (fun hge => ?_))
 ·
  obtain ⟨x, hx⟩ : ∃ x, xs[k]? = some x := ⟨_, List.getElem?_eq_getElem (by omega)⟩
  obtain ⟨y, hy⟩ : ∃ y, ys[k]? = some y := ⟨_, List.getElem?_eq_getElem (by omega)⟩
  obtain ⟨b1, o1, c1, hao, _, hcl1, hcs1, rfl⟩ := hxe k x hx
  obtain ⟨b2, o2, c2, hbo, _, hcl2, hcs2, rfl⟩ := hye k y hy
  have hcs1' := hk1.cells hcs1 (fun h => h)
  have hcs2' := hk1.cells hcs2 (fun h => h)
  refine Gs 11 rfl (Qt (by kernel_rfl) (Gs 2 rfl (G.opQ rfl rfl (fun w1 hw1 => R.indexS Tryz.runUnderlying35 Tryz.sizeOf43 rfl rfl hao (by omega)) (G.opQ rfl rfl (fun w1 hw1 => R.loadK Tryz.isAgg43 Tryz.sizeOf43 rfl (by rfl) (hw1.cells hcs1' (fun h => h))) (Gs 2 rfl (G.opQ rfl rfl (fun w1 hw1 => R.indexS Tryz.runUnderlying35 Tryz.sizeOf43 rfl rfl hbo (by omega)) (G.opQ rfl rfl (fun w1 hw1 => R.loadK Tryz.isAgg43 Tryz.sizeOf43 rfl (by rfl) (hw1.cells hcs2' (fun h => h))) (G.opQ rfl rfl (fun w1 hw1 => R.neP Tryz.underlying43 Tryz.underlying3 (by kernel_rfl) (by kernel_rfl) Tryz.isAgg3 (by kernel_rfl) rfl rfl) ?_))))))))
  refine G.nilQ (fun w2 hk2 => (Gs 1 rfl (G.ite0 rfl (fun hd => ?_) (fun he => ?_))))
  ·
   have : ¬ xs = ys := by
    rintro rfl
    rw [hx] at hy
    exact hd (Option.some.inj hy)
   refine Gs 11 rfl (G.ret1 Tryz.results12 rfl ⟨_, rfl, by rw [decide_eq_false this], hk1.ext hk2⟩)
  have hxy : x = y := Decidable.not_not.1 he
  refine Ga 7 rfl (by omega) (G.back (k + 1) (Sub.of rfl) (⟨by omega, ?_, hk1.ext hk2⟩) (by first | omega | (dsimp only; omega)))
  obtain ⟨h1, h2⟩ := List.getElem?_eq_some_iff.1 hx
  obtain ⟨h3, h4⟩ := List.getElem?_eq_some_iff.1 hy
  rw [List.take_succ_eq_append_getElem h1, List.take_succ_eq_append_getElem h3, htk, h2, h4, hxy]
 have hkk : k = xs.length := by omega
 have : xs = ys := by
  rw [hkk, List.take_length] at htk
  rw [hl, List.take_length] at htk
  exact htk
 refine Gs 11 rfl (G.ret1 Tryz.results12 rfl ⟨_, rfl, by rw [decide_eq_true this], hk1⟩)
structure FrontRows (Rw : List (List Int)) (root n : Nat) (F : List (List Int)) : Prop where
 len : F.length = n
 sorted : ∀ (x : Nat) r, F[x]? = some r → r.Pairwise (· < ·)
 mem : ∀ (x : Nat) r, F[x]? = some r → ∀ y : Int, y ∈ r ↔ ∃ b : Nat, y = (b : Int) ∧ Front Rw root x b
 short : ∀ (x : Nat) r, F[x]? = some r → r.length ≤ 1000000
def N0 (Rw : List (List Int)) (root : Nat) (order : List Nat) (i x b : Nat) : Prop := ∃ j, j < i ∧ order[j]? = some b ∧ Front Rw root x b
def N1 (Rw : List (List Int)) (root : Nat) (order : List Nat) (i b : Nat) (r : List Int) (j x b' : Nat) : Prop := N0 Rw root order i x b' ∨ (b' = b ∧ ∃ a : Nat, (a : Int) ∈ r.take j ∧ Dfs.Reach Rw root a ∧ Thru Rw root b a x)
theorem frontiers_ok {B n root : Nat} {es : List (Int × Int)} {bw : Nat} {Rw Pw : List (List Int)} {order : List Nat} {pl T : List Int} {nv bv ov : Value} {bp bt : Nat} (w : World) (hp : Prep B w n root es bw Rw Pw order pl T nv bv ov bp bt) (hsm : n ≤ 1000) :
  Calls Tryz.prog 26 #[.pointer (some ⟨bw, 0, none⟩)] w (Ret fun u w' => ∃ F, FrontRows Rw root n F ∧ SlR 1 (RSl 1 RInt) (fun b => w.heap.size ≤ b) w' u F ∧ Ext w w') := by
 have hRl := hp.succ.len
 have hnv := hp.hnv
 obtain ⟨na, nc, rfl, hnl, hnm, _⟩ := hnv
 have hbv := hp.hbv
 obtain ⟨ba, bc, rfl, hblc, hbcm, hbel⟩ := hbv
 have hPl := hp.back.len
 have hW := hp.hw
 have hBw := hW.lt
 have hreach : ∀ x, Dfs.Reach Rw root x → x < n := fun x hx => by rw [← hRl]; exact hx.lt hp.rows (by rw [hRl]; exact hp.hroot)
 have hol : order.length ≤ n := nodup_le n _ hp.ord.nodup (fun x hx => hreach x ((hp.ord.mem x).1 hx))
 have hne : order ≠ [] := by
  intro h
  have := hp.ord.head
  rw [h] at this
  cases this
 obtain ⟨g, cap, sp, rfl, _, hnc, hcm, hBg, hcl⟩ := own_open1 hp.hov hne
 refine G.in1 Tryz.func26 rfl Tryz.ntmps26 rfl (Gs 10 rfl (G.ld rfl Tryz.isAgg80 (hW.cells 0 _ rfl) (Gs 1 rfl (G.mem rfl rfl (M.make Tryz.underlying80 Tryz.el49 rfl rfl (by omega) (by omega) (madeNil Rw.length)) ?_))))
 rintro _ w1 ⟨bo, rfl, hbo, hs1, hB1, hk1⟩
 rw [hRl] at hB1 ⊢
 refine Gs 9 rfl (G.ld rfl Tryz.isAgg49 ((hk1.blk hW (fun h => h)).cells 2 _ rfl) (Gs 5 rfl ?_))
 have hM1 : Mat (Value.int .i64) 3 49 w1.heap.size w1 bo (List.replicate n (.slice none 0 0)) (List.replicate n ([] : List Int)) := Mat.start hB1
 refine G.loop (σ := Nat × List Value × List (List Int)) (fun ⟨i, rv, rows⟩ => [(0, .pointer (some ⟨bw, 0, none⟩)), (3, .slice (some ⟨bo, 0, none⟩) n n), (20, .slice (some ⟨g, 0, none⟩) order.length cap), (21, .int .i64 order.length), (22, .int .i64 i)]) (fun ⟨i, rv, rows⟩ => fun w' => i ≤ order.length ∧ Noted n rows (N0 Rw root order i) ∧ (∀ (x : Nat) r, rows[x]? = some r → r.length ≤ i * n) ∧ Mat (Value.int .i64) 3 49 w1.heap.size w' bo rv rows ∧ Keep (fun q => q = bo) w1 w') (fun ⟨i, rv, rows⟩ => order.length - i) ((0, List.replicate n (.slice none 0 0), List.replicate n [])) (Sub.of rfl) (⟨Nat.zero_le _, Noted.start.congr (fun x b => ⟨fun h => h.elim, fun ⟨j, h, _⟩ => absurd h (Nat.not_lt_zero _)⟩), fun x r hr => by rw [List.eq_of_mem_replicate (List.mem_of_getElem? hr)]; exact Nat.zero_le _, hM1, Keep.refl _ _⟩) ?_
 rintro ⟨i, rv, rows⟩ w2 ⟨hio, hN, hsh, hM, hk2⟩
 show G _ _ _ _ _ [(0, .pointer (some ⟨bw, 0, none⟩)), (3, .slice (some ⟨bo, 0, none⟩) n n), (20, .slice (some ⟨g, 0, none⟩) order.length cap), (21, .int .i64 order.length), (22, .int .i64 i)] _
 refine Gs 6 rfl (G.ite0 rfl (fun hlt => ?_) (fun hge => ?_))
 ·
  obtain ⟨b, hb⟩ : ∃ b, order[i]? = some b := ⟨_, List.getElem?_eq_getElem (by omega)⟩
  have hbr : Dfs.Reach Rw root b := (hp.ord.mem b).1 (List.mem_of_getElem? hb)
  have hbn := hreach b hbr
  have hE2 : Ext w w2 := hk1.trans hk2 (fun q hq h => by have h : q = bo := h; omega)
  have hcb : (order.map encNum ++ sp)[i]? = some (encNum b) := by
   rw [List.getElem?_append_left (by simp; omega), List.getElem?_map, hb]; rfl
  obtain ⟨r, hr⟩ : ∃ r, Pw[b]? = some r := ⟨_, List.getElem?_eq_getElem (by omega)⟩
  obtain ⟨b1, o1, cs1, hba, _, _, hcs, hRs⟩ := hbel b r hr
  obtain ⟨rv1, rfl, ra, rc, rfl, hrlc, hrcm, hrel⟩ := hRs
  have hrs := hp.back.short b r hr
  have hcs2 := hE2.cells hcs (fun h => h)
  have hW2 := hE2.blk hW (fun h => h)
  have hin : (i + 1) * n ≤ 1000000 := by
   have h1 : (i + 1) * n ≤ n * n := Nat.mul_le_mul_right _ (by omega)
   have h2 : n * n ≤ 1000 * 1000 := Nat.mul_le_mul hsm hsm
   exact Nat.le_trans h1 h2
  have hi1 : (i + 1) * n = i * n + n := Nat.succ_mul i n
  refine Ga 7 rfl (by omega) (G.ld rfl Tryz.isAgg3 ((hE2.blk hBg (fun h => h)).cells.el1 i rfl hcb) (Gs 8 rfl (G.ld rfl Tryz.isAgg80 (hW2.cells 1 _ rfl) (Gs 1 rfl (G.ops1 rfl rfl (R.indexS Tryz.runUnderlying80 Tryz.sizeOf49 rfl rfl hba (by omega)) (G.ld rfl Tryz.isAgg49 (hcs2.el1 (cs := [_]) 0 rfl rfl) (Gs 5 rfl (G.loop (σ := Nat × List Value × List (List Int)) (fun ⟨j, rv, rows⟩ => [(0, .pointer (some ⟨bw, 0, none⟩)), (3, .slice (some ⟨bo, 0, none⟩) n n), (20, .slice (some ⟨g, 0, none⟩) order.length cap), (21, .int .i64 order.length), (22, .int .i64 i), (5, .int .i64 b), (32, .slice ra r.length rc), (33, .int .i64 r.length), (34, .int .i64 j)]) (fun ⟨j, rv, rows⟩ => fun w' => j ≤ r.length ∧ Noted n rows (N1 Rw root order i b r j) ∧ (∀ (x : Nat) q, rows[x]? = some q → q.length ≤ i * n + j) ∧ Mat (Value.int .i64) 3 49 w1.heap.size w' bo rv rows ∧ Keep (fun q => q = bo) w1 w') (fun ⟨j, rv, rows⟩ => r.length - j) ((0, rv, rows)) (Sub.of rfl) (⟨Nat.zero_le _, hN.congr (fun x b' => ⟨.inl, fun h => h.elim id (fun ⟨_, a, h, _⟩ => by simp at h)⟩), hsh, hM, hk2⟩) ?_))))))))
  rintro ⟨j, rv, rows⟩ w3 ⟨hjr, hN3, hsh3, hM3, hk3⟩
  show G _ _ _ _ _ [(0, .pointer (some ⟨bw, 0, none⟩)), (3, .slice (some ⟨bo, 0, none⟩) n n), (20, .slice (some ⟨g, 0, none⟩) order.length cap), (21, .int .i64 order.length), (22, .int .i64 i), (5, .int .i64 b), (32, .slice ra r.length rc), (33, .int .i64 r.length), (34, .int .i64 j)] _
  have hE3 : Ext w w3 := hk1.trans hk3 (fun q hq h => by have h : q = bo := h; omega)
  have hW3 := hE3.blk hW (fun h => h)
  refine Gs 6 rfl (G.ite0 rfl (fun hjl => ?_) (fun hjg => ?_))
  ·
   obtain ⟨y, hy⟩ : ∃ y, r[j]? = some y := ⟨_, List.getElem?_eq_getElem (by omega)⟩
   obtain ⟨a, rfl, hab⟩ := (hp.back.mem b r hr y).1 (List.mem_of_getElem? hy)
   have han : a < n := by
    obtain ⟨r', h1, _⟩ := hab
    rw [← hRl]; exact (List.getElem?_eq_some_iff.1 h1).1
   obtain ⟨be, oe, ce, hra, _, hcel, hce, rfl⟩ := hrel j _ hy
   have hce3 := hE3.cells hce (fun h => h)
   have hpll := hp.place.len
   have htk : ∀ q : Nat, (q : Int) ∈ r.take (j + 1) ↔ (q : Int) ∈ r.take j ∨ q = a := by
    intro q
    obtain ⟨hjlt, hje⟩ := List.getElem?_eq_some_iff.1 hy
    rw [List.take_succ_eq_append_getElem hjlt, List.mem_append, List.mem_singleton, hje]
    constructor
    ·
     rintro (h | h)
     · exact .inl h
     exact .inr (Int.ofNat.inj h)
    rintro (h | h)
    · exact .inl h
    exact .inr (by rw [h])
   refine Gs 6 rfl (G.ops1 rfl rfl (R.indexS Tryz.runUnderlying49 Tryz.sizeOf3 rfl rfl hra (by omega)) (G.ld rfl Tryz.isAgg3 (hce3.el1 (cs := [_]) 0 rfl rfl) (Gs 9 rfl (G.ld rfl Tryz.isAgg49 (hW3.cells 3 _ rfl) (Ga 2 rfl (by omega) (G.ld rfl Tryz.isAgg3 ((hE3.blk hp.hP (fun h => h)).cells.el1 a rfl (map_at (lk_lt (by omega)))) (Gs 3 rfl (G.ite0 rfl (fun hpn => ?_) (fun hpp => ?_)))))))))
   ·
    have hna : ¬ Dfs.Reach Rw root a := fun h => by have := reach_place hp.ord hp.place h; omega
    refine Ga 8 rfl (by omega) (G.back ((j + 1, rv, rows)) (Sub.of rfl) (⟨by omega, hN3.congr (fun x b' => ?_), fun x q hq => by have := hsh3 x q hq; omega, hM3, hk3⟩) (by first | omega | (dsimp only; omega)))
    unfold N1
    constructor
    ·
     rintro (h | ⟨h1, c, h2, h3⟩)
     · exact .inl h
     exact .inr ⟨h1, c, (htk c).2 (.inl h2), h3⟩
    rintro (h | ⟨h1, c, h2, h3⟩)
    · exact .inl h
    rcases (htk c).1 h2 with h4 | rfl
    · exact .inr ⟨h1, c, h4, h3⟩
    exact absurd h3.1 hna
   have har : Dfs.Reach Rw root a := (hp.ord.mem a).1 (List.mem_of_getElem? (placeAt hp.place (a := a) (by omega)).1)
   have hcnt : i * n + j + 1 ≤ 1000000 := by omega
   refine Gs 9 rfl (G.loop (σ := Int × List Value × List (List Int)) (fun ⟨x, rv, rows⟩ => [(0, .pointer (some ⟨bw, 0, none⟩)), (3, .slice (some ⟨bo, 0, none⟩) n n), (20, .slice (some ⟨g, 0, none⟩) order.length cap), (21, .int .i64 order.length), (22, .int .i64 i), (5, .int .i64 b), (32, .slice ra r.length rc), (33, .int .i64 r.length), (34, .int .i64 j), (8, .int .i64 x)]) (fun ⟨x, rv, rows⟩ => fun w' => At Rw root T b a x ∧ Noted n rows (fun y b' => N1 Rw root order i b r j y b' ∨ (b' = b ∧ Vis Rw root x a y)) ∧ (∀ (y : Nat) q, rows[y]? = some q → q.length ≤ i * n + j + 1 ∧ (¬ Vis Rw root x a y → q.length ≤ i * n + j)) ∧ Mat (Value.int .i64) 3 49 w1.heap.size w' bo rv rows ∧ Keep (fun q => q = bo) w1 w') (fun ⟨x, rv, rows⟩ => (if x < 0 then 0 else (lk pl x.toNat).toNat + 1)) (((a : Int), rv, rows)) (Sub.of rfl) (⟨At.start hp.sol hab har hbn, hN3.congr (fun y b' => ⟨.inl, fun h => h.elim id (fun h => absurd h.2 (Vis.start a y))⟩), fun y q hq => ⟨by have := hsh3 y q hq; omega, fun _ => hsh3 y q hq⟩, hM3, hk3⟩) ?_)
   rintro ⟨x, rv, rows⟩ w4 ⟨hA, hN4, hsh4, hM4, hk4⟩
   show G _ _ _ _ _ [(0, .pointer (some ⟨bw, 0, none⟩)), (3, .slice (some ⟨bo, 0, none⟩) n n), (20, .slice (some ⟨g, 0, none⟩) order.length cap), (21, .int .i64 order.length), (22, .int .i64 i), (5, .int .i64 b), (32, .slice ra r.length rc), (33, .int .i64 r.length), (34, .int .i64 j), (8, .int .i64 x)] _
   have hE4 : Ext w w4 := hk1.trans hk4 (fun q hq h => by have h : q = bo := h; omega)
   have hW4 := hE4.blk hW (fun h => h)
   have hT4 := hE4.blk hp.hT (fun h => h)
   have hTl := hp.sol.len
   have hexit : (x < 0 ∨ x = lk T b) → Noted n rows (N1 Rw root order i b r (j + 1)) := fun hx => hN4.congr (fun y b' => by
    have hv := Vis.done hp.sol hp.ord hp.place hA hbr hbn hx y
    constructor
    ·
     rintro ((h | ⟨h1, c, h2, h3⟩) | ⟨rfl, h2⟩)
     · exact .inl h
     · exact .inr ⟨h1, c, (htk c).2 (.inl h2), h3⟩
     exact .inr ⟨rfl, a, (htk a).2 (.inr rfl), har, hv.1 h2⟩
    ·
     rintro (h | ⟨h1, c, h2, h3⟩)
     · exact .inl (.inl h)
     ·
      rcases (htk c).1 h2 with h4 | rfl
      · exact .inl (.inr ⟨h1, c, h4, h3⟩)
      ·
       exact .inr ⟨h1, hv.2 h3.2⟩)
   refine Gs 6 rfl (G.cases (p := 0 ≤ x) (fun hx0 => ?_) (fun hx0 => ?_))
   ·
    refine G.yes rfl rfl (decide_eq_true hx0) (Gs 1 rfl (G.yes rfl rfl (decide_eq_true hx0) (Gs 1 rfl (G.yes rfl rfl (decide_eq_true hx0) (Gs 1 rfl (G.yes rfl rfl (decide_eq_true hx0) (Gs 1 rfl (G.yes rfl rfl (decide_eq_true hx0) (G.ld rfl Tryz.isAgg49 (hW4.cells 4 _ rfl) (G.yes rfl rfl (decide_eq_true hx0) (Gs 1 rfl (G.yes rfl rfl (decide_eq_true hx0) (Ga 1 rfl (by omega) (G.yes rfl rfl (decide_eq_true hx0) (G.ld rfl Tryz.isAgg3 (hT4.cells.el1 b rfl (map_at (lk_lt (by omega)))) (G.yes rfl rfl (decide_eq_true hx0) (Gs 1 rfl (G.ops1 rfl rfl (R.pickT rfl (decide_eq_true hx0) rfl) ?_))))))))))))))))))
    refine Gs 2 rfl (G.ite0 rfl (fun hxt => ?_) (fun hxt => ?_))
    ·
     obtain ⟨c, rfl⟩ := Int.eq_ofNat_of_zero_le hx0
     have hcr : Dfs.Reach Rw root c := by
      rcases hA.pos with ⟨h1, _⟩ | ⟨c', h1, h2, _⟩
      · omega
      rw [Int.ofNat.inj h1]; exact h2
     have hcn := hreach c hcr
     have hcp := reach_place hp.ord hp.place hcr
     have hst := Vis.step hp.sol hp.ord hp.place hA hreach
     have hm := Mat.at (i := c) hM4 (by rw [hN4.len]; exact hcn)
     obtain ⟨v, q, hv, hq⟩ := hm
     have hql : q.length ≤ i * n + j := (hsh4 c q hq).2 (fun h => h.2 c rfl (Dom.refl c))
     refine Ga 10 rfl (by omega) (G.ld rfl Tryz.isAgg49 (hM4.out.cells.el1 c rfl hv) (Gs 1 rfl (G.mem rfl rfl (M.buildSlice (cs := [.int .i64 b]) [(0, _)] Tryz.runUnderlying49 Tryz.sizeOf3 Tryz.zeroValue3 (by decide) rfl (by kernel_rfl)) ?_)))
     rintro _ w5 ⟨b5, rfl, hb5, hs5, hB5, hk5⟩
     have hM5 := hM4.ext hk5
     have hrow := hM5.row c v q hv hq
     refine G.mem rfl rfl (M.append Tryz.underlying49 Tryz.el3 rfl (by decide) rfl rfl hrow rfl (Cells.add hB5.cells) (by simp; rfl) (by omega) (by omega)) ?_
     rintro v' w6 ⟨hown6, hfr6, hk6, _⟩
     obtain ⟨av, cv, rfl⟩ := own_form hown6
     have hbo6 : v.ownBlock ≠ some bo := fun h => (hM5.far c v bo hv h).2 rfl
     refine Ga 1 rfl (by omega) (G.mem0 rfl (M.store Tryz.sizeOf49 rfl rfl rfl rfl (hk6.blk hM5.out hbo6) (by rw [hM5.len, hN4.len]; omega)) ?_)
     rintro w7 hW7
     rw [show 0 + (c : Int).toNat * 1 = c from by omega] at hW7
     have hk47 : Keep (fun q => v.ownBlock = some q ∨ q = bo) w4 w7 := ((hk5.mono (fun _ _ h => h.elim)).trans (hk6.mono (fun _ _ h => .inl h)) (fun _ _ h => h)).trans hW7.2.2 (fun _ _ h => .inr h)
     have hk17 : Keep (fun q => q = bo) w1 w7 := hk4.trans hk47 (fun q' hq' h => by
      rcases h with h | h
      · have := (hM4.far c v q' hv h).1; omega
      ·
       exact h)
     have hE7 : Ext w w7 := hk1.trans hk17 (fun q hq h => by have h : q = bo := h; omega)
     refine Gs 7 rfl (G.ld rfl Tryz.isAgg49 ((hE7.blk hW (fun h => h)).cells 4 _ rfl) (Ga 2 rfl (by omega) (G.ld rfl Tryz.isAgg3 ((hE7.blk hp.hT (fun h => h)).cells.el1 c rfl (map_at (lk_lt (by omega)))) (Gs 2 rfl (G.back ((lk T c, rv.set c (.slice av (q.length + 1) cv), rows.set c (q ++ [(b : Int)]))) (Sub.of rfl) (⟨hA.step hp.sol hxt hreach, ?_, ?_, ?_, hk17⟩) (?_))))))
     ·
      refine (hN4.push hq).congr (fun y b' => ?_)
      rw [hst y]
      constructor
      ·
       rintro ((h | ⟨h1, h2⟩) | ⟨h1, h2⟩)
       · exact .inl h
       · exact .inr ⟨h1, .inl h2⟩
       exact .inr ⟨h2, .inr h1⟩
      rintro (h | ⟨h1, h2 | h2⟩)
      · exact .inl (.inl h)
      · exact .inl (.inr ⟨h1, h2⟩)
      exact .inr ⟨h2, h1⟩
     ·
      intro y q' hq'
      by_cases e : c = y
      ·
       subst e
       rw [List.getElem?_set_self (List.getElem?_eq_some_iff.1 hq).1] at hq'
       cases hq'
       rw [List.length_append, List.length_singleton]
       exact ⟨by omega, fun h => absurd ((hst c).2 (.inr rfl)) h⟩
      rw [List.getElem?_set_ne e] at hq'
      have h1 := hsh4 y q' hq'
      exact ⟨h1.1, fun h => h1.2 (fun h2 => h ((hst y).2 (.inl h2)))⟩
     · exact hM5.push (by have := hk5.size; have := hk4.size; omega) hv hq hown6 hfr6 hk6 hW7
     show (if lk T c < 0 then 0 else (lk pl (lk T c).toNat).toNat + 1) < (if (c : Int) < 0 then 0 else (lk pl (c : Int).toNat).toNat + 1)
     have e1 : ¬ (c : Int) < 0 := by omega
     rw [if_neg e1, Int.toNat_natCast]
     rcases hp.sol.tree_or hcr hcn with ⟨_, h5⟩ | ⟨p, e, h5, h6, h7, h8, h9, h10⟩
     · rw [h5, if_pos (show (-1 : Int) < 0 from by decide)]; omega
     have := reach_place hp.ord hp.place h9
     have e2 : ¬ (p : Int) < 0 := by omega
     rw [h5, if_neg e2, Int.toNat_natCast]; omega
    refine Ga 10 rfl (by omega) (G.back ((j + 1, rv, rows)) (Sub.of rfl) (⟨by omega, hexit (.inr (by simpa using hxt)), fun y q hq => by have := (hsh4 y q hq).1; omega, hM4, hk4⟩) (by first | omega | (dsimp only; omega)))
   refine G.no rfl rfl (decide_eq_false hx0) rfl (G.no rfl rfl (decide_eq_false hx0) rfl (G.no rfl rfl (decide_eq_false hx0) rfl (G.no rfl rfl (decide_eq_false hx0) rfl (G.no rfl rfl (decide_eq_false hx0) rfl (G.no rfl rfl (decide_eq_false hx0) rfl (G.no rfl rfl (decide_eq_false hx0) rfl (G.no rfl rfl (decide_eq_false hx0) rfl (G.no rfl rfl (decide_eq_false hx0) rfl (G.ops1 rfl rfl (R.pickF rfl (decide_eq_false hx0) rfl) (Gs 2 rfl (G.ff rfl (rfl) (Ga 10 rfl (by omega) (G.back ((j + 1, rv, rows)) (Sub.of rfl) (⟨by omega, hexit (.inl (by omega)), fun y q hq => by have := (hsh4 y q hq).1; omega, hM4, hk4⟩) (by first | omega | (dsimp only; omega)))))))))))))))
  have hjr' : j = r.length := by omega
  subst hjr'
  refine Ga 10 rfl (by omega) (G.back ((i + 1, rv, rows)) (Sub.of rfl) (⟨by omega, hN3.congr (fun x b' => ?_), fun x q hq => by have := hsh3 x q hq; omega, hM3, hk3⟩) (by first | omega | (dsimp only; omega)))
  unfold N1 N0 Front
  rw [List.take_length]
  constructor
  ·
   rintro (⟨k, h1, h2, h3⟩ | ⟨rfl, a, h2, h3⟩)
   · exact ⟨k, by omega, h2, h3⟩
   obtain ⟨a', h4, h5⟩ := (hp.back.mem b' r hr _).1 h2
   have := Int.ofNat.inj h4
   subst this
   exact ⟨i, by omega, hb, a, h3.1, h5, h3.2⟩
  rintro ⟨k, h1, h2, h3⟩
  by_cases e : k = i
  ·
   subst e
   rw [hb] at h2
   cases h2
   obtain ⟨a, h4, h5, h6⟩ := h3
   exact .inr ⟨rfl, a, (hp.back.mem b r hr _).2 ⟨a, rfl, h5⟩, h4, h6⟩
  exact .inl ⟨k, by omega, h2, h3⟩
 have hio' : i = order.length := by omega
 subst hio'
 have hNF : Noted n rows (Front Rw root) := hN.congr (fun x b => by
  constructor
  · rintro ⟨k, _, _, h⟩; exact h
  ·
   intro h
   have h' := h
   obtain ⟨a, h1, h2, _⟩ := h'
   obtain ⟨k, hk⟩ := List.mem_iff_getElem?.1 ((hp.ord.mem b).2 (.step h1 h2))
   exact ⟨k, (List.getElem?_eq_some_iff.1 hk).1, hk, h⟩)
 have hsq : order.length * n ≤ 1000000 := by
  have h1 : order.length * n ≤ n * n := Nat.mul_le_mul_right _ hol
  have h2 : n * n ≤ 1000 * 1000 := Nat.mul_le_mul hsm hsm
  exact Nat.le_trans h1 h2
 refine Gs 14 rfl (G.loop (σ := Nat × List Value × List (List Int)) (fun ⟨k, rv, rk⟩ => [(3, .slice (some ⟨bo, 0, none⟩) n n), (79, .slice (some ⟨bo, 0, none⟩) n n), (80, .int .i64 n), (81, .int .i64 k)]) (fun ⟨k, rv, rk⟩ => fun w' => k ≤ n ∧ rk.length = n ∧ (∀ (x : Nat) q, rk[x]? = some q → ∃ q', rows[x]? = some q' ∧ q = if x < k then Gr.compactL (sortL q') else q') ∧ Mat (Value.int .i64) 3 49 w1.heap.size w' bo rv rk ∧ Keep (fun q => q = bo) w1 w') (fun ⟨k, rv, rk⟩ => n - k) ((0, rv, rows)) (Sub.of rfl) (⟨Nat.zero_le _, hNF.len, fun x q hq => ⟨q, hq, by rw [if_neg (Nat.not_lt_zero _)]⟩, hM, hk2⟩) ?_)
 rintro ⟨k, rv, rk⟩ w3 ⟨hkn, hrl, hrk, hM3, hk3⟩
 show G _ _ _ _ _ [(3, .slice (some ⟨bo, 0, none⟩) n n), (79, .slice (some ⟨bo, 0, none⟩) n n), (80, .int .i64 n), (81, .int .i64 k)] _
 refine Gs 6 rfl (G.ite0 rfl (fun hlt3 => ?_) (fun hge3 => ?_))
 ·
  have hm := Mat.at (i := k) hM3 (by omega)
  obtain ⟨v, q, hv, hq⟩ := hm
  obtain ⟨q', hq', hqe⟩ := hrk k q hq
  rw [if_neg (by omega)] at hqe
  subst hqe
  have hrow := hM3.row k v q hv hq
  have hqs := hsh k q hq'
  refine Ga 8 rfl (by omega) (G.ld rfl Tryz.isAgg49 (hM3.out.cells.el1 k rfl hv) (Gs 7 rfl (G.call rfl Tryz.call64 (sortI_ok q v _ w3 hrow (by omega)) ?_)))
  rintro _ w4 ⟨rfl, hrow4, hk4⟩
  have hrow4' : w4.ownsRow 0 3 1 v q.length ((sortL q).flatMap encI) := by rw [← mapI]; exact hrow4
  refine Gs 6 rfl (G.call rfl Tryz.call65 (compactI_ok (sortL q) v _ w4 hrow4' (by rw [sortL_len]; omega)) ?_)
  rintro u w5 ⟨hrow5, hub, hk5⟩
  rw [← mapI] at hrow5
  obtain ⟨au, cu, rfl⟩ := own_form hrow5
  have hbov : v.ownBlock ≠ some bo := fun h => (hM3.far k v bo hv h).2 rfl
  have hk35 : Keep (fun q => v.ownBlock = some q) w3 w5 := hk4.trans hk5 (fun _ _ h => h)
  refine Ga 1 rfl (by omega) (G.mem0 rfl (M.store Tryz.sizeOf49 rfl rfl rfl rfl (hk35.blk hM3.out hbov) (by rw [hM3.len]; omega)) ?_)
  rintro w6 hW6
  rw [show 0 + (k : Int).toNat * 1 = k from by omega] at hW6
  refine Ga 7 rfl (by omega) (G.back ((k + 1, rv.set k (.slice au (Gr.compactL (sortL q)).length cu), rk.set k (Gr.compactL (sortL q)))) (Sub.of rfl) (⟨by omega, by rw [List.length_set]; exact hrl, ?_, ?_, ?_⟩) (by first | omega | (dsimp only; omega)))
  ·
   intro x q2 hq2
   by_cases e : k = x
   ·
    subst e
    rw [List.getElem?_set_self (by omega)] at hq2
    cases hq2
    exact ⟨q, hq', by rw [if_pos (by omega)]⟩
   rw [List.getElem?_set_ne e] at hq2
   obtain ⟨q3, h1, h2⟩ := hrk x q2 hq2
   refine ⟨q3, h1, ?_⟩
   rw [h2]
   by_cases hxk : x < k
   · rw [if_pos hxk, if_pos (by omega)]
   rw [if_neg hxk, if_neg (by omega)]
  · exact hM3.put (by have := hk3.size; omega) hv hrow5 (.inl hub) hk35 hW6
  have hk36 : Keep (fun q => v.ownBlock = some q ∨ q = bo) w3 w6 := (hk35.mono (fun _ _ h => .inl h)).trans hW6.2.2 (fun _ _ h => .inr h)
  exact hk3.trans hk36 (fun q' hq' h => by
   rcases h with h | h
   · have := (hM3.far k v q' hv h).1; omega
   ·
    exact h)
 have hk' : k = n := by omega
 subst hk'
 have hE3 : Ext w w3 := hk1.trans hk3 (fun q hq h => by have h : q = bo := h; omega)
 refine Gs 12 rfl (G.ret1 Tryz.results26 rfl ⟨_, rfl, rk, ⟨hrl, ?_, ?_, ?_⟩, ?_, hE3⟩)
 ·
  intro x q hq
  obtain ⟨q', h1, h2⟩ := hrk x q hq
  rw [if_pos (by rw [← hrl]; exact (List.getElem?_eq_some_iff.1 hq).1)] at h2
  rw [h2]
  exact (Gr.compactL_strict (le := (· ≤ ·)) (fun a b => Int.le_antisymm) (sortL_sorted q')).imp (fun h => by omega)
 ·
  intro x q hq y
  obtain ⟨q', h1, h2⟩ := hrk x q hq
  rw [if_pos (by rw [← hrl]; exact (List.getElem?_eq_some_iff.1 hq).1)] at h2
  rw [h2, Gr.compactL_mem, sortL_mem]
  exact hNF.mem x q' h1 y
 ·
  intro x q hq
  obtain ⟨q', h1, h2⟩ := hrk x q hq
  rw [if_pos (by rw [← hrl]; exact (List.getElem?_eq_some_iff.1 hq).1)] at h2
  have h3 := Gr.compactL_len (sortL q')
  have h4 := hsh x q' h1
  rw [sortL_len] at h3
  rw [h2]; omega
 exact hM3.sl (fun _ => rfl) (by omega) (fun i v g hv hg => by have := (hM3.far i v g hv hg).1; omega) hrl.symm (by omega) (by omega)
structure Known (n root : Nat) (es : List (Int × Int)) (Rw : List (List Int)) (order : List Nat) (pl T : List Int) : Prop where
 hn : n ≤ 4096
 hroot : root < n
 rows : Dfs.Rows Rw
 succ : Succs n es Rw
 ord : Dfs.Order Rw root order
 place : Dfs.Place n order pl
 sol : Solved Rw root n pl T
theorem Prep.known {B n root : Nat} {es : List (Int × Int)} {bw : Nat} {Rw Pw : List (List Int)} {order : List Nat} {pl T : List Int} {nv bv ov : Value} {bp bt : Nat} {w : World} (h : Prep B w n root es bw Rw Pw order pl T nv bv ov bp bt) : Known n root es Rw order pl T := ⟨h.hn, h.hroot, h.rows, h.succ, h.ord, h.place, h.sol⟩
theorem code_zero {n root : Int} {es : List (Int × Int)} (h : codeOf n es root = 0) : Gr.check n es = 0 ∧ 0 ≤ root ∧ root < n := by
 unfold codeOf at h
 split at h
 · rename_i h1; exact absurd h h1
 rename_i h1
 split at h
 · exact absurd h (by decide)
 exact ⟨by simpa using h1, by omega, by omega⟩
theorem tree_ok (n root : Int) (es : List (Int × Int)) (ev : Value) (D : Nat → Prop) (w : World) (hes : SlR 2 RPair D w ev es) : Calls Tryz.prog 13 #[.agg #[.int .i64 n, ev], .int .i64 root] w (Ret fun v w' => ∃ u, v = .tuple #[u, .int .i64 (codeOf n es root)] ∧ (codeOf n es root ≠ 0 → u = .slice none 0 0) ∧ (codeOf n es root = 0 → ∃ Rw order pl T, Known n.toNat root.toNat es Rw order pl T ∧ SlR 1 RInt (fun b => w.heap.size ≤ b) w' u T) ∧ Ext w w') := by
 have hes' := hes
 obtain ⟨ao, cap, rfl, _⟩ := hes'
 refine G.in2 Tryz.func13 rfl Tryz.ntmps13 rfl (Gs 2 rfl (G.mem rfl rfl (M.box rfl rfl) ?_))
 rintro _ w1 ⟨b, rfl, hb, hs1, hB1, hk1⟩
 refine Gs 6 rfl (G.ldK rfl Tryz.isAgg37 Tryz.sizeOf37 hB1.cells rfl (Gs 1 rfl (G.call rfl Tryz.call29 (prepare_ok n root es _ D w1 (hes.ext stable_pair hk1)) ?_)))
 rintro _ w2 ⟨u, rfl, hu0, hu1, hk2⟩
 have hE2 := hk1.ext hk2
 refine Gs 14 rfl (G.ite0 rfl (fun hc => ?_) (fun hc => ?_))
 · refine Gs 9 rfl (G.ret2 Tryz.results13 rfl rfl ⟨_, rfl, .slice none 0 0, rfl, fun _ => rfl, fun h => absurd h hc, hE2⟩)
 have hc0 : codeOf n es root = 0 := by simpa using hc
 obtain ⟨bw, Rw, Pw, order, pl, T, nv, bv, ov, bp, bt, rfl, hp⟩ := hu1 hc0
 have hTl := hp.sol.len
 have hge := hp.ge
 have hnn := hp.hn
 refine Gs 7 rfl (G.ld rfl Tryz.isAgg49 (hp.hw.cells 4 _ rfl) (Gs 5 rfl ?_))
 rw [hc0]
 refine G.ret2 Tryz.results13 rfl rfl ⟨_, rfl, .slice (some ⟨bt, 0, none⟩) n.toNat n.toNat, rfl, fun h => absurd rfl h, fun _ => ⟨Rw, order, pl, T, hp.known, ?_⟩, hE2⟩
 have h1 := SlR.ofBlk1 (R := RInt) (D := fun b => w.heap.size ≤ b) (n := n.toNat) (cap := n.toNat) (l := T) (.int .i64) (fun _ _ => rfl) hp.hT (by have := hk1.size; omega) (by rw [List.take_of_length_le (by simp; omega)]) hTl.symm (by omega) (by omega)
 exact h1
def Turned (es s : List (Int × Int)) : Prop := Simple (es.map fun e => (e.2, e.1)) s
theorem check_turned {n : Int} {es s : List (Int × Int)} (hc : Gr.check n es = 0) (hs : Turned es s) : Gr.check n s = 0 := by
 obtain ⟨h1, h2, h3, h4⟩ := Gr.check_zero hc
 obtain ⟨_, hm, hl⟩ := hs
 have hall : s.all (Gr.okE n) = true := by
  rw [List.all_eq_true]
  intro e he
  obtain ⟨x, hx, rfl⟩ := List.mem_map.1 ((hm e).1 he)
  have := List.all_eq_true.1 h4 x hx
  simp [Gr.okE] at this ⊢
  omega
 rw [List.length_map] at hl
 unfold Gr.check
 rw [if_neg (by omega), if_neg (by omega), hall]
 rfl
theorem backwards_ok (n root : Int) (es : List (Int × Int)) (ev : Value) (D : Nat → Prop) (w : World) (hes : SlR 2 RPair D w ev es) : Calls Tryz.prog 25 #[.agg #[.int .i64 n, ev], .int .i64 root] w (Ret fun v w' => ∃ u, v = .tuple #[u, .int .i64 (codeOf n es root)] ∧ (codeOf n es root ≠ 0 → u = .pointer none) ∧ (codeOf n es root = 0 → ∃ s bw Rw Pw order pl T nv bv ov bp bt, Turned es s ∧ u = .pointer (some ⟨bw, 0, none⟩) ∧ Prep w.heap.size w' n.toNat root.toNat s bw Rw Pw order pl T nv bv ov bp bt) ∧ Ext w w') := by
 have hes' := hes
 obtain ⟨ao, cap, rfl, _⟩ := hes'
 refine G.in2 Tryz.func25 rfl Tryz.ntmps25 rfl (Gs 2 rfl (G.mem rfl rfl (M.box rfl rfl) ?_))
 rintro _ w1 ⟨b, rfl, hb, hs1, hB1, hk1⟩
 refine Gs 6 rfl (G.ldK rfl Tryz.isAgg37 Tryz.sizeOf37 hB1.cells rfl (G.call rfl Tryz.call63 (reverse_ok n es _ D w1 (hes.ext stable_pair hk1)) ?_))
 rintro _ w2 ⟨u, rfl, hu0, hu1, hk2⟩
 have hE2 := hk1.ext hk2
 refine Gs 3 rfl (G.mem rfl rfl (M.alloc (cs := _) Tryz.zeroValue37 rfl) ?_)
 rintro _ w3 ⟨b3, rfl, hb3, hs3, hB3, hk3⟩
 obtain ⟨n', a', l', c', rfl⟩ : ∃ n' a' l' c', u = .agg #[.int .i64 n', .slice a' l' c'] := by
  by_cases h : Gr.check n es = 0
  ·
   obtain ⟨s, v, _, h2, h3⟩ := hu1 h
   obtain ⟨ao, cap, rfl, _⟩ := h3
   exact ⟨_, _, _, _, h2⟩
  exact ⟨_, _, _, _, hu0 h⟩
 refine G.mem0 rfl (M.storeK Tryz.sizeOf37 rfl rfl rfl rfl (by simp [Value.oneCell']) hB3 (by simp)) ?_
 rintro w4 ⟨hs4, hB4, hk4⟩
 have hE4 : Ext w w4 := (hE2.ext hk3).trans hk4 (fun q hq h => by have h : q = b3 := h; have := hE2.size; omega)
 refine Gs 10 rfl (G.ite0 rfl (fun hc => ?_) (fun hc => ?_))
 ·
  have hcode : codeOf n es root = Gr.check n es := by unfold codeOf; rw [if_pos hc]
  refine Gs 9 rfl (G.ret2 Tryz.results25 rfl rfl ⟨_, rfl, .pointer none, by rw [hcode] <;> rfl, fun _ => rfl, fun h => absurd (hcode ▸ h) hc, hE4⟩)
 have hc0 : Gr.check n es = 0 := by simpa using hc
 obtain ⟨s, v, hs, hv, hsl⟩ := hu1 hc0
 have hcs := check_turned hc0 hs
 have hcode : codeOf n s root = codeOf n es root := by unfold codeOf; rw [hcs, hc0]
 have hn' : n' = n ∧ v = .slice a' l' c' := by
  simp at hv
  exact ⟨hv.1, hv.2.symm⟩
 obtain ⟨rfl, rfl⟩ := hn'
 have hsl4 := hsl.ext stable_pair ((hk3.ext (Keep.refl _ _)).trans hk4 (fun q hq h => by have h : q = b3 := h; omega))
 refine Gs 4 rfl (G.ldK rfl Tryz.isAgg37 Tryz.sizeOf37 hB4.cells rfl (Gs 1 rfl (G.call rfl Tryz.call29 (prepare_ok n' root s _ _ w4 hsl4) ?_)))
 rintro _ w5 ⟨u, rfl, hp0, hp1, hk5⟩
 rw [hcode] at hp0 hp1 ⊢
 refine Gs 7 rfl (G.ret2 Tryz.results25 rfl rfl ⟨_, rfl, u, rfl, hp0, fun h => ?_, hE4.ext hk5⟩)
 obtain ⟨bw, Rw, Pw, order, pl, T, nv, bv, ov, bp, bt, hu, hp⟩ := hp1 h
 have hsz := hE4.size
 refine ⟨s, bw, Rw, Pw, order, pl, T, nv, bv, ov, bp, bt, hs, hu, hp.hn, hp.hroot, hp.rows, hp.succ, hp.back, hp.ord, hp.place, hp.sol, hp.hw, hp.hnv.wide (stable_sl stable_int) (fun b h => by omega), hp.hbv.wide (stable_sl stable_int) (fun b h => by omega), hp.hov, fun g hg => by have := hp.hog g hg; omega, hp.hP, hp.hT, by have := hp.ge; omega⟩
theorem isNaN_ok (a : Int) (w : World) : Calls Tryz.prog 103 #[.int .i64 a] w (Ret fun r w' => r = .bool false ∧ Ext w w') := by
 refine G.in1 Tryz.func103 rfl Tryz.ntmps103 rfl (Gs 14 rfl (G.ret1 Tryz.results103 rfl ⟨_, rfl, by simp, Keep.refl _ _⟩))
theorem cmp_ok (a b : Int) (w : World) : Calls Tryz.prog 66 #[.int .i64 a, .int .i64 b] w (Ret fun r w' => r = .int .i64 (if a < b then -1 else if b < a then 1 else 0) ∧ Ext w w') := by
 refine G.in2 Tryz.func66 rfl Tryz.ntmps66 rfl (Gs 8 rfl (G.call rfl Tryz.call103 (isNaN_ok a w) ?_))
 rintro _ w1 ⟨rfl, hk1⟩
 refine Gs 6 rfl (G.call rfl Tryz.call103 (isNaN_ok b w1) ?_)
 rintro _ w2 ⟨rfl, hk2⟩
 refine Gs 9 rfl (G.ff rfl (rfl) (Gs 8 rfl (G.ff rfl (rfl) (Gs 10 rfl (G.ite0 rfl (fun h => ?_) (fun h => ?_))))))
 · refine Gs 7 rfl (G.ret1 Tryz.results66 rfl ⟨_, rfl, by rw [if_pos h], hk1.ext hk2⟩)
 refine Gs 10 rfl (G.ite0 rfl (fun h2 => ?_) (fun h2 => ?_))
 · refine Gs 7 rfl (G.ret1 Tryz.results66 rfl ⟨_, rfl, by rw [if_neg h, if_pos h2], hk1.ext hk2⟩)
 refine Gs 8 rfl (G.ret1 Tryz.results66 rfl ⟨_, rfl, by rw [if_neg h, if_neg (by omega)], hk1.ext hk2⟩)
def cmpL : List Int → List Int → Int
 | [], [] => 0
 | [], _ :: _ => -1
 | _ :: _, [] => 1
 | x :: xs, y :: ys => if x < y then -1 else if y < x then 1 else cmpL xs ys
theorem compareL_ok (xs ys : List Int) (u v : Value) (D D' : Nat → Prop) (w : World) (hx : SlR 1 RInt D w u xs) (hy : SlR 1 RInt D' w v ys) : Calls Tryz.prog 28 #[u, v] w (Ret fun r w' => r = .int .i64 (cmpL xs ys) ∧ Ext w w') := by
 obtain ⟨ao, cx, rfl, hxc, hxm, hxe⟩ := hx
 obtain ⟨bo, cy, rfl, hyc, hym, hye⟩ := hy
 refine G.in2 Tryz.func28 rfl Tryz.ntmps28 rfl (Gs 14 rfl (G.loop (σ := Nat) (fun k => [(0, .slice ao xs.length cx), (1, .slice bo ys.length cy), (9, .slice ao xs.length cx), (10, .int .i64 xs.length), (11, .int .i64 k)]) (fun k => fun w' => k ≤ xs.length ∧ k ≤ ys.length ∧ cmpL (xs.drop k) (ys.drop k) = cmpL xs ys ∧ Ext w w') (fun k => xs.length - k) (0) (Sub.of rfl) (⟨Nat.zero_le _, Nat.zero_le _, rfl, Keep.refl _ _⟩) ?_))
 rintro k w1 ⟨hkx, hky, hc, hk1⟩
 refine Gs 6 rfl (G.ite0 rfl (fun hlt => ?_) (fun hge => ?_))
 ·
  obtain ⟨x, hx⟩ : ∃ x, xs[k]? = some x := ⟨_, List.getElem?_eq_getElem (by omega)⟩
  obtain ⟨b1, o1, c1, hao, _, hcl1, hcs1, rfl⟩ := hxe k x hx
  have hdx : xs.drop k = x :: xs.drop (k + 1) := by
   obtain ⟨h1, h2⟩ := List.getElem?_eq_some_iff.1 hx
   rw [List.drop_eq_getElem_cons h1, h2]
  refine Gs 7 rfl (G.ops1 rfl rfl (R.indexS Tryz.runUnderlying49 Tryz.sizeOf3 rfl rfl hao (by omega)) (G.ld rfl Tryz.isAgg3 ((hk1.cells hcs1 (fun h => h)) 0 _ rfl) (Gs 13 rfl (G.ite0 rfl (fun hgy => ?_) (fun hly => ?_)))))
  ·
   have : ys.drop k = [] := List.drop_of_length_le (by omega)
   refine Gs 12 rfl (G.ret1 Tryz.results28 rfl ⟨_, rfl, by rw [← hc, hdx, this]; rfl, hk1⟩)
  obtain ⟨y, hy⟩ : ∃ y, ys[k]? = some y := ⟨_, List.getElem?_eq_getElem (by omega)⟩
  obtain ⟨b2, o2, c2, hbo, _, hcl2, hcs2, rfl⟩ := hye k y hy
  have hdy : ys.drop k = y :: ys.drop (k + 1) := by
   obtain ⟨h1, h2⟩ := List.getElem?_eq_some_iff.1 hy
   rw [List.drop_eq_getElem_cons h1, h2]
  have hcc : (if x < y then -1 else if y < x then 1 else cmpL (xs.drop (k + 1)) (ys.drop (k + 1))) = cmpL xs ys := by rw [← hc, hdx, hdy]; rfl
  refine Gs 6 rfl (G.ops1 rfl rfl (R.indexS Tryz.runUnderlying49 Tryz.sizeOf3 rfl rfl hbo (by omega)) (G.ld rfl Tryz.isAgg3 ((hk1.cells hcs2 (fun h => h)) 0 _ rfl) (Gs 7 rfl (G.call rfl Tryz.call66 (cmp_ok x y w1) ?_))))
  rintro _ w2 ⟨rfl, hk2⟩
  refine Gs 9 rfl (G.ite0 rfl (fun hn => ?_) (fun he => ?_))
  ·
   refine Gs 12 rfl (G.ret1 Tryz.results28 rfl ⟨_, rfl, ?_, hk1.ext hk2⟩)
   rw [← hcc]
   by_cases h1 : x < y
   · rw [if_pos h1, if_pos h1]
   by_cases h2 : y < x
   · rw [if_neg h1, if_pos h2, if_neg h1, if_pos h2]
   exact absurd (by rw [if_neg h1, if_neg h2]) hn
  have h1 : ¬ x < y := fun h => he (by rw [if_pos h]; decide)
  have h2 : ¬ y < x := fun h => he (by rw [if_neg h1, if_pos h]; decide)
  rw [if_neg h1, if_neg h2] at hcc
  refine Ga 7 rfl (by omega) (G.back (k + 1) (Sub.of rfl) (⟨by omega, by omega, hcc, hk1.ext hk2⟩) (by first | omega | (dsimp only; omega)))
 have hdx : xs.drop k = [] := List.drop_of_length_le (by omega)
 refine Gs 15 rfl (G.ite0 rfl (fun hl2 => ?_) (fun hg2 => ?_))
 ·
  obtain ⟨y, hy⟩ : ∃ y, ys[k]? = some y := ⟨_, List.getElem?_eq_getElem (by omega)⟩
  have hdy : ys.drop k = y :: ys.drop (k + 1) := by
   obtain ⟨h1, h2⟩ := List.getElem?_eq_some_iff.1 hy
   rw [List.drop_eq_getElem_cons h1, h2]
  refine Gs 7 rfl (G.ret1 Tryz.results28 rfl ⟨_, rfl, by rw [← hc, hdx, hdy]; rfl, hk1⟩)
 have hdy : ys.drop k = [] := List.drop_of_length_le (by omega)
 refine Gs 8 rfl (G.ret1 Tryz.results28 rfl ⟨_, rfl, by rw [← hc, hdx, hdy]; rfl, hk1⟩)
end Go.Proofs.YtgojdedggmehiaaGreat
namespace Go.GL
theorem R.sliceArr {P : Program} {env : Env} {w : World} {dst : Option Tmp} {ty : TypeId} {pos : String} {aft : Array Edge} {g : Option (Nat × Bool)} {t e : TypeId} {n k : Nat} {x : Operand} {b o : Nat} (hu : ∀ w, (underlying t).run P w = .ok (.array n e) w) (hs : ∀ w, (sizeOf e).run P w = .ok k w) (hx : ev env x = some (.pointer (some ⟨b, o, none⟩))) :
  Runs P ⟨dst, .slice t x none none none, ty, pos, aft, g⟩ env w (.slice (some ⟨b, o, none⟩) n n) w := by
 intro m a ha
 simp [execOp, ha.eval hx, Instr.sliceAt, Instr.sliceBounds, Instr.sureAddr, hu, hs, Addr.add]
end Go.GL
namespace Go.Proofs.YtgojdedggmehiaaGreat
open Go.GL Go.GL.Dom Go.GL.Dfs
theorem ctl_ok (x y : Int × Int) (w : World) : Calls Tryz.prog 27 #[.agg #[.int .i64 x.1, .int .i64 x.2], .agg #[.int .i64 y.1, .int .i64 y.2]] w (Ret fun r w' => r = .int .i64 (cmpL [x.1, x.2] [y.1, y.2]) ∧ Ext w w') := by
 refine G.in2 Tryz.func27 rfl Tryz.ntmps27 rfl (Gs 2 rfl (G.mem rfl rfl (M.box rfl rfl) ?_))
 rintro _ w1 ⟨b, rfl, hb, hs1, hB1, hk1⟩
 refine G.mem rfl rfl (M.box rfl rfl) ?_
 rintro _ w2 ⟨b', rfl, hb', hs2, hB2, hk2⟩
 refine Gs 4 rfl (Dw (fun _ => True) [] (fun w3 hE3 hh3 => ?_))
 have hX := hE3.blk (hk2.blk hB1 (fun h => h)) (fun h => h)
 have hY := hE3.blk hB2 (fun h => h)
 refine WD.takeW 0 rfl (by kernel_rfl) rfl rfl rfl (fun w1 => R.sliceArr Tryz.runUnderlying43 Tryz.sizeOf3 rfl) (WD.takeW 1 rfl (by kernel_rfl) rfl rfl rfl (fun w1 => R.sliceArr Tryz.runUnderlying43 Tryz.sizeOf3 rfl) (WD.call 2 rfl (by kernel_rfl) rfl rfl rfl (F.call (vs := [_, _]) Tryz.call28 rfl) (compareL_ok [x.1, x.2] [y.1, y.2] _ _ (fun _ => True) (fun _ => True) w3 (SlR.ofBlk1 (n := 2) (cap := 2) (.int .i64) (fun _ _ => rfl) hX trivial rfl rfl (Nat.le_refl 2) (by decide)) (SlR.ofBlk1 (n := 2) (cap := 2) (.int .i64) (fun _ _ => rfl) hY trivial rfl rfl (Nat.le_refl 2) (by decide))) ?_))
 rintro _ w4 ⟨rfl, hk4⟩
 refine ⟨fun _ => trivial, ?_⟩
 refine Ds [3] (by kernel_rfl) rfl (G.done (by kernel_rfl) ?_ _)
 refine Gs 2 rfl (G.ret1 Tryz.results27 rfl ⟨_, rfl, rfl, ((hk1.ext hk2).ext hE3).ext hk4⟩)
theorem cmpL_lt (x y : Int × Int) : cmpL [x.1, x.2] [y.1, y.2] < 0 ↔ lexLt x y := by
 unfold lexLt
 simp only [cmpL]
 split
 · omega
 split
 · omega
 split
 · omega
 split <;> omega
structure Pairs (Rw : List (List Int)) (root n k j : Nat) (r : List Int) (acc : List (Int × Int)) : Prop where
 mem : ∀ e, e ∈ acc ↔ ∃ x b : Nat, e = ((b : Int), (x : Int)) ∧ ((x < k ∧ Front Rw root x b) ∨ (x = k ∧ (b : Int) ∈ r.take j))
 nodup : acc.Nodup
 short : acc.length ≤ k * n + j
theorem Pairs.push {Rw : List (List Int)} {root n k j : Nat} {r : List Int} {acc : List (Int × Int)} {b : Nat} (h : Pairs Rw root n k j r acc) (hs : r.Pairwise (· < ·)) (hb : r[j]? = some (b : Int)) : Pairs Rw root n k (j + 1) r (acc ++ [((b : Int), (k : Int))]) := by
 obtain ⟨hj, hje⟩ := List.getElem?_eq_some_iff.1 hb
 have htk : ∀ y, y ∈ r.take (j + 1) ↔ y ∈ r.take j ∨ y = (b : Int) := by
  intro y
  rw [List.take_succ_eq_append_getElem hj, List.mem_append, List.mem_singleton, hje]
 have hnew : (b : Int) ∉ r.take j := by
  intro h7
  obtain ⟨i, hi, hi2⟩ := List.mem_iff_getElem.1 h7
  rw [List.length_take] at hi
  rw [List.getElem_take] at hi2
  have := List.pairwise_iff_getElem.1 hs i j (by omega) hj (by omega)
  omega
 refine ⟨fun e => ?_, ?_, by have := h.short; rw [List.length_append, List.length_singleton]; omega⟩
 ·
  rw [List.mem_append, List.mem_singleton, h.mem]
  constructor
  ·
   rintro (⟨x, c, h1, h2 | ⟨h2, h3⟩⟩ | rfl)
   · exact ⟨x, c, h1, .inl h2⟩
   · exact ⟨x, c, h1, .inr ⟨h2, (htk _).2 (.inl h3)⟩⟩
   exact ⟨k, b, rfl, .inr ⟨rfl, (htk _).2 (.inr rfl)⟩⟩
  rintro ⟨x, c, h1, h2 | ⟨h2, h3⟩⟩
  · exact .inl ⟨x, c, h1, .inl h2⟩
  rcases (htk _).1 h3 with h4 | h4
  · exact .inl ⟨x, c, h1, .inr ⟨h2, h4⟩⟩
  rw [h4, h2] at h1; exact .inr h1
 rw [List.nodup_append]
 refine ⟨h.nodup, by simp, ?_⟩
 intro a ha c hc
 rw [List.mem_singleton] at hc
 rintro rfl
 obtain ⟨x, d, h1, h2 | ⟨_, h3⟩⟩ := (h.mem _).1 ha
 ·
  rw [hc] at h1
  simp at h1
  have := h1.2
  omega
 rw [hc] at h1
 simp at h1
 have h4 := h1.1
 rw [← h4] at h3
 exact hnew h3
theorem Pairs.next {Rw : List (List Int)} {root n k : Nat} {r : List Int} {acc : List (Int × Int)} (h : Pairs Rw root n k r.length r acc) (hr : ∀ y : Int, y ∈ r ↔ ∃ b : Nat, y = (b : Int) ∧ Front Rw root k b) (hl : r.length ≤ n) (r' : List Int) : Pairs Rw root n (k + 1) 0 r' acc := by
 refine ⟨fun e => ?_, h.nodup, ?_⟩
 ·
  rw [h.mem, List.take_length]
  constructor
  ·
   rintro ⟨x, b, h1, ⟨h2, h3⟩ | ⟨h2, h3⟩⟩
   · exact ⟨x, b, h1, .inl ⟨by omega, h3⟩⟩
   obtain ⟨c, h4, h5⟩ := (hr _).1 h3
   have := Int.ofNat.inj h4
   subst this
   subst h2
   exact ⟨x, b, h1, .inl ⟨by omega, h5⟩⟩
  rintro ⟨x, b, h1, ⟨h2, h3⟩ | ⟨_, h3⟩⟩
  ·
   by_cases e' : x = k
   ·
    subst e'
    exact ⟨x, b, h1, .inr ⟨rfl, (hr _).2 ⟨b, rfl, h3⟩⟩⟩
   exact ⟨x, b, h1, .inl ⟨by omega, h3⟩⟩
  simp at h3
 have := h.short
 have h2 : (k + 1) * n = k * n + n := Nat.succ_mul k n
 omega
theorem Pairs.start (Rw : List (List Int)) (root n : Nat) (r : List Int) : Pairs Rw root n 0 0 r [] := by
 refine ⟨fun e => ?_, List.nodup_nil, Nat.zero_le _⟩
 constructor
 · intro h; cases h
 rintro ⟨x, b, _, ⟨h, _⟩ | ⟨_, h⟩⟩
 · exact absurd h (Nat.not_lt_zero _)
 simp at h
structure CtlList (Rw : List (List Int)) (root : Nat) (S : List (Int × Int)) : Prop where
 sorted : S.Pairwise lexLt
 mem : ∀ e, e ∈ S ↔ ∃ x b : Nat, e = ((b : Int), (x : Int)) ∧ Front Rw root x b
theorem _root_.Go.GL.Dom.Dom.reach {R : List (List Int)} {root x a : Nat} (h : Dom R root x a) (ha : Dfs.Reach R root a) : Dfs.Reach R root x := by
 have h1 : (∃ k, AvN R root x k a) ∨ Dfs.Reach R root x := by
  induction ha with
  | refl =>
   by_cases e : root = x
   · subst e; exact .inr .refl
   exact .inl ⟨0, .start e⟩
  | @step a b ha' he ih =>
   by_cases e : b = x
   · subst e; exact .inr (.step ha' he)
   by_cases hr : ∃ k, AvN R root x k a
   ·
    obtain ⟨k, hk⟩ := hr
    exact .inl ⟨k + 1, .step hk he e⟩
   exact .inr (by
    rcases ih (fun k hk => hr ⟨k, hk⟩) with h2 | h2
    · exact absurd h2 hr
    ·
     exact h2)
 rcases h1 with ⟨k, hk⟩ | h1
 · exact absurd hk (h k)
 exact h1
theorem control_ok (n root : Int) (es : List (Int × Int)) (ev : Value) (D : Nat → Prop) (w : World) (hes : SlR 2 RPair D w ev es) (hsm : n ≤ 1000) : Calls Tryz.prog 11 #[.agg #[.int .i64 n, ev], .int .i64 root] w (Ret fun v w' => ∃ u, v = .tuple #[u, .int .i64 (codeOf n es root)] ∧ (codeOf n es root ≠ 0 → u = .slice none 0 0) ∧ (codeOf n es root = 0 → ∃ s Rw order pl T S, Turned es s ∧ Known n.toNat root.toNat s Rw order pl T ∧ CtlList Rw root.toNat S ∧ SlR 2 RPair (fun b => w.heap.size ≤ b) w' u S) ∧ Ext w w') := by
 have hes' := hes
 obtain ⟨ao, cap, rfl, _⟩ := hes'
 refine G.in2 Tryz.func11 rfl Tryz.ntmps11 rfl (Gs 2 rfl (G.mem rfl rfl (M.box rfl rfl) ?_))
 rintro _ w1 ⟨b, rfl, hb, hs1, hB1, hk1⟩
 refine Gs 6 rfl (G.ldK rfl Tryz.isAgg37 Tryz.sizeOf37 hB1.cells rfl (Gs 1 rfl (G.call rfl Tryz.call25 (backwards_ok n root es _ D w1 (hes.ext stable_pair hk1)) ?_)))
 rintro _ w2 ⟨u, rfl, hu0, hu1, hk2⟩
 have hE2 := hk1.ext hk2
 refine Gs 14 rfl (G.ite0 rfl (fun hc => ?_) (fun hc => ?_))
 · refine Gs 9 rfl (G.ret2 Tryz.results11 rfl rfl ⟨_, rfl, .slice none 0 0, rfl, fun _ => rfl, fun h => absurd h hc, hE2⟩)
 have hc0 : codeOf n es root = 0 := by simpa using hc
 obtain ⟨s, bw, Rw, Pw, order, pl, T, nv, bv, ov, bp, bt, hs, rfl, hp⟩ := hu1 hc0
 obtain ⟨m, rfl⟩ := Int.eq_ofNat_of_zero_le (show 0 ≤ n from by have := code_zero hc0; omega)
 obtain ⟨rt, rfl⟩ := Int.eq_ofNat_of_zero_le (show 0 ≤ root from by have := code_zero hc0; omega)
 simp only [Int.toNat_natCast] at hp
 refine Gs 11 rfl (G.call rfl Tryz.call26 (frontiers_ok w2 hp (by omega)) ?_)
 rintro u w3 ⟨Fr, hF, hu, hk3⟩
 obtain ⟨fa, fc, rfl, hfl, hfm, hfe⟩ := hu
 have hFl := hF.len
 have hE3 := hE2.ext hk3
 have hshort : ∀ (x : Nat) r, Fr[x]? = some r → r.length ≤ m := by
  intro x r hr
  have h1 := nodup_le m (r.map Int.toNat) (by
   rw [List.Nodup, List.pairwise_map]
   refine (hF.sorted x r hr).imp_of_mem ?_
   intro p q hp' hq hpq
   obtain ⟨p, rfl, _⟩ := (hF.mem x r hr _).1 hp'
   obtain ⟨q, rfl, _⟩ := (hF.mem x r hr _).1 hq
   omega) (by
   intro y hy
   obtain ⟨z, hz, rfl⟩ := List.mem_map.1 hy
   obtain ⟨c, rfl, d, h1, h2, _⟩ := (hF.mem x r hr _).1 hz
   have := (Dfs.Reach.step h1 h2).lt hp.rows (by rw [hp.succ.len]; exact hp.hroot)
   rw [hp.succ.len] at this
   omega)
  rwa [List.length_map] at h1
 have hmm : m * m ≤ 1000 * 1000 := Nat.mul_le_mul (by omega) (by omega)
 refine Gs 5 rfl (G.loop (σ := Nat × List (Int × Int) × Value) (fun ⟨k, acc, va⟩ => [(23, .slice fa Fr.length fc), (24, .int .i64 Fr.length), (25, .int .i64 k), (8, va)]) (fun ⟨k, acc, va⟩ => fun w' => k ≤ Fr.length ∧ Pairs Rw rt m k 0 [] acc ∧ w'.ownsRow 0 43 2 va acc.length (acc.flatMap encP) ∧ (∀ g, va.ownBlock = some g → w3.heap.size ≤ g) ∧ Ext w3 w') (fun ⟨k, acc, va⟩ => Fr.length - k) ((0, [], .slice none 0 0)) (Sub.of rfl) (⟨Nat.zero_le _, Pairs.start .., own_nil _ _ _, fun g hg => by simp [Value.ownBlock] at hg, Keep.refl _ _⟩) ?_)
 rintro ⟨k, acc, va⟩ w4 ⟨hkl, hP, hown, hfr, hk4⟩
 show G _ _ _ _ _ [(23, .slice fa Fr.length fc), (24, .int .i64 Fr.length), (25, .int .i64 k), (8, va)] _
 refine Gs 6 rfl (G.ite0 rfl (fun hlt => ?_) (fun hge => ?_))
 ·
  obtain ⟨r, hr⟩ : ∃ r, Fr[k]? = some r := ⟨_, List.getElem?_eq_getElem (by omega)⟩
  obtain ⟨b1, o1, cs1, hfa, _, _, hcs, hRs⟩ := hfe k r hr
  obtain ⟨rv1, rfl, ra, rc, rfl, hrlc, hrcm, hrel⟩ := hRs
  have hcs4 := hk4.cells hcs (fun h => h)
  have hrm := hshort k r hr
  have hkm : (k + 1) * m ≤ m * m := Nat.mul_le_mul_right _ (by omega)
  have hk1m : (k + 1) * m = k * m + m := Nat.succ_mul k m
  refine Gs 7 rfl (G.ops1 rfl rfl (R.indexS Tryz.runUnderlying80 Tryz.sizeOf49 rfl rfl hfa (by omega)) (G.ld rfl Tryz.isAgg49 (hcs4 0 _ rfl) (Gs 12 rfl (G.loop (σ := Nat × List (Int × Int) × Value) (fun ⟨j, acc, va⟩ => [(23, .slice fa Fr.length fc), (24, .int .i64 Fr.length), (25, .int .i64 k), (8, va), (9, .int .i64 k), (30, .slice ra r.length rc), (31, .int .i64 r.length), (32, .int .i64 j)]) (fun ⟨j, acc, va⟩ => fun w' => j ≤ r.length ∧ Pairs Rw rt m k j r acc ∧ w'.ownsRow 0 43 2 va acc.length (acc.flatMap encP) ∧ (∀ g, va.ownBlock = some g → w3.heap.size ≤ g) ∧ Ext w3 w') (fun ⟨j, acc, va⟩ => r.length - j) ((0, acc, va)) (Sub.of rfl) (⟨Nat.zero_le _, ⟨fun e => by rw [hP.mem]; simp, hP.nodup, hP.short⟩, hown, hfr, hk4⟩) ?_))))
  rintro ⟨j, acc, va⟩ w5 ⟨hjr, hP5, hown5, hfr5, hk5⟩
  show G _ _ _ _ _ [(23, .slice fa Fr.length fc), (24, .int .i64 Fr.length), (25, .int .i64 k), (8, va), (9, .int .i64 k), (30, .slice ra r.length rc), (31, .int .i64 r.length), (32, .int .i64 j)] _
  refine Gs 6 rfl (G.ite0 rfl (fun hjl => ?_) (fun hjg => ?_))
  ·
   obtain ⟨y, hy⟩ : ∃ y, r[j]? = some y := ⟨_, List.getElem?_eq_getElem (by omega)⟩
   obtain ⟨c, rfl, _⟩ := (hF.mem k r hr y).1 (List.mem_of_getElem? hy)
   obtain ⟨be, oe, ce, hra, _, hcel, hce, rfl⟩ := hrel j _ hy
   have hce5 := hk5.cells hce (fun h => h)
   have hsz := hP5.short
   refine Gs 6 rfl (G.ops1 rfl rfl (R.indexS Tryz.runUnderlying49 Tryz.sizeOf3 rfl rfl hra (by omega)) (G.ld rfl Tryz.isAgg3 (hce5 0 _ rfl) (Gs 7 rfl (G.ops1 rfl rfl (R.build (v := .agg #[.int .i64 c, .int .i64 k]) [(0, _), (1, _)] rfl (fun _ => by kernel_rfl)) (G.mem rfl rfl (M.buildSlice (cs := encP ((c : Int), (k : Int))) [(0, _)] Tryz.runUnderlying35 Tryz.sizeOf43 Tryz.zeroValue43 (by decide) rfl (by kernel_rfl)) ?_)))))
   rintro _ w6 ⟨b6, rfl, hb6, hs6, hB6, hk6⟩
   have hown6 := own_keep hown5 hk6 (fun _ _ h => h)
   refine G.mem rfl rfl (M.append Tryz.underlying35 Tryz.el43 rfl (by decide) rfl rfl hown6 rfl (Cells.add hB6.cells) (encP_one _) (by omega) (by omega)) ?_
   rintro va' w7 ⟨hown7, hfr7, hk7, _⟩
   have hsz3 := hk5.size
   refine Ga 8 rfl (by omega) (G.back ((j + 1, acc ++ [((c : Int), (k : Int))], va')) (Sub.of rfl) (⟨by omega, hP5.push (hF.sorted k r hr) hy, ?_, ?_, ?_⟩) (by first | omega | (dsimp only; omega)))
   ·
    rw [List.length_append, List.flatMap_append]
    simpa using hown7
   ·
    intro g hg
    rcases hfr7 with h1 | ⟨g', h1, h2⟩
    · rw [h1] at hg; exact hfr5 g hg
    rw [h1] at hg; cases hg; have := hk6.size; omega
   exact (hk5.ext hk6).trans hk7 (fun q hq h => by have := hfr5 q h; omega)
  have hjr' : j = r.length := by omega
  subst hjr'
  refine Ga 10 rfl (by omega) (G.back ((k + 1, acc, va)) (Sub.of rfl) (⟨by omega, hP5.next (hF.mem k r hr) hrm [], hown5, hfr5, hk5⟩) (by first | omega | (dsimp only; omega)))
 have hk' : k = Fr.length := by omega
 subst hk'
 have hlt' : ∀ x b, Front Rw rt x b → x < m ∧ b < m := by
  rintro x b ⟨a, h1, h2, h3, _⟩
  have h4 : Rw.length = m := hp.succ.len
  have h5 : rt < Rw.length := by rw [h4]; exact hp.hroot
  exact ⟨by rw [← h4]; exact (h3.reach h1).lt hp.rows h5, by rw [← h4]; exact (Dfs.Reach.step h1 h2).lt hp.rows h5⟩
 have hmemF : ∀ e, e ∈ acc ↔ ∃ x b : Nat, e = ((b : Int), (x : Int)) ∧ Front Rw rt x b := by
  intro e
  rw [hP.mem]
  constructor
  ·
   rintro ⟨x, b, h1, ⟨_, h2⟩ | ⟨_, h2⟩⟩
   · exact ⟨x, b, h1, h2⟩
   simp at h2
  rintro ⟨x, b, h1, h2⟩
  refine ⟨x, b, h1, .inl ⟨?_, h2⟩⟩
  rw [hFl]
  exact hlt' x b h2 |>.1
 have hlen : acc.length ≤ 1048576 := by
  have h1 := hP.short
  rw [hFl] at h1
  omega
 have hbd : ∀ e ∈ acc, bd e := by
  intro e he
  obtain ⟨x, b, rfl, h1⟩ := (hmemF e).1 he
  have := hlt' x b h1
  unfold bd
  dsimp only
  omega
 refine Gs 8 rfl (G.call rfl Tryz.call9 (sortP_ok 27 Tryz.call27 (fun x y => cmpL [x.1, x.2] [y.1, y.2]) (fun x y W _ _ => ctl_ok x y W) (fun x y _ _ => cmpL_lt x y) acc hbd hlen va acc.length w4 hown) ?_)
 rintro _ w5 ⟨rfl, S, hperm, hsrt, hown5, hk5⟩
 refine Gs 10 rfl ?_
 have hsz3 := hE3.size
 have hk35 : Ext w3 w5 := hk4.trans hk5 (fun q hq h => by have := hfr q h; omega)
 obtain ⟨av, cv, rfl⟩ := own_form hown5
 rw [hc0]
 refine G.ret2 Tryz.results11 rfl rfl ⟨_, rfl, .slice av acc.length cv, rfl, fun h => absurd rfl h, fun _ => ⟨s, Rw, order, pl, T, S, hs, hp.known, ⟨?_, ?_⟩, ?_⟩, hE3.ext hk35⟩
 ·
  have hnd : S.Nodup := (hperm.nodup_iff).2 hP.nodup
  have h1 : S.Pairwise (fun a b => ¬ lexLt b a ∧ a ≠ b) := by
   rw [List.pairwise_iff_getElem] at hsrt ⊢
   intro i j hi hj hij
   exact ⟨hsrt i j hi hj hij, fun h => by have := (List.getElem_inj hnd).1 h; omega⟩
  refine h1.imp ?_
  rintro ⟨a1, a2⟩ ⟨b1, b2⟩ ⟨h2, h3⟩
  unfold lexLt at h2 ⊢
  simp at h2 h3 ⊢
  omega
 ·
  intro e
  rw [hperm.mem_iff]
  exact hmemF e
 exact SlR.ofRowK (by decide) encP encP_len (fun _ _ => rfl) hown5 (fun g hg => by have := hfr g hg; omega)
end Go.Proofs.YtgojdedggmehiaaGreat
namespace Go.GL.Dom
inductive RE (es : List (Int × Int)) (root : Nat) (x : Int) : Nat → Prop
 | start : (root : Int) ≠ x → RE es root x root
 | step {a b : Nat} : RE es root x a → ((a : Int), (b : Int)) ∈ es → (b : Int) ≠ x → RE es root x b
theorem cnt_mono : ∀ (a b : List Bool), a.length = b.length → (∀ i : Nat, a[i]? = some true → b[i]? = some true) → a = b ∨ a.count true < b.count true
 | [], [], _, _ => .inl rfl
 | [], _ :: _, h, _ => by simp at h
 | _ :: _, [], h, _ => by simp at h
 | x :: a, y :: b, h, hm => by
  have ih := cnt_mono a b (by simpa using h) (fun i hi => by simpa using hm (i + 1) (by simpa using hi))
  have h0 := hm 0
  simp at h0
  cases x <;> cases y
  ·
   rcases ih with rfl | ih
   · exact .inl rfl
   exact .inr (by simpa using ih)
  ·
   refine .inr ?_
   rcases ih with rfl | ih
   · simp
   simp; omega
  · simp at h0
  rcases ih with rfl | ih
  · exact .inl rfl
  exact .inr (by simpa using ih)
structure Mk (es : List (Int × Int)) (root m : Nat) (x : Int) (bs0 : List Bool) (j : Nat) (bs : List Bool) : Prop where
 len : bs.length = m
 sound : ∀ b : Nat, bs[b]? = some true → RE es root x b
 more : ∀ i : Nat, bs0[i]? = some true → bs[i]? = some true
 took : ∀ a b : Nat, ((a : Int), (b : Int)) ∈ es.take j → bs0[a]? = some true → (b : Int) ≠ x → bs[b]? = some true
structure Mo (es : List (Int × Int)) (root m : Nat) (x : Int) (t : Nat) (bs : List Bool) : Prop where
 len : bs.length = m
 sound : ∀ b : Nat, bs[b]? = some true → RE es root x b
 begun : (root : Int) ≠ x → bs[root]? = some true
 grown : (∀ a b : Nat, bs[a]? = some true → ((a : Int), (b : Int)) ∈ es → (b : Int) ≠ x → bs[b]? = some true) ∨ t < bs.count true
section
variable {es : List (Int × Int)} {root m : Nat} {x : Int} {bs bs0 : List Bool} {t j : Nat}
theorem Mo.start (hr : root < m) (h : (root : Int) ≠ x) : Mo es root m x 0 ((List.replicate m false).set root true) := by
 have h1 : ∀ b : Nat, ((List.replicate m false).set root true)[b]? = some true → b = root := by
  intro b hb
  by_cases e : root = b
  · exact e.symm
  rw [List.getElem?_set_ne e] at hb
  have := List.eq_of_mem_replicate (List.mem_of_getElem? hb)
  cases this
 refine ⟨by simp, fun b hb => by rw [h1 b hb]; exact .start h, fun _ => by rw [List.getElem?_set_self (by simpa using hr)], .inr ?_⟩
 have h2 : ((List.replicate m false).set root true)[root]? = some true := List.getElem?_set_self (by simpa using hr)
 exact List.count_pos_iff.2 (List.mem_of_getElem? h2)
theorem Mo.start0 (h : (root : Int) = x) : Mo es root m x 0 (List.replicate m false) := by
 have h1 : ∀ b : Nat, (List.replicate m false)[b]? ≠ some true := by
  intro b hb
  have := List.eq_of_mem_replicate (List.mem_of_getElem? hb)
  cases this
 exact ⟨by simp, fun b hb => absurd hb (h1 b), fun h' => absurd h h', .inl (fun a b ha => absurd ha (h1 a))⟩
theorem Mk.start (h : Mo es root m x t bs) : Mk es root m x bs 0 bs := ⟨h.len, h.sound, fun _ h => h, fun a b h => by simp at h⟩
theorem Mk.done (h0 : Mo es root m x t bs0) (h : Mk es root m x bs0 es.length bs) : Mo es root m x (t + 1) bs := by
 refine ⟨h.len, h.sound, fun hx => h.more _ (h0.begun hx), ?_⟩
 rcases cnt_mono bs0 bs (by rw [h.len, h0.len]) h.more with e | e
 ·
  subst e
  exact .inl (fun a b ha he hx => h.took a b (by rw [List.take_length]; exact he) ha hx)
 rcases h0.grown with hg | hg
 ·
  refine .inl (fun a b ha he hx => ?_)
  have hin : ∀ c : Nat, RE es root x c → bs0[c]? = some true := by
   intro c hc
   induction hc with
   | start h1 => exact h0.begun h1
   | step _ he hx ih => exact hg _ _ ih he hx
  exact h.more b (hg a b (hin a (h.sound a ha)) he hx)
 exact .inr (by omega)
theorem Mk.same (h : Mk es root m x bs0 j bs) {a b : Nat} (he : es[j]? = some ((a : Int), (b : Int))) (hn : ¬ (bs[a]? = some true ∧ (b : Int) ≠ x)) : Mk es root m x bs0 (j + 1) bs := by
 obtain ⟨hj, hje⟩ := List.getElem?_eq_some_iff.1 he
 refine ⟨h.len, h.sound, h.more, fun c d hcd hc hd => ?_⟩
 rw [List.take_succ_eq_append_getElem hj, List.mem_append, List.mem_singleton, hje] at hcd
 rcases hcd with hcd | hcd
 · exact h.took c d hcd hc hd
 simp at hcd
 obtain ⟨h1, h2⟩ := hcd
 have h1 := Int.ofNat.inj h1
 have h2 := Int.ofNat.inj h2
 subst h1
 subst h2
 exact absurd ⟨h.more _ hc, hd⟩ hn
theorem Mk.mark (h : Mk es root m x bs0 j bs) {a b : Nat} (he : es[j]? = some ((a : Int), (b : Int))) (ha : bs[a]? = some true) (hx : (b : Int) ≠ x) (hb : b < m) : Mk es root m x bs0 (j + 1) (bs.set b true) := by
 obtain ⟨hj, hje⟩ := List.getElem?_eq_some_iff.1 he
 have hs : ∀ i : Nat, bs[i]? = some true → (bs.set b true)[i]? = some true := by
  intro i hi
  by_cases e : b = i
  · subst e; rw [List.getElem?_set_self (by rw [h.len]; exact hb)]
  rw [List.getElem?_set_ne e]; exact hi
 refine ⟨by rw [List.length_set]; exact h.len, fun c hc => ?_, fun i hi => hs i (h.more i hi), fun c d hcd hc hd => ?_⟩
 ·
  by_cases e : b = c
  · subst e; exact .step (h.sound a ha) (List.mem_of_getElem? he) hx
  rw [List.getElem?_set_ne e] at hc; exact h.sound c hc
 rw [List.take_succ_eq_append_getElem hj, List.mem_append, List.mem_singleton, hje] at hcd
 rcases hcd with hcd | hcd
 · exact hs d (h.took c d hcd hc hd)
 simp at hcd
 obtain ⟨h1, h2⟩ := hcd
 have h1 := Int.ofNat.inj h1
 have h2 := Int.ofNat.inj h2
 subst h1
 subst h2
 rw [List.getElem?_set_self (by rw [h.len]; exact hb)]
theorem Mo.done (h : Mo es root m x m bs) (b : Nat) : bs[b]? = some true ↔ RE es root x b := by
 refine ⟨h.sound b, fun hb => ?_⟩
 rcases h.grown with hg | hg
 ·
  induction hb with
  | start h1 => exact h.begun h1
  | step _ he hx ih => exact hg _ _ ih he hx
 have := List.count_le_length (a := true) (l := bs)
 rw [h.len] at this
 omega
end
end Go.GL.Dom
namespace Go.Proofs.YtgojdedggmehiaaGreat
open Go.GL Go.GL.Dom Go.GL.Dfs
structure DomMat (es : List (Int × Int)) (root m : Nat) (M : List (List Bool)) : Prop where
 len : M.length = m
 row : ∀ (a : Nat) r, M[a]? = some r → r.length = m ∧ ∀ b : Nat, r[b]? = some true ↔ RE es root (-1) b ∧ ¬ RE es root (a : Int) b
def dm (M : List (List Bool)) (a b : Nat) : Prop := ∃ r, M[a]? = some r ∧ r[b]? = some true
def Near (M : List (List Bool)) (m b a : Nat) : Prop := a ≠ b ∧ dm M a b ∧ ∀ c, c < m → c ≠ b → dm M c b → dm M c a
structure RefTree (M : List (List Bool)) (m : Nat) (T : List Int) : Prop where
 len : T.length = m
 at' : ∀ b, b < m → (∃ a, a < m ∧ Near M m b a ∧ T[b]? = some (a : Int)) ∨ ((∀ a, a < m → ¬ Near M m b a) ∧ T[b]? = some (-1))
end Go.Proofs.YtgojdedggmehiaaGreat
