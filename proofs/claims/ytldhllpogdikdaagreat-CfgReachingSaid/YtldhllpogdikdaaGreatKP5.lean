/-
  Contracts and the mathematics that the proof needs. Nothing here is a claim.
-/
import Derived.Test.YtldhllpogdikdaaGreatKP4
namespace Go.Proofs.YtldhllpogdikdaaGreat
open Go.GL
theorem steps_pre {vs : List Vr} {nh : Nat} (l : List St) : ∀ top, stepsCodeN vs nh l top = 0 → ∀ s ∈ preL l, ∃ last, stepCodeN vs nh s last = 0 := by
 induction l using Sts.ind with
 | h l ih =>
 intro top h
 have hm := steps_mem l top h
 have key : ∀ r : List St, (∀ x ∈ r, x ∈ l) → ∀ s ∈ preL r, ∃ last, stepCodeN vs nh s last = 0 := by
  intro r
  induction r with
  | nil => intro _ s hs; simp [preL] at hs
  | cons x r ihr =>
   intro hx s hs
   obtain ⟨last, h2⟩ := hm x (hx x (List.mem_cons_self ..))
   obtain ⟨_, _, _, h4, h5⟩ := step_ok h2
   rw [preL, x.pre_eq, List.mem_append, List.mem_cons, List.mem_append] at hs
   rcases hs with (rfl | hs | hs) | hs
   · exact ⟨last, h2⟩
   · exact (ih x (hx x (List.mem_cons_self ..))).1 _ h4 s hs
   · exact (ih x (hx x (List.mem_cons_self ..))).2 _ h5 s hs
   · exact ihr (fun y hy => hx y (List.mem_cons_of_mem _ hy)) s hs
 exact key l (fun x h => h)
theorem nodes_pre (l : List St) : ∀ s ∈ preL l, s.nodes ≤ snodes l := by
 induction l using Sts.ind with
 | h l ih =>
 have key : ∀ r : List St, (∀ x ∈ r, x ∈ l) → ∀ s ∈ preL r, s.nodes ≤ snodes r := by
  intro r
  induction r with
  | nil => intro _ s hs; simp [preL] at hs
  | cons x r ihr =>
   intro hx s hs
   have h1 := (ih x (hx x (List.mem_cons_self ..))).1
   have h2 := (ih x (hx x (List.mem_cons_self ..))).2
   have h3 := x.nodes_eq
   rw [preL, x.pre_eq, List.mem_append, List.mem_cons, List.mem_append] at hs
   rw [snodes]
   rcases hs with (rfl | hs | hs) | hs
   · omega
   · have := h1 s hs; omega
   · have := h2 s hs; omega
   · have := ihr (fun y hy => hx y (List.mem_cons_of_mem _ hy)) s hs; omega
 exact key l (fun x h => h)
theorem stepOk_of {f : Fl} {s : St} {last : Bool} (h : stepCodeN f.vars f.hatches.length s last = 0) (hn : s.nodes ≤ 100000) : StepOk f s := by
 obtain ⟨h1, h2, h3, _, _⟩ := step_ok h
 have hse := s.nodes_eq
 unfold termCodeN at h2
 split at h2
 ·
  rename_i hf
  split at h2
  ·
   rename_i hr
   refine ⟨hf, hr, by omega, h1.cost, fun ha => ?_, fun ha => ?_⟩
   ·
    unfold shapedB at h3
    rcases ha with ha | ha
    ·
     simp [ha, localB] at h3
     omega
    ·
     simp [ha, localB] at h3
     omega
   ·
    unfold shapedB at h3
    simp [ha, localB] at h3
    omega
  · cases h2
 · cases h2
def SettleOk (s : St) : Prop := s.act = 6 → ∀ b ∈ s.bounds, b ≤ 67108864
theorem rising_le {l : List Int} (h : risingB l = true) : ∀ (d i : Nat) x y, l[i]? = some x → l[i + d]? = some y → x ≤ y := by
 intro d
 induction d with
 | zero => intro i x y hx hy; rw [Nat.add_zero, hx] at hy; cases hy; exact Int.le_refl _
 | succ d ih =>
  intro i x y hx hy
  have hlt := (List.getElem?_eq_some_iff.1 hy).1
  obtain ⟨z, hz⟩ : ∃ z, l[i + d]? = some z := ⟨_, List.getElem?_eq_getElem (by omega)⟩
  have h1 := ih i x z hx hz
  have h2 := (risingB_iff l).1 h (i + d) z y hz hy
  omega
theorem settleOk_of {vs : List Vr} {nh : Nat} {s : St} {last : Bool} (h : stepCodeN vs nh s last = 0) : SettleOk s := by
 intro a6 b hb
 obtain ⟨h1, h2, h3, _, _⟩ := step_ok h
 have h4 : numberB s = true := by
  rw [stepCode_eq] at h
  split at h
  · cases h
  split at h
  · cases h
  · rename_i h5; simpa using h5
 unfold shapedB at h3
 simp [a6, groupsB] at h3
 unfold numberB at h4
 simp [a6] at h4
 have hr := h3.2.2
 obtain ⟨i, hi⟩ := List.mem_iff_getElem?.1 hb
 have hlt := (List.getElem?_eq_some_iff.1 hi).1
 obtain ⟨y, hy⟩ : ∃ y, s.bounds[s.bounds.length - 1]? = some y := ⟨_, List.getElem?_eq_getElem (by omega)⟩
 have h5 := rising_le hr (s.bounds.length - 1 - i) i b y hi (by rw [show i + (s.bounds.length - 1 - i) = s.bounds.length - 1 by omega]; exact hy)
 rw [hy] at h4
 simp at h4
 omega
theorem settle_cases (l : List Int) (t : Int) : settleN l t = t ∨ (settleN l t ∈ l ∧ t ≤ settleN l t) := by
 have key : ∀ (l : List Int) (s : Int × Bool), (l.foldl (settleStep t) s).1 = s.1 ∨ ((l.foldl (settleStep t) s).1 ∈ l ∧ t ≤ (l.foldl (settleStep t) s).1) := by
  intro l
  induction l with
  | nil => intro s; exact .inl rfl
  | cons b r ih =>
   intro s
   rw [List.foldl_cons]
   rcases ih (settleStep t s b) with h | h
   ·
    rw [h]
    unfold settleStep
    split
    · rename_i h1; exact .inr ⟨List.mem_cons_self .., h1.1⟩
    · exact .inl rfl
   · exact .inr ⟨List.mem_cons_of_mem _ h.1, h.2⟩
 exact key l (t, false)
structure Valid (f : Fl) : Prop where
 ok : checkN f = 0
 size : snodes f.body + hnodes f.hatches ≤ 1024
 bulk : sbulk f.body ≤ 1000000
section
variable {f : Fl} (V : Valid f)
include V
theorem Valid.plain : plainL f.body = true := check_plain V.ok
theorem Valid.good : ∀ v ∈ f.vars, Good (v.low, v.high) := vars_good (check_parts V.ok).2.1
theorem Valid.kinds : ∀ v ∈ f.vars, 0 ≤ v.kind ∧ v.kind ≤ 3 := by
 have h := (check_parts V.ok).2.1
 have h1 : ∀ j, j < f.vars.length → varAt f.vars j = 0 := by
  unfold varsCodeN at h
  split at h
  · rename_i h2; exact absurd h h2
  ·
   rename_i h2
   intro j hj
   exact firstBad_inv f.vars.length 0 (by simpa using h2) j (Nat.zero_le _) (by omega)
 exact fun v hv => (varsAll_good h1 v hv).2
theorem Valid.lens : f.vars.length ≤ 64 ∧ f.hatches.length ≤ 8 := by
 have h := (check_parts V.ok).1
 unfold sizesB at h
 simp at h
 omega
theorem Valid.ssize : ssize f.body ≤ 1024 := ssize_le_of V.size
theorem Valid.step : ∀ s ∈ preL f.body, StepOk f s ∧ SettleOk s ∧ (s.act = 4 → 0 ≤ s.n ∧ s.n ≤ 4096) := by
 intro s hs
 obtain ⟨last, h⟩ := steps_pre f.body true (check_parts V.ok).2.2.2.1 s hs
 have hn := nodes_pre f.body s hs
 have := V.size
 exact ⟨stepOk_of h (by omega), settleOk_of h, fun a4 => ⟨((step_ok h).1.rep a4).1, ((step_ok h).1.rep a4).2.1⟩⟩
theorem Valid.nb : nbL f.body ≤ 8192 := by
 have h1 := nb_bds f.body true (check_parts V.ok).2.2.2.1
 have h2 := (check_parts V.ok).2.2.2.2
 unfold overB at h2
 simp at h2
 omega
end
theorem lay_kinds (l : List St) : ∀ a n e, ∀ x ∈ layL l a n e, x.kind = 2 ∨ x.kind = 3 ∨ x.kind = 4 ∨ x.kind = 5 := by
 induction l using Sts.ind with
 | h l ih =>
 have key : ∀ r : List St, (∀ x ∈ r, x ∈ l) → ∀ a n e, ∀ x ∈ layL r a n e, x.kind = 2 ∨ x.kind = 3 ∨ x.kind = 4 ∨ x.kind = 5 := by
  intro r
  induction r with
  | nil => intro _ a n e x hx; simp [layL] at hx
  | cons s r ihr =>
   intro hm a n e x hx
   have h1 := (ih s (hm s (List.mem_cons_self ..))).1
   have h2 := (ih s (hm s (List.mem_cons_self ..))).2
   rw [layL, List.mem_append, s.lay_eq] at hx
   rcases hx with hx | hx
   ·
    split at hx
    ·
     rw [List.mem_cons, List.mem_append] at hx
     rcases hx with rfl | hx | hx
     · exact .inr (.inl rfl)
     · exact h1 _ _ _ x hx
     · exact h2 _ _ _ x hx
    ·
     split at hx
     ·
      rw [List.mem_cons, List.mem_cons] at hx
      rcases hx with rfl | rfl | hx
      · exact .inr (.inr (.inl rfl))
      · exact .inr (.inr (.inr rfl))
      · exact h1 _ _ _ x hx
     ·
      rw [List.mem_singleton] at hx
      subst hx; exact .inl rfl
   · exact ihr (fun y hy => hm y (List.mem_cons_of_mem _ hy)) _ _ _ x hx
 exact key l (fun x h => h)
structure NodeOk' (f : Fl) (x : Nd) : Prop where
 kind : x.kind = 0 ∨ x.kind = 2 ∨ x.kind = 3 ∨ x.kind = 4 ∨ x.kind = 5
 step : x.kind ≠ 0 → 0 ≤ x.at_ ∧ (preL f.body)[x.at_.toNat]? = some (stAt f x.at_) ∧ StepOk f (stAt f x.at_) ∧ SettleOk (stAt f x.at_)
theorem Valid.node {f : Fl} (V : Valid f) {k : Int} (h0 : 0 ≤ k) (h1 : k < (cfgN f).length - 1) : (cfgN f)[k.toNat]? = some (ndAt (cfgN f) k) ∧ NodeOk' f (ndAt (cfgN f) k) := by
 obtain ⟨n, rfl⟩ := Int.eq_ofNat_of_zero_le h0
 have hlen := cfgN_len f V.plain
 have hget : (cfgN f)[n]? = some (ndAt (cfgN f) n) := by
  unfold ndAt; rw [Int.toNat_natCast, List.getElem?_eq_getElem (show n < (cfgN f).length by omega)]; rfl
 refine ⟨hget, ?_⟩
 generalize ndAt (cfgN f) n = x at hget
 unfold cfgN at hget
 cases n with
 | zero => simp at hget; subst hget; exact ⟨.inl rfl, fun h => absurd rfl h⟩
 | succ n =>
  rw [List.getElem?_cons_succ, List.getElem?_append_left (by rw [layL_len _ V.plain]; omega)] at hget
  have hx := List.mem_of_getElem? hget
  have hk := lay_kinds f.body _ _ _ x hx
  have hr := (lay_nums f.body V.plain 0 1 (1 + widL f.body)).range x hx
  refine ⟨.inr hk, fun _ => ⟨by omega, ?_⟩⟩
  obtain ⟨s, hs⟩ : ∃ s, (preL f.body)[x.at_.toNat]? = some s := ⟨_, List.getElem?_eq_getElem (by rw [preL_len]; omega)⟩
  have e : stAt f x.at_ = s := by unfold stAt; rw [hs]; rfl
  have hst := V.step s (List.mem_of_getElem? hs)
  rw [e]
  exact ⟨hs, hst.1, hst.2.1⟩
structure MInv (f : Fl) (j : Nat) (m : Mc) : Prop where
 inv : InV f.vars m.σ.vals
 time : 0 ≤ m.σ.time ∧ m.σ.time ≤ (j : Int) * 67108864
 outs : m.σ.outs.length ≤ j
 rd : ∀ k, 0 ≤ m.rd k ∧ m.rd k ≤ j
theorem exec1_inv {f : Fl} {hs : List Int} {s : St} {σ : Sg} {j : Nat} (hg : ∀ v ∈ f.vars, Good (v.low, v.high)) (ho : StepOk f s) (hset : SettleOk s) (hV : InV f.vars σ.vals) (ht : 0 ≤ σ.time ∧ σ.time ≤ (j : Int) * 67108864) (hol : σ.outs.length ≤ j) :
  InV f.vars (exec1 f hs s σ).vals ∧ (0 ≤ (exec1 f hs s σ).time ∧ (exec1 f hs s σ).time ≤ ((j + 1 : Nat) : Int) * 67108864) ∧ (exec1 f hs s σ).outs.length ≤ j + 1 := by
 have hc := ho.cost
 unfold exec1
 split
 · exact ⟨hV.set hg _ _, by dsimp only; omega, by dsimp only; omega⟩
 split
 · exact ⟨hV, by dsimp only; omega, by simp; omega⟩
 split
 · exact ⟨hV.set hg _ _, by dsimp only; omega, by dsimp only; omega⟩
 split
 ·
  rename_i a6
  refine ⟨hV, ?_, by dsimp only; omega⟩
  dsimp only
  rcases settle_cases s.bounds (σ.time + s.cost) with h | h
  · rw [h]; omega
  ·
   have := hset a6 _ h.1
   omega
 · exact ⟨hV, by dsimp only; omega, by dsimp only; omega⟩
theorem stepM_inv {f : Fl} {hs : List Int} {g : List Nd} {j : Nat} {m : Mc} (hg : ∀ v ∈ f.vars, Good (v.low, v.high)) (hn : NodeOk' f (ndAt g m.at_)) (h : MInv f j m) : MInv f (j + 1) (stepM f hs g m) := by
 obtain ⟨h1, h2, h3, h4⟩ := h
 have hup : ∀ k n, 0 ≤ n ∧ n ≤ (j : Int) + 1 → ∀ i, 0 ≤ updR m.rd k n i ∧ updR m.rd k n i ≤ ((j + 1 : Nat) : Int) := fun k n hn i => by
  have := h4 i
  unfold updR; split <;> omega
 have hrd : ∀ k, 0 ≤ m.rd k ∧ m.rd k ≤ ((j + 1 : Nat) : Int) := fun k => by have := h4 k; omega
 unfold stepM passN
 generalize hx : ndAt g m.at_ = x at hn ⊢
 split
 · exact ⟨h1, by dsimp only; omega, by dsimp only; omega, hrd⟩
 rename_i k0
 obtain ⟨_, _, ho, hset⟩ := hn.step k0
 have hc := ho.cost
 split
 ·
  obtain ⟨e1, e2, e3⟩ := exec1_inv (hs := hs) hg ho hset h1 h2 h3
  exact ⟨e1, e2, e3, hrd⟩
 split
 · exact ⟨h1, by dsimp only; omega, by dsimp only; omega, hup _ _ (by omega)⟩
 split
 · exact ⟨h1, by dsimp only; omega, by dsimp only; omega, hrd⟩
 ·
  refine ⟨h1, by dsimp only; omega, by dsimp only; omega, ?_⟩
  dsimp only
  split
  · exact hup _ _ (by have := h4 x.at_; omega)
  · exact hrd
theorem Valid.walk {f : Fl} (V : Valid f) (hs : List Int) (σ : Sg) : ∃ (K : Nat) (rd' : Int → Int), K ≤ 8193 ∧ Goes f hs (cfgN f) 0 ((cfgN f).length - 1) K ⟨0, σ, fun _ => 0⟩ ⟨((cfgN f).length : Int) - 1, exL f hs f.body σ, rd'⟩ := by
 have hlen := cfgN_len f V.plain
 have hG : CtxG (cfgN f) 1 (layL f.body 0 1 (1 + widL f.body)) := by
  intro i x hx
  have hi := (List.getElem?_eq_some_iff.1 hx).1
  unfold cfgN
  rw [show 1 + i = i + 1 by omega, List.getElem?_cons_succ, List.getElem?_append_left hi]; exact hx
 obtain ⟨k, rd', hgo, hk, _⟩ := sim_list (hs := hs) (g := cfgN f) f.body V.plain (fun s hs' a4 => ((V.step s hs').2.2 a4).1) 0 1 (1 + widL f.body) hG (fun i x hx => by rw [Nat.zero_add]; exact hx) σ (fun _ => 0)
 have := V.nb
 refine ⟨1 + k, rd', by omega, (Goes.one (m' := ⟨((if f.body.isEmpty then 1 + widL f.body else 1 : Nat) : Int), σ, fun _ => 0⟩) ?_ (by dsimp only; omega)).trans ?_⟩
 ·
  have h2 : ((if f.body.isEmpty then 1 + widL f.body else 1 : Nat) : Int) = 1 := by
   split
   ·
    rename_i h
    have : f.body = [] := by simpa using h
    rw [this]; rfl
   · rfl
  rw [h2]
  unfold stepM
  have : ndAt (cfgN f) 0 = ⟨0, -1, 1, -1⟩ := rfl
  rw [this]
  simp [passN]
 ·
  have e : ((1 + widL f.body : Nat) : Int) = ((cfgN f).length : Int) - 1 := by omega
  rw [← e]
  exact hgo.widen (by omega) (by omega)
open Go.GL
def asgB (f : Fl) (x : Nd) : Bool := decide (x.kind = 2) && (decide ((stAt f x.at_).act = 0) || decide ((stAt f x.at_).act = 5))
def varD (f : Fl) (d : Int) : Int := if ((preL f.body).length : Int) ≤ d then d - (preL f.body).length else (stAt f d).var
def GenD (f : Fl) (x : Nd) (d : Int) : Prop := (x.kind = 0 ∧ ((preL f.body).length : Int) ≤ d ∧ d < (preL f.body).length + f.vars.length) ∨ (x.kind ≠ 0 ∧ asgB f x = true ∧ d = x.at_)
def ThruD (f : Fl) (x : Nd) (d : Int) : Prop := x.kind ≠ 0 ∧ (asgB f x = true → varD f d ≠ (stAt f x.at_).var)
inductive Rch (f : Fl) (g : List Nd) : Int → Int → Prop
 | gen {i : Nat} {x : Nd} {to d : Int} : g[i]? = some x → (to = x.next ∨ to = x.other) → 0 ≤ to → GenD f x d → Rch f g to d
 | thru {i : Nat} {x : Nd} {to d : Int} : g[i]? = some x → (to = x.next ∨ to = x.other) → 0 ≤ to → Rch f g i d → ThruD f x d → Rch f g to d
theorem Rch.step {f : Fl} {g : List Nd} {i : Nat} {x : Nd} {to d : Int} (hx : g[i]? = some x) (ht : to = x.next ∨ to = x.other) (h0 : 0 ≤ to) (h : GenD f x d ∨ (Rch f g i d ∧ ThruD f x d)) : Rch f g to d :=
 h.elim (Rch.gen hx ht h0) (fun h => Rch.thru hx ht h0 h.1 h.2)
abbrev Sets := List (List (Int × Value))
def HasK (Ls : Sets) (i d : Int) : Prop := ∃ l, Ls[i.toNat]? = some l ∧ d ∈ l.map (·.1)
def totL (Ls : Sets) : Nat := (Ls.map List.length).sum
def KeysOk (M : Nat) (Ls : Sets) : Prop := ∀ l ∈ Ls, (l.map (·.1)).Nodup ∧ ∀ p ∈ l, p.2 = .bool true ∧ 0 ≤ p.1 ∧ p.1 < M
def SoundK (f : Fl) (g : List Nd) (Ls : Sets) : Prop := ∀ (i : Nat) l, Ls[i]? = some l → ∀ d ∈ l.map (·.1), Rch f g i d
def ClosedAt (f : Fl) (g : List Nd) (Ls : Sets) (i : Nat) : Prop := ∀ x, g[i]? = some x → ∀ to, (to = x.next ∨ to = x.other) → 0 ≤ to → ∀ d, GenD f x d ∨ (HasK Ls i d ∧ ThruD f x d) → HasK Ls to d
theorem closed_all {f : Fl} {g : List Nd} {Ls : Sets} (h : ∀ i, i < g.length → ClosedAt f g Ls i) {to d : Int} (hr : Rch f g to d) : HasK Ls to d := by
 induction hr with
 | gen hx ht h0 hg => exact h _ (List.getElem?_eq_some_iff.1 hx).1 _ hx _ ht h0 _ (.inl hg)
 | thru hx ht h0 _ hk ih => exact h _ (List.getElem?_eq_some_iff.1 hx).1 _ hx _ ht h0 _ (.inr ⟨ih, hk⟩)
theorem totL_set : ∀ {Ls : Sets} {i : Nat} {l l' : List (Int × Value)}, Ls[i]? = some l → totL (Ls.set i l') + l.length = totL Ls + l'.length
 | [], i, l, l', h => by simp at h
 | x :: r, 0, l, l', h => by simp at h; subst h; simp [totL]; omega
 | x :: r, i + 1, l, l', h => by
  have := totL_set (Ls := r) (i := i) (l' := l') (by simpa using h)
  simp only [totL, List.set_cons_succ, List.map_cons, List.sum_cons] at this ⊢
  omega
theorem nodup_bound {l : List (Int × Value)} {M : Nat} (hn : (l.map (·.1)).Nodup) (h : ∀ p ∈ l, 0 ≤ p.1 ∧ p.1 < M) : l.length ≤ M := by
 have := nodup_len (l := l.map (·.1)) (l' := (List.range M).map Int.ofNat) hn (fun x hx => by
  obtain ⟨p, hp, rfl⟩ := List.mem_map.1 hx
  have := h p hp
  exact List.mem_map.2 ⟨p.1.toNat, List.mem_range.2 (by omega), by simp; omega⟩)
 simpa using this
theorem totL_le {M : Nat} : ∀ {Ls : Sets}, KeysOk M Ls → totL Ls ≤ Ls.length * M
 | [], _ => by simp [totL]
 | x :: r, h => by
  have h1 := totL_le (Ls := r) (fun l hl => h l (List.mem_cons_of_mem _ hl))
  have h2 := h x (List.mem_cons_self ..)
  have h3 := nodup_bound h2.1 (fun p hp => (h2.2 p hp).2)
  simp only [totL, List.map_cons, List.sum_cons, List.length_cons] at h1 ⊢
  rw [Nat.succ_mul]
  omega
theorem keys_mem_set {l : List (Int × Value)} {k d : Int} {v : Value} : d ∈ (setM l k v).map (·.1) ↔ d = k ∨ d ∈ l.map (·.1) := by
 rw [keys_setM]
 cases h : lkm l k with
 | none => simp only [List.mem_append, List.mem_singleton]; exact or_comm
 | some p =>
  simp only
  refine ⟨.inr, fun h1 => h1.elim (fun h2 => ?_) id⟩
  rw [h2]
  exact List.mem_map.2 ⟨_, List.mem_of_getElem? (lkm_some h), rfl⟩
theorem val_set {l : List (Int × Value)} {k : Int} {v : Value} {p : Int × Value} (h : p ∈ setM l k v) : p = (k, v) ∨ p ∈ l := by
 unfold setM at h
 split at h
 · exact (List.mem_or_eq_of_mem_set h).symm
 · exact (List.mem_append.1 h).elim .inr (fun h => .inl (by simpa using h))
theorem getM_true {M : Nat} {Ls : Sets} (hK : KeysOk M Ls) {l : List (Int × Value)} (hl : l ∈ Ls) (d : Int) : (getM l d).getD (.bool false) = .bool (decide (d ∈ l.map (·.1))) := by
 cases h : getM l d with
 | none =>
  rw [getM_none_iff] at h
  rw [decide_eq_false]; rfl
  intro h1
  obtain ⟨p, hp, e⟩ := List.mem_map.1 h1
  exact h p hp e
 | some v =>
  have h1 := getM_mem h
  have h2 := ((hK l hl).2 _ h1).1
  dsimp only at h2
  subst h2
  rw [decide_eq_true (List.mem_map.2 ⟨_, h1, rfl⟩)]; rfl
theorem addK {f : Fl} {g : List Nd} {M : Nat} {Ls : Sets} {to : Nat} {l : List (Int × Value)} {d : Int} (hl : Ls[to]? = some l) (hd : d ∉ l.map (·.1)) (hK : KeysOk M Ls) (hS : SoundK f g Ls) (h0 : 0 ≤ d ∧ d < M) (hr : Rch f g to d) :
  KeysOk M (Ls.set to (setM l d (.bool true))) ∧ SoundK f g (Ls.set to (setM l d (.bool true))) ∧ totL (Ls.set to (setM l d (.bool true))) = totL Ls + 1 := by
 have hlt := (List.getElem?_eq_some_iff.1 hl).1
 have hm := hK l (List.mem_of_getElem? hl)
 refine ⟨fun q hq => ?_, fun i q hq e he => ?_, ?_⟩
 ·
  rcases List.mem_or_eq_of_mem_set hq with h | h
  · exact hK q h
  ·
   subst h
   refine ⟨nodup_setM hm.1 _ _, fun p hp => ?_⟩
   rcases val_set hp with h | h
   · subst h; exact ⟨rfl, h0⟩
   · exact hm.2 p h
 ·
  by_cases e1 : to = i
  ·
   subst e1
   rw [List.getElem?_set_self hlt] at hq
   cases hq
   rcases keys_mem_set.1 he with h | h
   · subst h; exact hr
   · exact hS to l hl e h
  ·
   rw [List.getElem?_set_ne e1] at hq
   exact hS i q hq e he
 ·
  have h1 := totL_set (l' := setM l d (.bool true)) hl
  have h2 : (setM l d (.bool true)).length = l.length + 1 := by
   have h3 := congrArg List.length (keys_setM l d (.bool true))
   have h4 : lkm l d = none := by
    cases h5 : lkm l d with
    | none => rfl
    | some p => exact absurd (List.mem_map.2 ⟨_, List.mem_of_getElem? (lkm_some h5), rfl⟩) hd
   rw [h4] at h3
   simpa using h3
  omega
def defN (f : Fl) (x : Nd) : Int := if asgB f x then (stAt f x.at_).var else -1
theorem defines_ok (f : Fl) (g : List Nd) (i : Nat) (x : Nd) (v1 v2 v3 gv : Value) (D Dg : Nat → Prop) (w : World) (hf : RFl D w f v1 v2 v3) (hg : SlR 4 RNd Dg w gv g) (hx : g[i]? = some x) (hat : x.kind = 2 → 0 ≤ x.at_ ∧ x.at_ < (preL f.body).length) (hsz : ssize f.body ≤ 10000) :
  Calls Tryz.prog 35 #[.agg #[v1, v2, v3], .agg #[gv], .int .i64 i] w (Ret fun r w' => r = .int .i64 (defN f x) ∧ Ext w w') := by
 have hE := Keep.refl (fun _ => False) w
 obtain ⟨ag, cg, rfl⟩ := hg.form
 have hgmx := hg.max
 have hig := (List.getElem?_eq_some_iff.1 hx).1
 obtain ⟨xb, xo, xc, hxa, _, hxc, rfl⟩ := hg.at hx
 refine G.in3 Tryz.func35 rfl Tryz.ntmps35 rfl (Gs 2 rfl (G.mem rfl rfl (M.box rfl rfl) ?_))
 rintro _ w_b ⟨b, rfl, hg_b, hs_b, hB_b, hk_b⟩
 have hge_b : _ ≤ b := Nat.le_trans hE.size (Nat.le_of_eq hg_b.symm)
 obtain ⟨hE, hf, hxc⟩ := Tr3 hk_b hE hf hxc
 refine G.mem rfl rfl (M.box rfl rfl) ?_
 rintro _ w_bg ⟨bg, rfl, hg_bg, hs_bg, hB_bg, hk_bg⟩
 have hn_b_bg : b ≠ bg := by have := hB_b.lt; omega
 have hge_bg : _ ≤ bg := Nat.le_trans hE.size (Nat.le_of_eq hg_bg.symm)
 obtain ⟨hE, hf, hxc, hB_b⟩ := Tr4 hk_bg hE hf hxc hB_b
 refine Gs 7 rfl (G.ld rfl Tryz.isAgg29 (hB_bg.cells 0 _ rfl) (Gs 1 rfl (G.ops1 rfl rfl (R.indexS Tryz.runUnderlying29 Tryz.sizeOf40 rfl rfl hxa (by omega)) (Gs 1 rfl (G.ld rfl Tryz.isAgg38 (hxc 0 _ rfl) (Gs 3 rfl (G.ite rfl (fun k2 => ?_) (fun k2 => ?_))))))))
 ·
  refine Gs 7 rfl ?_
  have ha : asgB f x = false := by unfold asgB; simp [k2]
  refine G.ret1 Tryz.results35 rfl ⟨_, rfl, by rw [defN, ha]; rfl, hE⟩
 ·
  have k2' : x.kind = 2 := by omega
  obtain ⟨s, hs1⟩ : ∃ s, (preL f.body)[x.at_.toNat]? = some s := ⟨_, List.getElem?_eq_getElem (by have := hat k2'; omega)⟩
  have hst : stAt f x.at_ = s := by unfold stAt; rw [hs1]; rfl
  have hatx := hat k2'
  refine Gs 3 rfl (Dw (fun q => Ext w_bg q) [13] (fun wd1 hD _ => ?_))
  refine Ds [0] (by kernel_rfl) rfl (WD.take 1 rfl (by kernel_rfl) rfl rfl rfl hD (fun w1 hw1 => R.load Tryz.isAgg24 rfl ((hw1.blk hB_b (fun h => h)).cells 2 _ rfl)) (Ds [2] (by kernel_rfl) rfl (WD.take 3 rfl (by kernel_rfl) rfl rfl rfl hD (fun w1 hw1 => R.load Tryz.isAgg29 rfl ((hw1.blk hB_bg (fun h => h)).cells 0 _ rfl)) (Ds [4] (by kernel_rfl) rfl (WD.takeW 5 rfl (by kernel_rfl) rfl rfl rfl (fun w1 => R.indexS Tryz.runUnderlying29 Tryz.sizeOf40 rfl rfl hxa (by omega)) (Ds [6] (by kernel_rfl) rfl (WD.take 7 rfl (by kernel_rfl) rfl rfl rfl hD (fun w1 hw1 => R.load Tryz.isAgg3 rfl (hw1.cells hxc (fun h => h) 1 _ rfl)) ?_)))))))
  obtain ⟨k, hk⟩ : ∃ k : Nat, x.at_ = k := ⟨x.at_.toNat, by omega⟩
  rw [hk]
  rw [hk, Int.toNat_natCast] at hs1
  refine WD.mem2 (R := fun v w' => (∃ cs : List Value, v = .tuple #[.agg cs.toArray, .bool true] ∧ cs.length = 10 ∧ RSt D w' s cs) ∧ Ext wd1 w') (Rj := fun v w' => ∃ b, v = .pointer (some ⟨b, 0, none⟩) ∧ New wd1 [.int .i64 0, .int .i64 0, .int .i64 0, .int .i64 0, .int .i64 0, .int .i64 0, .slice none 0 0, .slice none 0 0, .slice none 0 0, .slice none 0 0] 86 b w') 8 12 rfl rfl (by kernel_rfl) rfl rfl rfl rfl rfl rfl (.inr ⟨_, _, F.call (vs := [_, _]) Tryz.call44 rfl, find_ok f.body _ D wd1 k s (hf.ext hD).body hs1 hsz⟩) (.inl (M.alloc Tryz.zeroValue86 rfl)) ?_ ?_
  ·
   rintro _ w2 ⟨⟨cs, rfl, hcl, hcs⟩, hk2⟩
   refine ⟨fun _ => hD.ext hk2, ?_⟩
   replace hD := hD.ext hk2
   refine Ds [9, 10, 11] (by kernel_rfl) rfl (WD.mem 12 rfl (by kernel_rfl) rfl rfl rfl (M.alloc (cs := [.int .i64 0, .int .i64 0, .int .i64 0, .int .i64 0, .int .i64 0, .int .i64 0, .slice none 0 0, .slice none 0 0, .slice none 0 0, .slice none 0 0]) Tryz.zeroValue86 rfl) ?_)
   rintro _ w3 ⟨m, rfl, hN⟩
   refine ⟨fun _ => hD.ext hN.2.2.2, ?_⟩
   have hD0 := hD
   replace hD := hD.ext hN.2.2.2
   have hBm := hN.2.2.1
   have hm0 : w.heap.size ≤ m := by have := hE.size; have := hD0.size; have := hN.1; omega
   obtain ⟨y1, y2, y3, y4, rfl, _⟩ := hcs.get
   have hcs1 := hcs.one
   refine WD.mem0 13 rfl (by kernel_rfl) rfl rfl (M.storeK Tryz.sizeOf86 rfl rfl rfl rfl hcs1 hBm (by simp)) ?_
   rintro w5 ⟨_, hB5, hk5⟩
   have hEE : Ext w w5 := (hE.ext hD).trans hk5 (fun q hq (h : q = m) => by have := hE.size; have := hN.1; have := hm0; omega)
   refine ⟨fun h => absurd (by simp) h, ?_⟩
   refine Ds [14] (by kernel_rfl) rfl (G.done (by kernel_rfl) ?_ _)
   refine Gs 5 rfl (G.ld rfl Tryz.isAgg80 (hB5.cells 0 _ rfl) (Gs 2 rfl (G.sp 31 rfl (fun a0 => ?_) (fun a0 => ?_))))
   ·
    refine Gs 10 rfl (G.ld rfl Tryz.isAgg3 (hB5.cells 2 _ rfl) (Gs 5 rfl ?_))
    have ha : asgB f x = true := by unfold asgB; simp [k2', hst, a0]
    refine G.ret1 Tryz.results35 rfl ⟨_, rfl, by rw [defN, ha, hst]; rfl, hEE⟩
   ·
    refine Gs 1 rfl (G.ld rfl Tryz.isAgg80 (hB5.cells 0 _ rfl) (Gs 4 rfl (G.ite rfl (fun a5 => ?_) (fun a5 => ?_))))
    ·
     refine Gs 3 rfl (G.ld rfl Tryz.isAgg3 (hB5.cells 2 _ rfl) (Gs 5 rfl ?_))
     have ha : asgB f x = true := by unfold asgB; simp [k2', hst, a5]
     refine G.ret1 Tryz.results35 rfl ⟨_, rfl, by rw [defN, ha, hst]; rfl, hEE⟩
    ·
     refine Gs 8 rfl ?_
     have ha : asgB f x = false := by unfold asgB; simp [hst, a0, a5]
     refine G.ret1 Tryz.results35 rfl ⟨_, rfl, by rw [defN, ha]; rfl, hEE⟩
  ·
   rintro _ w2 ⟨m, rfl, hN⟩
   refine ⟨fun _ => hD.ext hN.2.2.2, ?_⟩
   have hD0 := hD
   replace hD := hD.ext hN.2.2.2
   have hBm := hN.2.2.1
   have hm0 : w.heap.size ≤ m := by have := hE.size; have := hD0.size; have := hN.1; omega
   refine WD.call 8 rfl (by kernel_rfl) rfl rfl rfl (F.call (vs := [_, _]) Tryz.call44 rfl) (find_ok f.body _ D _ k s (hf.ext hD).body hs1 hsz) ?_
   rintro _ w3 ⟨⟨cs, rfl, hcl, hcs⟩, hk3⟩
   refine ⟨fun _ => hD.ext hk3, ?_⟩
   replace hD := hD.ext hk3
   have hBm3 := hk3.blk hBm (fun h => h)
   obtain ⟨y1, y2, y3, y4, rfl, _⟩ := hcs.get
   have hcs1 := hcs.one
   refine Ds [9, 10, 11] (by kernel_rfl) rfl (WD.mem0 13 rfl (by kernel_rfl) rfl rfl (M.storeK Tryz.sizeOf86 rfl rfl rfl rfl hcs1 hBm3 (by simp)) ?_)
   rintro w5 ⟨_, hB5, hk5⟩
   have hEE : Ext w w5 := (hE.ext hD).trans hk5 (fun q hq (h : q = m) => by have := hE.size; have := hN.1; have := hm0; omega)
   refine ⟨fun h => absurd (by simp) h, ?_⟩
   refine Ds [14] (by kernel_rfl) rfl (G.done (by kernel_rfl) ?_ _)
   refine Gs 5 rfl (G.ld rfl Tryz.isAgg80 (hB5.cells 0 _ rfl) (Gs 2 rfl (G.sp 31 rfl (fun a0 => ?_) (fun a0 => ?_))))
   ·
    refine Gs 10 rfl (G.ld rfl Tryz.isAgg3 (hB5.cells 2 _ rfl) (Gs 5 rfl ?_))
    have ha : asgB f x = true := by unfold asgB; simp [k2', hst, a0]
    refine G.ret1 Tryz.results35 rfl ⟨_, rfl, by rw [defN, ha, hst]; rfl, hEE⟩
   ·
    refine Gs 1 rfl (G.ld rfl Tryz.isAgg80 (hB5.cells 0 _ rfl) (Gs 4 rfl (G.ite rfl (fun a5 => ?_) (fun a5 => ?_))))
    ·
     refine Gs 3 rfl (G.ld rfl Tryz.isAgg3 (hB5.cells 2 _ rfl) (Gs 5 rfl ?_))
     have ha : asgB f x = true := by unfold asgB; simp [k2', hst, a5]
     refine G.ret1 Tryz.results35 rfl ⟨_, rfl, by rw [defN, ha, hst]; rfl, hEE⟩
    ·
     refine Gs 8 rfl ?_
     have ha : asgB f x = false := by unfold asgB; simp [hst, a0, a5]
     refine G.ret1 Tryz.results35 rfl ⟨_, rfl, by rw [defN, ha]; rfl, hEE⟩
end Go.Proofs.YtldhllpogdikdaaGreat
namespace Go.GL
theorem WX.retTCT {P : Program} {fn : Func} {R : Ending → World → Prop} {n : Nat} {env : Env} {w : World} {s p t : Tmp} {ty : TypeId} {a0 : Addr} {u v x : Value} (h : fn.results = #[.tmp s, .cell p ty, .tmp t]) (hu : get env s = some u) (hp : get env p = some (.pointer (some a0))) (hl : (loadVar ty a0).run P w = .ok v w) (hx : get env t = some x) (hR : R (.returned (.tuple #[u, v, x])) w) : WX n .ret (bodyPost P fn R) env w := by
 intro a ha
 have h0 := ha.get s _ hu
 have h1 := ha.get p _ hp
 have h2 := ha.get t _ hx
 refine bodyPost_ret (v := .tuple #[u, v, x]) ?_ ha.defs hR
 simp [results, h, Array.getD_eq_getD_getElem?, h0, h1, h2, asAddr, hl]
end Go.GL
namespace Go.Proofs.YtldhllpogdikdaaGreat
open Go.GL
theorem formed_mono {vs : List Vr} (t : Tm) : formedT vs true t = true → formedT vs false t = true := by
 induction t using Tm.ind with
 | h t ih =>
  intro h
  rw [formedT_eq, Bool.and_eq_true, Bool.and_eq_true] at h ⊢
  refine ⟨⟨h.1.1, ?_⟩, ?_⟩
  ·
   have h2 := h.1.2
   unfold refFit at h2 ⊢
   split
   ·
    rename_i e
    rw [if_pos e, Bool.and_eq_true] at h2
    rw [h2.1]; rfl
   ·
    rename_i e
    rw [if_neg e] at h2
    exact h2
  ·
   have key : ∀ l : List Tm, (∀ k ∈ l, k ∈ t.kids) → formedL vs true l = true → formedL vs false l = true := by
    intro l
    induction l with
    | nil => intro _ _; rfl
    | cons x r ihr =>
     intro hm hf
     rw [formedL, Bool.and_eq_true] at hf ⊢
     exact ⟨ih x (hm x (List.mem_cons_self ..)) hf.1, ihr (fun k hk => hm k (List.mem_cons_of_mem _ hk)) hf.2⟩
   exact key t.kids (fun k h => h) h.2
theorem Valid.hatch {f : Fl} (V : Valid f) : ∀ h ∈ f.hatches, formedT f.vars false h.term = true ∧ (rng f.vars h.term).isSome = true ∧ h.term.nodes ≤ 1000000 ∧ h.low ≤ h.high := by
 intro h hm
 obtain ⟨i, hi⟩ := List.mem_iff_getElem?.1 hm
 have hlt := (List.getElem?_eq_some_iff.1 hi).1
 have h0 := (check_parts V.ok).2.2.1
 have h1 := firstBad_inv f.hatches.length 0 h0 i (Nat.zero_le _) (by omega)
 rw [hatchAt_eq hi] at h1
 have hn := hnodes_split hi
 have := V.size
 unfold hatchCode at h1
 split at h1
 · cases h1
 split at h1
 · cases h1
 split at h1
 · cases h1
 ·
  rename_i hb
  unfold termCodeN at h1
  split at h1
  ·
   rename_i hf
   split at h1
   ·
    rename_i hr
    refine ⟨formed_mono _ hf, hr, by omega, ?_⟩
    have hb' : bndB h.low h.high = true := by simpa using hb
    unfold bndB at hb'
    exact (of_decide_eq_true hb').1
   · cases h1
  · cases h1
def hatV (vals : List Int) (hs : List Ht) : List Int := hs.map fun h => clampI (valT vals h.term) h.low h.high
theorem hatV_take {vals : List Int} {hs : List Ht} {i : Nat} {x : Ht} (h : hs[i]? = some x) : hatV vals (hs.take (i + 1)) = hatV vals (hs.take i) ++ [clampI (valT vals x.term) x.low x.high] := by
 unfold hatV; rw [take_get h, List.map_append]; rfl
theorem WkS.keepP {D : Nat → Prop} {f : Fl} {hs : List Int} {w w' : World} {σ : Sg} {z : WkV} {S : Nat → Prop} (h : WkS D f hs w σ z) (hk : Keep S w w') (h1 : ∀ q, KW z q → ¬ S q) (h2 : ∀ q, D q → ¬ S q) (h3 : ∀ g, z.hv.ownBlock = some g → ¬ S g) : WkS D f hs w' σ z :=
 ⟨hk.blk h.blk (h1 _ (.inl rfl)), rflKeepD h.fl hk h2, h.steps.keep stable_st hk (fun q hq _ => h2 q hq), own_keep h.vals hk (fun g hg => h1 g (.inr (.inr (.inl hg)))), own_keep h.hats hk h3, own_keep h.outs hk (fun g hg => h1 g (.inr (.inr (.inr hg)))), h.map.keep hk (h1 _ (.inr (.inl rfl))), fun q hq => by have := h.low q hq; have := hk.size; omega, h.nW, h.nm, h.nv, h.no⟩
theorem WkS.hatsPush {D : Nat → Prop} {f : Fl} {hs : List Int} {w w1 w2 : World} {σ : Sg} {z : WkV} {n : Int} {hv' : Value} (h : WkS D f hs w σ z) (ho : w1.ownsRow 0 3 1 hv' (hs.length + 1) (hs.map encI1 ++ [.int .i64 n])) (hfr : hv'.ownBlock = z.hv.ownBlock ∨ ∃ g, hv'.ownBlock = some g ∧ w.heap.size ≤ g) (hk : Keep (fun q => z.hv.ownBlock = some q) w w1)
  (hw : Wrote w1 z.W [z.v1, z.v2, z.v3, z.sv, z.vv, hv', .map (some z.m), z.ov, .int .i64 σ.time] 182 w2) (hD : ∀ g, z.hv.ownBlock = some g → ¬ D g) : WkS D f (hs ++ [n]) w2 σ { z with hv := hv' } := by
 obtain ⟨hsz, hB, hk2⟩ := hw
 have hK : Keep (fun q => z.hv.ownBlock = some q ∨ q = z.W) w w2 := (Keep.mono hk (fun _ _ e => .inl e)).trans hk2 (fun _ _ e => .inr e)
 have hnD : ∀ q, D q → ¬ (z.hv.ownBlock = some q ∨ q = z.W) := fun q hq e => e.elim (fun e => hD q e hq) (fun e => h.nW (e ▸ hq))
 have hnew : ∀ g, hv'.ownBlock = some g → z.hv.ownBlock = some g ∨ w.heap.size ≤ g := fun g hg => by
  rcases hfr with e | ⟨g', e, e'⟩
  · exact .inl (by rw [← e]; exact hg)
  · rw [e] at hg; cases hg; exact .inr e'
 have hne : ∀ g, hv'.ownBlock = some g → g ≠ z.W := fun g hg => by
  obtain ⟨cs, hb⟩ := own_blkty ho hg
  exact hb.ne (hk.blk h.blk (fun e => h.hne e rfl)) (by decide)
 refine ⟨hB, rflKeepD h.fl hK hnD, h.steps.keep stable_st hK (fun q hq _ => hnD q hq), own_keep h.vals hK (fun g hg e => e.elim (h.nv g hg).2.1 (h.vne hg)), ?_, own_keep h.outs hK (fun g hg e => e.elim (h.no g hg).2 (h.one hg)), h.map.keep hK (fun e => e.elim (fun e => h.hnm e rfl) (fun e => h.wm e.symm)), fun q hq => by have := h.low q hq; have := hK.size; omega, h.nW, h.nm, fun g hg => ⟨(h.nv g hg).1, fun e => ?_, (h.nv g hg).2.2⟩, fun g hg => ⟨(h.no g hg).1, fun e => ?_⟩⟩
 ·
  have := own_keep ho hk2 (fun g hg e => hne g hg e)
  rw [List.length_append, List.map_append]
  exact this
 ·
  rcases hnew g e with e2 | e2
  · exact (h.nv g hg).2.1 e2
  · have := own_lt h.vals hg; omega
 ·
  rcases hnew g e with e2 | e2
  · exact (h.no g hg).2 e2
  · have := own_lt h.outs hg; omega
theorem start_inv {vs : List Vr} {r : Ins} (h : startCode vs r = 0) : InV vs (startVals vs r) := by
 unfold startCode at h
 cases hs : startS vs r with
 | none => rw [hs] at h; cases h
 | some s =>
  rw [hs] at h
  have hv : startVals vs r = s.vals := by unfold startVals; rw [hs]
  have hl := startS_len (vs := vs) (r := r) vs.length s (Nat.le_refl _) (by rw [List.take_length]; exact hs)
  simp only at h
  unfold startFin at h
  split at h
  · cases h
  split at h
  ·
   rename_i ha
   rw [hv]
   refine ⟨hl.1, fun i v hi => ?_⟩
   have hlt := (List.getElem?_eq_some_iff.1 hi).1
   rw [List.all_eq_true] at ha
   have := ha (v, lki s.vals i) (List.mem_iff_getElem?.2 ⟨i, by
    rw [List.getElem?_zip_eq_some]
    exact ⟨hi, lki_at (by omega)⟩⟩)
   unfold inB at this
   simp at this
   exact this
  · cases h
theorem rflWide {D D' : Nat → Prop} {f : Fl} {v1 v2 v3 : Value} {w : World} (h : RFl D w f v1 v2 v3) (hD : ∀ q, D q → D' q) : RFl D' w f v1 v2 v3 := ⟨h.vars.wide stable_vr hD, h.hatches.wide stable_ht hD, h.body.wide stable_st hD⟩
structure WalkI (D : Nat → Prop) (f : Fl) (hs : List Int) (σ0 : Sg) (w0 : World) (w : World) (j : Nat) (W : Nat) (vp : Value) (z : WkV) : Prop where
 st : WkS D f hs w (iterM f hs (cfgN f) j ⟨0, σ0, fun _ => 0⟩).σ z
 W : z.W = W
 rd : RdM z.rm (iterM f hs (cfgN f) j ⟨0, σ0, fun _ => 0⟩).rd
 inv : MInv f j (iterM f hs (cfgN f) j ⟨0, σ0, fun _ => 0⟩)
 path : w.ownsRow 0 3 1 vp (j + 1) (((List.range (j + 1)).map fun i => (iterM f hs (cfgN f) i ⟨0, σ0, fun _ => 0⟩).at_).map encI1)
 apart : ∀ g, vp.ownBlock = some g → ¬ KW z g ∧ z.hv.ownBlock ≠ some g ∧ ¬ D g ∧ w0.heap.size ≤ g
 far : ∀ g, KW z g → w0.heap.size ≤ g
 ext : Ext w0 w
theorem walk_ok (f : Fl) (g : List Nd) (r : Ins) (v1 v2 v3 gv s1 s2 s3 : Value) (D0 Dg : Nat → Prop) (w : World) (hf0 : RFl D0 w f v1 v2 v3) (hg0 : SlR 4 RNd Dg w gv g) (hi1 : SlR 1 RInt D0 w s1 r.secret) (hi2 : SlR 1 RInt D0 w s2 r.pub) (hi3 : SlR 1 RInt D0 w s3 r.random) (hsz : snodes f.body + hnodes f.hatches ≤ 1024) (hbk : sbulk f.body ≤ 1000000) :
  Calls Tryz.prog 73 #[.agg #[v1, v2, v3], .agg #[gv], .agg #[s1, s2, s3]] w (Ret fun rr w' => (∃ pv ov t e, rr = .tuple #[pv, .agg #[ov, .int .i64 t], .int .i64 e] ∧ e = (if gcheckN f g ≠ 0 then gcheckN f g else startCode f.vars r) ∧
   (e ≠ 0 → pv = .slice none 0 0 ∧ ov = .slice none 0 0 ∧ t = 0) ∧
   (e = 0 → ∃ K rd', Goes f (hatV (startVals f.vars r) f.hatches) (cfgN f) 0 ((cfgN f).length - 1) K ⟨0, ⟨startVals f.vars r, [], 0⟩, fun _ => 0⟩ ⟨((cfgN f).length : Int) - 1, exL f (hatV (startVals f.vars r) f.hatches) f.body ⟨startVals f.vars r, [], 0⟩, rd'⟩ ∧
    SlR 1 RInt (fun b => w.heap.size ≤ b) w' pv ((List.range (K + 1)).map fun i => (iterM f (hatV (startVals f.vars r) f.hatches) (cfgN f) i ⟨0, ⟨startVals f.vars r, [], 0⟩, fun _ => 0⟩).at_) ∧
    SlR 1 RInt (fun b => w.heap.size ≤ b) w' ov (exL f (hatV (startVals f.vars r) f.hatches) f.body ⟨startVals f.vars r, [], 0⟩).outs ∧ t = (exL f (hatV (startVals f.vars r) f.hatches) f.body ⟨startVals f.vars r, [], 0⟩).time)) ∧ Ext w w') := by
 obtain ⟨ah, ch, rfl⟩ := hf0.hatches.form
 have hf := hf0.narrow
 replace hi1 := hi1.narrow (by decide) narrow_int
 replace hi2 := hi2.narrow (by decide) narrow_int
 replace hi3 := hi3.narrow (by decide) narrow_int
 generalize hDD : (fun b => D0 b ∧ b < w.heap.size) = D at hf hi1 hi2 hi3
 have hDw : ∀ q, D q → q < w.heap.size := fun q h => by rw [← hDD] at h; exact h.2
 obtain ⟨ag, cg, rfl⟩ := hg0.form
 have hE := Keep.refl (fun _ => False) w
 have hg := hg0
 refine G.in3 Tryz.func73 rfl Tryz.ntmps73 rfl (Gs 2 rfl (G.mem rfl rfl (M.box rfl rfl) ?_))
 rintro _ w_b ⟨b, rfl, hg_b, hs_b, hB_b, hk_b⟩
 have hge_b : _ ≤ b := Nat.le_trans hE.size (Nat.le_of_eq hg_b.symm)
 obtain ⟨hE, hf, hg⟩ := Tr3 hk_b hE hf hg
 refine G.mem rfl rfl (M.box rfl rfl) ?_
 rintro _ w_bg ⟨bg, rfl, hg_bg, hs_bg, hB_bg, hk_bg⟩
 have hn_b_bg : b ≠ bg := by have := hB_b.lt; omega
 have hge_bg : _ ≤ bg := Nat.le_trans hE.size (Nat.le_of_eq hg_bg.symm)
 obtain ⟨hE, hf, hg, hB_b⟩ := Tr4 hk_bg hE hf hg hB_b
 refine G.mem rfl rfl (M.box rfl rfl) ?_
 rintro _ w_bi ⟨bi, rfl, hg_bi, hs_bi, hB_bi, hk_bi⟩
 have hn_b_bi : b ≠ bi := by have := hB_b.lt; omega
 have hn_bg_bi : bg ≠ bi := by have := hB_bg.lt; omega
 have hge_bi : _ ≤ bi := Nat.le_trans hE.size (Nat.le_of_eq hg_bi.symm)
 obtain ⟨hE, hf, hg, hB_b, hB_bg⟩ := Tr5 hk_bi hE hf hg hB_b hB_bg
 refine Gs 1 rfl (G.mem rfl rfl (M.alloc (cs := [.slice none 0 0, .int .i64 0]) Tryz.zeroValue64 rfl) ?_)
 rintro _ w_rc ⟨rc, rfl, hg_rc, hs_rc, hB_rc, hk_rc⟩
 have hn_b_rc : b ≠ rc := by have := hB_b.lt; omega
 have hn_bg_rc : bg ≠ rc := by have := hB_bg.lt; omega
 have hn_bi_rc : bi ≠ rc := by have := hB_bi.lt; omega
 have hge_rc : _ ≤ rc := Nat.le_trans hE.size (Nat.le_of_eq hg_rc.symm)
 obtain ⟨hE, hf, hg, hB_b, hB_bg, hB_bi⟩ := Tr6 hk_rc hE hf hg hB_b hB_bg hB_bi
 refine Gs 6 rfl (G.ldK rfl Tryz.isAgg26 Tryz.sizeOf26 hB_b.cells rfl (G.ldK rfl Tryz.isAgg31 Tryz.sizeOf31 hB_bg.cells rfl (G.call rfl Tryz.call18 (cfgCheck_ok f g _ _ _ _ D Dg _ hf hg hsz hbk) ?_)))
 rintro _ wz1 ⟨rfl, hz1⟩
 obtain ⟨hE, hf, hg, hB_b, hB_bg, hB_bi, hB_rc⟩ := Tr7 hz1 hE hf hg hB_b hB_bg hB_bi hB_rc
 refine Gs 9 rfl (G.ite rfl (fun e0 => ?_) (fun e0 => ?_))
 ·
  refine Gs 2 rfl (G.ops1 rfl rfl (R.build (v := .agg #[.slice none 0 0, .int .i64 0]) [] rfl (fun _ => by kernel_rfl)) (Gs 2 rfl (G.mem0 rfl (M.storeK Tryz.sizeOf64 rfl rfl rfl rfl (by simp [Value.oneCell']) hB_rc (by simp)) ?_)))
  rintro wf ⟨_, hBf, hkf⟩
  refine Gs 5 rfl (G.retTCT Tryz.results73 rfl rfl (run_loadK Tryz.isAgg64 Tryz.sizeOf64 rfl hBf.cells) rfl ?_)
  have hne : (if gcheckN f g ≠ 0 then gcheckN f g else startCode f.vars r) = gcheckN f g := if_pos e0
  exact ⟨_, rfl, ⟨_, _, _, _, rfl, hne.symm, fun _ => ⟨rfl, rfl, rfl⟩, fun h => absurd h e0⟩, hE.trans hkf (fun q hq h => by have h : q = rc := h; omega)⟩
 ·
  have e0' : gcheckN f g = 0 := by omega
  have hck : checkN f = 0 := by
   unfold gcheckN at e0'
   split at e0'
   · rename_i h; exact absurd e0' h
   · rename_i h; omega
  have hgg : cfgN f = g := by
   unfold gcheckN at e0'
   rw [if_neg (by omega)] at e0'
   split at e0'
   · assumption
   · cases e0'
  have V : Valid f := ⟨hck, hsz, hbk⟩
  subst hgg
  have hne : (if gcheckN f (cfgN f) ≠ 0 then gcheckN f (cfgN f) else startCode f.vars r) = startCode f.vars r := if_neg e0
  have hl64 := V.lens
  refine Gs 4 rfl (G.ldK rfl Tryz.isAgg26 Tryz.sizeOf26 hB_b.cells rfl (G.ldK rfl Tryz.isAgg52 Tryz.sizeOf52 hB_bi.cells rfl ?_))
  have hE1 := hE
  have hszE := hE.size
  refine G.call rfl Tryz.call121 (start_ok f r _ _ _ _ _ _ D _ hf (hi1.ext stable_int hE) (hi2.ext stable_int hE) (hi3.ext stable_int hE) (fun q hq => by have := hDw q hq; omega) V.kinds (by omega)) ?_
  rintro _ u1 ⟨⟨vv, rfl, hvv⟩, uk1⟩
  obtain ⟨hE, hf, hg, hB_b, hB_bg, hB_bi, hB_rc⟩ := Tr7 uk1 hE hf hg hB_b hB_bg hB_bi hB_rc
  refine Gs 14 rfl (G.ite rfl (fun e1 => ?_) (fun e1 => ?_))
  ·
   refine Gs 2 rfl (G.ops1 rfl rfl (R.build (v := .agg #[.slice none 0 0, .int .i64 0]) [] rfl (fun _ => by kernel_rfl)) (Gs 2 rfl (G.mem0 rfl (M.storeK Tryz.sizeOf64 rfl rfl rfl rfl (by simp [Value.oneCell']) hB_rc (by simp)) ?_)))
   rintro wf ⟨_, hBf, hkf⟩
   refine Gs 5 rfl (G.retTCT Tryz.results73 rfl rfl (run_loadK Tryz.isAgg64 Tryz.sizeOf64 rfl hBf.cells) rfl ?_)
   exact ⟨_, rfl, ⟨_, _, _, _, rfl, hne.symm, fun _ => ⟨rfl, rfl, rfl⟩, fun h => absurd h e1⟩, hE.trans hkf (fun q hq h => by have h : q = rc := h; omega)⟩
  ·
   have hs0 : startCode f.vars r = 0 := by omega
   obtain ⟨hov, hfv⟩ := hvv hs0
   have hV0 := start_inv hs0
   rw [← mapI] at hov
   obtain ⟨va, vc, rfl, _⟩ := own_slice hov
   generalize hvals : startVals f.vars r = vals at *
   have hvl := hV0.len
   refine Gs 3 rfl (Dw (fun q => Blk q b [v1, .slice ah f.hatches.length ch, v3] 26) [] (fun u2 uk2 _ => ?_))
   obtain ⟨hE, hf, hg, hB_b, hB_bg, hB_bi, hB_rc⟩ := Tr7 uk2 hE hf hg hB_b hB_bg hB_bi hB_rc
   have hov2 := own_keep hov uk2 (fun _ _ h => h)
   refine WD.take 0 rfl (by kernel_rfl) rfl rfl rfl hB_b (fun w1 hw1 => R.loadK Tryz.isAgg26 Tryz.sizeOf26 rfl (by rfl) hw1.cells) (Ds [1] (by kernel_rfl) rfl (WD.take 2 rfl (by kernel_rfl) rfl rfl rfl hB_b (fun w1 hw1 => R.load Tryz.isAgg24 rfl (hw1.cells 2 _ rfl)) (Ds [4] (by kernel_rfl) rfl ?_)))
   refine WD.many (fuel := 3) (L3 := #[true, true, true, true, true, true, false, false, false]) [⟨3, _, 37, fun a v a' => OwnR 86 10 RSt D a' v (preL f.body) ∧ (∀ g, v.ownBlock = some g → a.heap.size ≤ g) ∧ Ext a a'⟩, ⟨5, _, 39, fun a v a' => ∃ b, v = .map (some b) ∧ b = a.heap.size ∧ a'.heap.size = a.heap.size + 1 ∧ MapI a' b [] ∧ Ext a a'⟩]
    (List.forall_mem_cons.2 ⟨⟨rfl, rfl, rfl, rfl, rfl⟩, List.forall_mem_cons.2 ⟨⟨rfl, rfl, rfl, rfl, rfl⟩, by simp⟩⟩)
    (show List.Nodup [37, 39] by decide) (show List.Nodup [3, 5] by decide) (by kernel_rfl) (fun w' h => h.blk hB_b (fun h => h)) ?_ ?_ ?_
   · exact List.forall_mem_cons.2 ⟨fun a v a' h => h.2.2, List.forall_mem_cons.2 ⟨fun a v a' ⟨_, _, _, _, _, h⟩ => h, by simp⟩⟩
   · exact List.forall_mem_cons.2 ⟨fun w' h => Does.call (F.call (vs := [_]) Tryz.call80 rfl) (flatten_ok f.body _ D w' (hf.body.ext stable_st h) (fun q hq => by have := hDw q hq; have := hE.size; have := h.size; omega) (by have := V.ssize; omega)), List.forall_mem_cons.2 ⟨fun w' h => Does.of M.makeMap, by simp⟩⟩
   intro val wm hEm hmade hap
   obtain ⟨a3, a3', k3, ⟨hfl, hflf, hfle⟩, k3'⟩ := hmade _ (List.mem_cons_self ..)
   obtain ⟨a5, a5', k5, ⟨m, e5, hm5, hsz5, hM5, hk5⟩, k5'⟩ := hmade _ (List.mem_cons_of_mem _ (List.mem_cons_self ..))
   replace hfl := hfl.ext stable_st k3'
   replace hM5 := hM5.ext k5'
   obtain ⟨sa, sc, hsv, _⟩ := hfl.form
   simp only at hfl hflf e5 hsv
   rw [hsv] at hfl hflf
   have hov3 := own_keep hov2 hEm (fun _ _ h => h)
   obtain ⟨hE, hf, hg, hB_b, hB_bg, hB_bi, hB_rc⟩ := Tr7 hEm hE hf hg hB_b hB_bg hB_bi hB_rc
   show WD _ _ _ _ _ _ _ _ ((37, val 37) :: (39, val 39) :: _) _
   rw [e5, hsv]
   have hmw : w.heap.size ≤ m := by have := k5.size; have := uk2.size; have := uk1.size; omega
   refine WD.takeW 6 rfl (by kernel_rfl) rfl rfl rfl (fun w1 => R.build (v := .agg #[v1, .slice ah f.hatches.length ch, v3, .slice sa (preL f.body).length sc, .slice va f.vars.length vc, .slice none 0 0, .map (some m), .slice none 0 0, .int .i64 0]) [(0, _), (1, _), (2, _), (4, _)] rfl (fun _ => by kernel_rfl)) (WD.mem 7 rfl (by kernel_rfl) rfl rfl rfl (M.box rfl rfl) ?_)
   rintro _ w8 ⟨W, rfl, hW, hs8, hB8, hk8⟩
   refine ⟨fun _ => hk8.blk hB_b (fun h => h), ?_⟩
   obtain ⟨hE, hf, hg, hB_b, hB_bg, hB_bi, hB_rc⟩ := Tr7 hk8 hE hf hg hB_b hB_bg hB_bi hB_rc
   have hszm := hE.size
   have hWw : w.heap.size ≤ W := by have := k5.size; have := uk2.size; have := uk1.size; have := hEm.size; omega
   have hsvb : ∀ g, Value.ownBlock (.slice sa (preL f.body).length sc) = some g → g < wm.heap.size ∧ ∃ cs, Blk w8 g cs 86 := fun g hg => by
    obtain ⟨cs, hb⟩ := hfl.ty hg
    exact ⟨hb.lt, cs, hk8.blk hb (fun h => h)⟩
   generalize hD2 : (fun q => D q ∨ Value.ownBlock (.slice sa (preL f.body).length sc) = some q) = D2
   have hD2i : ∀ q, D2 q ↔ (D q ∨ Value.ownBlock (.slice sa (preL f.body).length sc) = some q) := fun q => by rw [← hD2]
   have hov8 := own_keep hov3 hk8 (fun _ _ h => h)
   have hM8 := hM5.ext hk8
   have hnil : ∀ g, Value.ownBlock (.slice none 0 0) ≠ some g := fun g h => by simp [Value.ownBlock] at h
   have hz0 : WkS D2 f [] w8 ⟨vals, [], 0⟩ ⟨W, m, v1, .slice ah f.hatches.length ch, v3, .slice sa (preL f.body).length sc, .slice va f.vars.length vc, .slice none 0 0, .slice none 0 0, []⟩ := by
    refine ⟨hB8, rflWide hf (fun q hq => (hD2i q).2 (.inl hq)), (hfl.ext stable_st hk8).sl (by decide) stable_st (fun q hq => (hD2i q).2 (.inl hq)) (fun g hg => (hD2i g).2 (.inr hg)), by rw [hvl]; exact hov8, own_nil _ _ _, own_nil _ _ _, hM8, fun q hq => ?_, fun hq => ?_, fun hq => ?_, fun g hg => ⟨fun hq => ?_, hnil g, hnil g⟩, fun g hg => absurd hg (hnil g)⟩
    ·
     rcases (hD2i q).1 hq with h | h
     · have := hDw q h; omega
     · have := (hsvb q h).1; omega
    ·
     rcases (hD2i W).1 hq with h | h
     · have := hDw W h; omega
     · have := (hsvb W h).1; omega
    ·
     rcases (hD2i m).1 hq with h | h
     · have := hDw m h; omega
     · obtain ⟨cs, hb⟩ := (hsvb m h).2; exact hM8.ne hb rfl
    ·
     obtain ⟨cs, hb⟩ := own_blkty hov8 hg
     rcases (hD2i g).1 hq with h | h
     · have := hDw g h; have := hfv g hg; omega
     ·
      obtain ⟨cs', hb'⟩ := (hsvb g h).2
      exact absurd (hb.ty hb').1 (by decide)
   have hfar0 : ∀ g, KW ⟨W, m, v1, .slice ah f.hatches.length ch, v3, .slice sa (preL f.body).length sc, .slice va f.vars.length vc, .slice none 0 0, .slice none 0 0, []⟩ g → w.heap.size ≤ g := by
    rintro g (rfl | rfl | h | h)
    · exact hWw
    · exact hmw
    · have := hfv g h; omega
    · exact absurd h (hnil g)
   refine Ds [8] (by kernel_rfl) rfl (G.done (by kernel_rfl) ?_ _)
   refine Gs 5 rfl (G.ld rfl Tryz.isAgg23 (hB_b.cells 1 _ rfl) (Gs 5 rfl (G.loop (σ := Nat × Value) (fun ⟨i, hvv⟩ => [(4, .pointer (some ⟨bg, 0, none⟩)), (7, .pointer (some ⟨rc, 0, none⟩)), (12, .pointer (some ⟨W, 0, none⟩)), (43, .slice ah f.hatches.length ch), (44, .int .i64 f.hatches.length), (45, .int .i64 i)]) (fun ⟨i, hvv⟩ => fun w' => i ≤ f.hatches.length ∧ WkS D2 f (hatV vals (f.hatches.take i)) w' ⟨vals, [], 0⟩ ⟨W, m, v1, .slice ah f.hatches.length ch, v3, .slice sa (preL f.body).length sc, .slice va f.vars.length vc, hvv, .slice none 0 0, []⟩ ∧ (∀ g, hvv.ownBlock = some g → w8.heap.size ≤ g) ∧ Blk w' bg [.slice ag (cfgN f).length cg] 31 ∧ Blk w' rc [.slice none 0 0, .int .i64 0] 64 ∧ w8.heap.size ≤ w'.heap.size ∧ Ext w w') (fun ⟨i, hvv⟩ => f.hatches.length - i) ((0, .slice none 0 0)) (Sub.of rfl) (⟨Nat.zero_le _, hz0, fun g hg => absurd hg (hnil g), hB_bg, hB_rc, Nat.le_refl _, hE⟩) ?_)))
   rintro ⟨i, hvv⟩ x1 ⟨hi, hz, hhf, hB_bg, hB_rc, hsz8, hE⟩
   show G _ _ _ _ _ [(4, .pointer (some ⟨bg, 0, none⟩)), (7, .pointer (some ⟨rc, 0, none⟩)), (12, .pointer (some ⟨W, 0, none⟩)), (43, .slice ah f.hatches.length ch), (44, .int .i64 f.hatches.length), (45, .int .i64 i)] _
   have hhsw := hf0.hatches.ext stable_ht hE
   have hD2n : ∀ g, hvv.ownBlock = some g → ¬ D2 g := fun g hg hq => by
    have := hhf g hg
    have := hz0.low g hq
    omega
   refine Gs 6 rfl (G.ite rfl (fun hlt => ?_) (fun hge => ?_))
   ·
    obtain ⟨x, he_x⟩ : ∃ x, f.hatches[i]? = some x := ⟨_, List.getElem?_eq_getElem (by omega)⟩
    have hm_x := List.mem_of_getElem? he_x
    obtain ⟨b_x, o_x, c_x, ha_x, _, hc_x, hR_x⟩ := hhsw.at he_x
    have h1_x := RHt.one hR_x
    obtain ⟨v1_x, rfl, hk_x⟩ := hR_x
    obtain ⟨a1_x, n1_x, rfl⟩ := hk_x.form
    have hlt_x : b_x < _ := World.block_lt_of_cell? _ _ (hc_x 0 _ rfl)
    obtain ⟨hx1, hx2, hx3, hx4⟩ := V.hatch x hm_x
    have hV1 : InV f.vars vals := hV0
    refine Gs 6 rfl (G.ops1 rfl rfl (R.indexS Tryz.runUnderlying23 Tryz.sizeOf109 rfl rfl ha_x (by omega)) (G.ldK rfl Tryz.isAgg109 Tryz.sizeOf109 hc_x rfl (G.mem rfl rfl (M.alloc (cs := _) Tryz.zeroValue109 rfl) ?_)))
    rintro _ wa2 ⟨c, rfl, hg_c, hs_c, hB_c, hk_c⟩
    refine G.mem0 rfl (M.storeK Tryz.sizeOf109 rfl rfl rfl rfl h1_x hB_c (by simp)) ?_
    rintro w_c ⟨_, hB_c, hkk_c⟩
    replace hk_c := hk_c.trans hkk_c (fun q hq h => by have h : q = c := h; omega)
    have hn_bg_c : bg ≠ c := by have := hB_bg.lt; omega
    have hn_rc_c : rc ≠ c := by have := hB_rc.lt; omega
    have hge_c : _ ≤ c := Nat.le_trans hE.size (Nat.le_of_eq hg_c.symm)
    obtain ⟨hE, hB_bg, hB_rc, hc_x, hk_x⟩ := Tr5 hk_c hE hB_bg hB_rc hc_x hk_x
    have hzc := hz.ext hk_c
    have hWc := hzc.blk
    refine Gs 2 rfl (Dw (fun q => Blk q c [.string x.name, .int .i64 x.low, .int .i64 x.high, .int .i64 x.term.op, .int .i64 x.term.n, .slice a1_x x.term.kids.length n1_x] 109 ∧ Blk q W [v1, .slice ah f.hatches.length ch, v3, .slice sa (preL f.body).length sc, .slice va f.vars.length vc, hvv, .map (some m), .slice none 0 0, .int .i64 0] 182) [19] (fun x2 xk2 _ => ?_))
    have hz2 := hzc.ext xk2
    obtain ⟨hE, hB_bg, hB_rc, hc_x, hk_x, hB_c⟩ := Tr6 xk2 hE hB_bg hB_rc hc_x hk_x hB_c
    refine Ds [0, 1, 2, 3] (by kernel_rfl) rfl (WD.take 4 rfl (by kernel_rfl) rfl rfl rfl ⟨hB_c, hz2.blk⟩ (fun w1 hw1 => R.load Tryz.isAgg50 rfl (hw1.2.cells 5 _ rfl)) (Ds [5, 6] (by kernel_rfl) rfl (WD.take 7 rfl (by kernel_rfl) rfl rfl rfl ⟨hB_c, hz2.blk⟩ (fun w1 hw1 => R.loadK Tryz.isAgg84 Tryz.sizeOf84 rfl (by rfl) (hw1.1.cells.sub 3 3)) (Ds [9] (by kernel_rfl) rfl (WD.take 10 rfl (by kernel_rfl) rfl rfl rfl ⟨hB_c, hz2.blk⟩ (fun w1 hw1 => R.load Tryz.isAgg3 rfl (hw1.1.cells 1 _ rfl)) (Ds [12] (by kernel_rfl) rfl (WD.take 13 rfl (by kernel_rfl) rfl rfl rfl ⟨hB_c, hz2.blk⟩ (fun w1 hw1 => R.load Tryz.isAgg3 rfl (hw1.1.cells 2 _ rfl)) ?_)))))))
    refine WD.call 8 rfl (by kernel_rfl) rfl rfl rfl (F.call (vs := [_, _]) Tryz.call122 rfl) (wValue_ok hz2 V.good hV1 x.term hx1 hx2 hx3 _ _ (RTm.put hk_x)) ?_
    rintro _ x3 ⟨rfl, xk3⟩
    have hz3 := hz2.ext xk3
    obtain ⟨hE, hB_bg, hB_rc, hc_x, hk_x, hB_c⟩ := Tr6 xk3 hE hB_bg hB_rc hc_x hk_x hB_c
    refine ⟨fun _ => ⟨hB_c, hz3.blk⟩, ?_⟩
    refine Ds [11, 14] (by kernel_rfl) rfl ?_
    have hcl : min (max (valT vals x.term) x.low) x.high = clampI (valT vals x.term) x.low x.high := by
     unfold clampI
     (repeat' split); all_goals omega
    rw [hcl]
    refine WD.mem 15 rfl (by kernel_rfl) rfl rfl rfl (M.buildSlice (cs := [.int .i64 (clampI (valT vals x.term) x.low x.high)]) [(0, _)] Tryz.runUnderlying50 Tryz.sizeOf3 Tryz.zeroValue3 (by decide) rfl (by kernel_rfl)) ?_
    rintro _ x4 ⟨g4, rfl, hg4, hs4, hB4, xk4⟩
    have hz4 := hz3.ext xk4
    obtain ⟨hE, hB_bg, hB_rc, hc_x, hk_x, hB_c⟩ := Tr6 xk4 hE hB_bg hB_rc hc_x hk_x hB_c
    refine ⟨fun _ => ⟨hB_c, hz4.blk⟩, ?_⟩
    have hho := hz4.hats
    have hhl : (hatV vals (f.hatches.take i)).length ≤ 8 := by unfold hatV; rw [List.length_map, List.length_take]; omega
    refine WD.mem 16 rfl (by kernel_rfl) rfl rfl rfl (M.append Tryz.underlying50 Tryz.el3 rfl (by decide) rfl rfl hho rfl (Cells.add hB4.cells) (by simp [Value.oneCell']) (by omega) (by omega)) ?_
    rintro hv' x5 ⟨ho5, hf5, xk5, _⟩
    have hnty : ∀ (k : Nat) (cs : List Value) (e : TypeId), Blk x4 k cs e → e ≠ 3 → hvv.ownBlock ≠ some k := fun k cs e hb he h => by
     obtain ⟨cs', hb'⟩ := own_blkty hho h
     exact he (hb.ty hb').1
    have yW := xk5.blk hz4.blk (hnty _ _ _ hz4.blk (by decide))
    have yc := xk5.blk hB_c (hnty _ _ _ hB_c (by decide))
    refine ⟨fun _ => ⟨yc, yW⟩, ?_⟩
    refine Ds [17, 18] (by kernel_rfl) rfl ?_
    obtain ⟨ha', hc', rfl⟩ := own_form ho5
    refine WD.mem0 19 rfl (by kernel_rfl) rfl rfl (M.store Tryz.sizeOf50 rfl rfl rfl rfl yW (by simp)) ?_
    rintro x6 hw6
    refine ⟨fun h => absurd (by simp) h, ?_⟩
    have hz6 := hz4.hatsPush ho5 hf5 xk5 hw6 hD2n
    rw [← hatV_take he_x] at hz6
    have hK46 : Keep (fun q => hvv.ownBlock = some q ∨ q = W) x4 x6 := (Keep.mono xk5 (fun _ _ e => .inl e)).trans hw6.2.2 (fun _ _ e => .inr e)
    have hfin : ∀ (k : Nat) (cs : List Value) (e : TypeId), Blk x4 k cs e → e ≠ 3 → e ≠ 182 → Blk x6 k cs e := fun k cs e hb he he2 => hK46.blk hb (fun h => h.elim (hnty k cs e hb he) (fun h => he2 ((by rw [h] at hb; exact hb.ty hz4.blk : e = _ ∧ _).1)))
    have hE6 : Ext w x6 := hE.trans hK46 (fun q hq h => by
     rcases h with h | h
     · have := hhf q h; have := hszm; omega
     ·
      omega)
    refine G.done (by kernel_rfl) ?_ _
    refine Ga 6 rfl (by omega) (G.back ((i + 1, .slice ha' ((hatV vals (f.hatches.take i)).length + 1) hc')) (Sub.of rfl) (⟨by omega, hz6, fun g hg => ?_, hfin _ _ _ hB_bg (by decide) (by decide), hfin _ _ _ hB_rc (by decide) (by decide), by have := hk_c.size; have := xk2.size; have := xk3.size; have := xk4.size; have := hK46.size; omega, hE6⟩) (by first | omega | (dsimp only; omega)))
    rcases hf5 with e | ⟨g', e, e'⟩
    · exact hhf g (by rw [← e]; exact hg)
    ·
     rw [e] at hg; cases hg
     have := hk_c.size; have := xk2.size; have := xk3.size; have := xk4.size; omega
   ·
    have hii : i = f.hatches.length := by omega
    subst hii
    rw [List.take_length] at hz
    obtain ⟨K, rd', hK8, hgo⟩ := V.walk (hatV vals f.hatches) ⟨vals, [], 0⟩
    have hhl : (hatV vals f.hatches).length = f.hatches.length := by unfold hatV; rw [List.length_map]
    generalize hhs : hatV vals f.hatches = hs at *
    have hlenG := cfgN_len f V.plain
    have hwlG := widL_le f.body
    have hszG := V.ssize
    refine Gs 7 rfl (G.mem rfl rfl (M.buildSlice (cs := [.int .i64 0]) [(0, _)] Tryz.runUnderlying50 Tryz.sizeOf3 Tryz.zeroValue3 (by decide) rfl (by kernel_rfl)) ?_)
    rintro _ y1 ⟨gp, rfl, hgp, hsp, hBp, yk1⟩
    have hzp := hz.ext yk1
    obtain ⟨hE, hB_bg, hB_rc⟩ := Tr3 yk1 hE hB_bg hB_rc
    have hI0 : WalkI D2 f hs ⟨vals, [], 0⟩ w y1 0 W (.slice (some ⟨gp, 0, none⟩) 1 1) ⟨W, m, v1, .slice ah f.hatches.length ch, v3, .slice sa (preL f.body).length sc, .slice va f.vars.length vc, hvv, .slice none 0 0, []⟩ := by
     refine ⟨hzp, rfl, fun k => by simp [getM, lkm, iterM], ⟨hV0, by simp [iterM], by simp [iterM], fun k => by simp [iterM]⟩, ?_, fun g hg => ?_, ?_, hE⟩
     ·
      have := own_blk (k := 1) (n := 1) (cap := 1) hBp (Nat.le_refl _) (by decide) rfl
      exact this
     ·
      obtain rfl : gp = g := Option.some.inj hg
      have hlt : ∀ q, KW ⟨W, m, v1, .slice ah f.hatches.length ch, v3, .slice sa (preL f.body).length sc, .slice va f.vars.length vc, hvv, .slice none 0 0, []⟩ q → q < x1.heap.size := by
       rintro q (rfl | rfl | h | h)
       · exact hz.blk.lt
       · exact hz.map.lt
       · exact own_lt hz.vals h
       · exact own_lt hz.outs h
      refine ⟨fun h => by have := hlt _ h; omega, fun h => by have := own_lt hz.hats h; omega, fun h => by have := hz.low _ h; omega, ?_⟩
      have := hE.size; have := yk1.size; omega
     ·
      rintro g (rfl | rfl | h | h)
      · exact hWw
      · exact hmw
      · have := hfv g h; omega
      · exact absurd h (hnil g)
    refine Gs 10 rfl (G.loop (σ := Nat × Value × WkV) (fun ⟨j, vp, z⟩ => [(4, .pointer (some ⟨bg, 0, none⟩)), (7, .pointer (some ⟨rc, 0, none⟩)), (12, .pointer (some ⟨W, 0, none⟩)), (15, vp), (16, .int .i64 (iterM f hs (cfgN f) j ⟨0, ⟨vals, [], 0⟩, fun _ => 0⟩).at_)]) (fun ⟨j, vp, z⟩ => fun w' => j ≤ K ∧ WalkI D2 f hs ⟨vals, [], 0⟩ w w' j W vp z ∧ Blk w' bg [.slice ag (cfgN f).length cg] 31 ∧ Blk w' rc [.slice none 0 0, .int .i64 0] 64) (fun ⟨j, vp, z⟩ => K - j) ((0, .slice (some ⟨gp, 0, none⟩) 1 1, ⟨W, m, v1, .slice ah f.hatches.length ch, v3, .slice sa (preL f.body).length sc, .slice va f.vars.length vc, hvv, .slice none 0 0, []⟩)) (Sub.of rfl) (⟨Nat.zero_le _, hI0, hB_bg, hB_rc⟩) ?_)
    rintro ⟨j, vp, z⟩ z1 ⟨hj, hI, hB_bg, hB_rc⟩
    show G _ _ _ _ _ [(4, .pointer (some ⟨bg, 0, none⟩)), (7, .pointer (some ⟨rc, 0, none⟩)), (12, .pointer (some ⟨W, 0, none⟩)), (15, vp), (16, .int .i64 (iterM f hs (cfgN f) j ⟨0, ⟨vals, [], 0⟩, fun _ => 0⟩).at_)] _
    refine Gs 5 rfl (G.ld rfl Tryz.isAgg29 (hB_bg.cells 0 _ rfl) (Ga 5 rfl (by omega) ?_))
    obtain ⟨iSt, iW, iRd, iInv, iPath, iAp, iFar, iE⟩ := hI
    have hgw := hg0.ext stable_nd iE
    refine G.ite rfl (fun hlt => ?_) (fun hge => ?_)
    ·
     have hjK : j < K := by
      rcases Nat.lt_or_ge j K with h | h
      · exact h
      ·
       exfalso
       have e : j = K := by omega
       rw [e, hgo.1] at hlt
       dsimp only at hlt
       omega
     have hat := (hgo.2 j hjK)
     obtain ⟨hget, hno⟩ := V.node hat.1 hat.2
     have hsucc := iterM_succ f hs (cfgN f) j ⟨0, ⟨vals, [], 0⟩, fun _ => 0⟩
     generalize hm : iterM f hs (cfgN f) j ⟨0, ⟨vals, [], 0⟩, fun _ => 0⟩ = m at *
     obtain ⟨bq, oq, cq, haq, _, hcq, rfl⟩ := hgw.at hget
     have hinv2 := stepM_inv (hs := hs) (g := cfgN f) V.good hno iInv
     rw [← hsucc] at hinv2
     have htime := iInv.time
     have houts := iInv.outs
     refine Gs 7 rfl (G.ld rfl Tryz.isAgg29 (hB_bg.cells 0 _ rfl) (Gs 1 rfl (G.ops1 rfl rfl (R.indexS Tryz.runUnderlying29 Tryz.sizeOf40 rfl rfl haq (by omega)) (G.ldK rfl Tryz.isAgg40 Tryz.sizeOf40 hcq rfl ?_))))
     have hpass := wPass_ok iSt V.good iInv.inv (ndAt (cfgN f) m.at_) (stAt f (ndAt (cfgN f) m.at_).at_) hno.kind (fun h => ⟨(hno.step h).1, (hno.step h).2.1, (hno.step h).2.2.1⟩) hhl (by omega) (by omega) m.rd iRd (fun _ => by have := iInv.rd (ndAt (cfgN f) m.at_).at_; omega)
     rw [iW] at hpass
     refine G.call rfl Tryz.call123 hpass ?_
     rintro _ z2 ⟨rfl, z', hSt2, hM2, hRd2, hK2⟩
     have e1 : (passN f hs (ndAt (cfgN f) m.at_) (stAt f (ndAt (cfgN f) m.at_).at_) m.σ m.rd).1 = (iterM f hs (cfgN f) (j + 1) ⟨0, ⟨vals, [], 0⟩, fun _ => 0⟩).at_ := by rw [hsucc]; rfl
     have e2 : (passN f hs (ndAt (cfgN f) m.at_) (stAt f (ndAt (cfgN f) m.at_).at_) m.σ m.rd).2.1 = (iterM f hs (cfgN f) (j + 1) ⟨0, ⟨vals, [], 0⟩, fun _ => 0⟩).σ := by rw [hsucc]; rfl
     have e3 : (passN f hs (ndAt (cfgN f) m.at_) (stAt f (ndAt (cfgN f) m.at_).at_) m.σ m.rd).2.2 = (iterM f hs (cfgN f) (j + 1) ⟨0, ⟨vals, [], 0⟩, fun _ => 0⟩).rd := by rw [hsucc]; rfl
     rw [e2] at hSt2
     rw [e3] at hRd2
     rw [e1]
     have hBg2 := hK2.blk hB_bg (KW.ne86 iSt hB_bg (by decide) (by decide))
     have hBr2 := hK2.blk hB_rc (KW.ne86 iSt hB_rc (by decide) (by decide))
     have hP2 := own_keep iPath hK2 (fun g hg => (iAp g hg).1)
     have hE2 : Ext w z2 := Keep.trans iE hK2 (fun q hq h => by have := iFar q h; omega)
     have hKW' : ∀ q, KW z' q → KW z q ∨ z1.heap.size ≤ q := by
      rintro q (h | h | h | h)
      · exact .inl (.inl (by rw [h, hM2.W]))
      · exact .inl (.inr (.inl (by rw [h, hM2.m])))
      · exact .inl (.inr (.inr (.inl (by rw [← hM2.vv]; exact h))))
      ·
       rcases hM2.ov with e | ⟨g', e, e'⟩
       · exact .inl (.inr (.inr (.inr (by rw [← e]; exact h))))
       · rw [e] at h; cases h; exact .inr e'
     have hAp2 : ∀ g, vp.ownBlock = some g → ¬ KW z' g ∧ z'.hv.ownBlock ≠ some g ∧ ¬ D2 g ∧ w.heap.size ≤ g := fun g hg => by
      obtain ⟨q1, q2, q3, q4⟩ := iAp g hg
      refine ⟨fun h => ?_, by rw [hM2.hv]; exact q2, q3, q4⟩
      rcases hKW' g h with h | h
      · exact q1 h
      · have := own_lt iPath hg; omega
     have hFar2 : ∀ g, KW z' g → w.heap.size ≤ g := fun g hg => by
      rcases hKW' g hg with h | h
      · exact iFar g h
      · have := iE.size; omega
     refine Gs 6 rfl (G.mem rfl rfl (M.buildSlice (cs := [.int .i64 (iterM f hs (cfgN f) (j + 1) ⟨0, ⟨vals, [], 0⟩, fun _ => 0⟩).at_]) [(0, _)] Tryz.runUnderlying50 Tryz.sizeOf3 Tryz.zeroValue3 (by decide) rfl (by kernel_rfl)) ?_)
     rintro _ z3 ⟨g3, rfl, hg3, hs3, hB3, hk3⟩
     have hP3 := own_keep hP2 hk3 (fun _ _ h => h)
     refine G.mem rfl rfl (M.append Tryz.underlying50 Tryz.el3 rfl (by decide) rfl rfl hP3 rfl (Cells.add hB3.cells) (by simp [Value.oneCell']) (by omega) (by omega)) ?_
     rintro vp' z4 ⟨ho4, hf4, hk4, _⟩
     have hSt3 := hSt2.ext hk3
     have hSt4 := hSt3.keepP hk4 (fun q hq h => (hAp2 q h).1 hq) (fun q hq h => (hAp2 q h).2.2.1 hq) (fun g hg h => (hAp2 g h).2.1 hg)
     have hE4 : Ext w z4 := Keep.trans (hE2.ext hk3) hk4 (fun q hq h => by have := (hAp2 q h).2.2.2; omega)
     have hnp : ∀ (k : Nat) (cs : List Value) (e : TypeId), Blk z3 k cs e → e ≠ 3 → vp.ownBlock ≠ some k := fun k cs e hb he h => by
      obtain ⟨cs', hb'⟩ := own_blkty hP3 h
      exact he (hb.ty hb').1
     have hBg3 := hk3.blk hBg2 (fun h => h)
     have hBr3 := hk3.blk hBr2 (fun h => h)
     refine Gs 3 rfl (G.back ((j + 1, vp', z')) (Sub.of rfl) (⟨by omega, ⟨hSt4, by rw [hM2.W]; exact iW, hRd2, hinv2, ?_, ?_, hFar2, hE4⟩, hk4.blk hBg3 (hnp _ _ _ hBg3 (by decide)), hk4.blk hBr3 (hnp _ _ _ hBr3 (by decide))⟩) (by first | omega | (dsimp only; omega)))
     ·
      rw [List.range_succ, List.map_append, List.map_append]
      exact ho4
     ·
      intro g hg
      rcases hf4 with e | ⟨g', e, e'⟩
      · exact hAp2 g (by rw [← e]; exact hg)
      ·
       rw [e] at hg; cases hg
       have hlt : ∀ q, KW z' q → q < z3.heap.size := by
        rintro q (rfl | rfl | h | h)
        · exact hSt3.blk.lt
        · exact hSt3.map.lt
        · exact own_lt hSt3.vals h
        · exact own_lt hSt3.outs h
       refine ⟨fun h => by have := hlt _ h; omega, fun h => by have := own_lt hSt3.hats h; omega, fun h => by have := hSt3.low _ h; omega, ?_⟩
       have := (hE2.ext hk3).size; omega
    ·
     have hjK : j = K := by
      rcases Nat.lt_or_ge j K with h | h
      · have := (hgo.2 j h).2; omega
      · omega
     subst hjK
     have hfin := hgo.1
     rw [hfin] at iSt
     have hWb := iSt.blk
     rw [iW] at hWb
     dsimp only at hWb
     obtain ⟨oa, oc, hoa, _⟩ := own_slice iSt.outs
     rw [hoa] at hWb
     refine Gs 6 rfl (Dw (fun q => Ext z1 q) [6] (fun z2 hz2 _ => ?_))
     refine Ds [0, 1, 2, 3] (by kernel_rfl) rfl (WD.take 4 rfl (by kernel_rfl) rfl rfl rfl hz2 (fun w1 hw1 => R.loadK Tryz.isAgg64 Tryz.sizeOf64 rfl (by rfl) ((hw1.blk hWb (fun h => h)).cells.sub 7 2)) (Ds [5] (by kernel_rfl) rfl (WD.mem0 6 rfl (by kernel_rfl) rfl rfl (M.storeK Tryz.sizeOf64 rfl rfl rfl rfl (by simp [Value.oneCell']) (hz2.blk hB_rc (fun h => h)) (by simp)) ?_)))
     rintro z3 ⟨_, hBf, hkf⟩
     refine ⟨fun h => absurd (by simp) h, ?_⟩
     refine Ds [7] (by kernel_rfl) rfl (G.done (by kernel_rfl) ?_ _)
     refine Gs 2 rfl (G.retTCT Tryz.results73 rfl rfl (run_loadK Tryz.isAgg64 Tryz.sizeOf64 rfl hBf.cells) rfl ?_)
     have hKf : Keep (fun q => q = rc) z1 z3 := Keep.trans (Keep.mono hz2 (fun _ _ h => h.elim)) hkf (fun _ _ h => h)
     have hrcl : w.heap.size ≤ rc := by omega
     have ho1 := own_keep iPath hKf (fun g hg h => by
      obtain ⟨cs', hb'⟩ := own_blkty iPath hg
      exact absurd h (hb'.ne hB_rc (by decide)))
     have ho2 := own_keep iSt.outs hKf (fun g hg h => by
      obtain ⟨cs', hb'⟩ := own_blkty iSt.outs hg
      exact absurd h (hb'.ne hB_rc (by decide)))
     have hlo : ∀ g, z.ov.ownBlock = some g → w.heap.size ≤ g := fun g hg => iFar g (.inr (.inr (.inr hg)))
     rw [hoa] at ho2 hlo
     refine ⟨_, rfl, ⟨_, _, _, _, rfl, by rw [hne, hs0], fun h => absurd rfl h, fun _ => ⟨j, rd', hgo, ?_, ?_, rfl⟩⟩, iE.trans hKf (fun q hq h => by have h : q = rc := h; omega)⟩
     · exact SlR.ofRow1 encI1 (fun x _ => rfl) ho1 (fun g hg => (iAp g hg).2.2.2)
     · exact SlR.ofRow1 encI1 (fun x _ => rfl) ho2 hlo
def walkCode (f : Fl) (g : List Nd) (r : Ins) : Int := if gcheckN f g ≠ 0 then gcheckN f g else startCode f.vars r
abbrev hatsOf (f : Fl) (r : Ins) : List Int := hatV (startVals f.vars r) f.hatches
abbrev sigOf (f : Fl) (r : Ins) : Sg := ⟨startVals f.vars r, [], 0⟩
abbrev mcOf (f : Fl) (r : Ins) : Mc := ⟨0, sigOf f r, fun _ => 0⟩
def finOf (f : Fl) (r : Ins) : Sg := exL f (hatsOf f r) f.body (sigOf f r)
def pathOf (f : Fl) (r : Ins) (K : Nat) : List Int := (List.range (K + 1)).map fun i => (iterM f (hatsOf f r) (cfgN f) i (mcOf f r)).at_
def GoesAll (f : Fl) (r : Ins) (K : Nat) : Prop := ∃ rd', Goes f (hatsOf f r) (cfgN f) 0 ((cfgN f).length - 1) K (mcOf f r) ⟨((cfgN f).length : Int) - 1, finOf f r, rd'⟩
theorem GoesAll.unique {f : Fl} {r : Ins} {K K' : Nat} (h : GoesAll f r K) (h' : GoesAll f r K') : K = K' := by
 obtain ⟨_, h1, h2⟩ := h
 obtain ⟨_, h3, h4⟩ := h'
 rcases Nat.lt_trichotomy K K' with hh | hh | hh
 · have := (h4 K hh).2; rw [h1] at this; dsimp only at this; omega
 · exact hh
 · have := (h2 K' hh).2; rw [h3] at this; dsimp only at this; omega
theorem cfgWalk_ok (f : Fl) (g : List Nd) (r : Ins) (v1 v2 v3 gv s1 s2 s3 : Value) (D0 Dg : Nat → Prop) (w : World) (hf : RFl D0 w f v1 v2 v3) (hg : SlR 4 RNd Dg w gv g) (hi1 : SlR 1 RInt D0 w s1 r.secret) (hi2 : SlR 1 RInt D0 w s2 r.pub) (hi3 : SlR 1 RInt D0 w s3 r.random) (hsz : snodes f.body + hnodes f.hatches ≤ 1024) (hbk : sbulk f.body ≤ 1000000) :
  Calls Tryz.prog 27 #[.agg #[v1, v2, v3], .agg #[gv], .agg #[s1, s2, s3]] w (Ret fun rr w' => (∃ pv, rr = .tuple #[pv, .int .i64 (walkCode f g r)] ∧ (walkCode f g r ≠ 0 → pv = .slice none 0 0) ∧ (walkCode f g r = 0 → ∃ K, GoesAll f r K ∧ SlR 1 RInt (fun b => w.heap.size ≤ b) w' pv (pathOf f r K))) ∧ Ext w w') := by
 obtain ⟨ag, cg, rfl⟩ := hg.form
 have hE := Keep.refl (fun _ => False) w
 refine G.in3 Tryz.func27 rfl Tryz.ntmps27 rfl (Gs 2 rfl (G.mem rfl rfl (M.box rfl rfl) ?_))
 rintro _ w_b ⟨b, rfl, hg_b, hs_b, hB_b, hk_b⟩
 have hge_b : _ ≤ b := Nat.le_trans hE.size (Nat.le_of_eq hg_b.symm)
 obtain ⟨hE, hf, hg⟩ := Tr3 hk_b hE hf hg
 refine G.mem rfl rfl (M.box rfl rfl) ?_
 rintro _ w_bg ⟨bg, rfl, hg_bg, hs_bg, hB_bg, hk_bg⟩
 have hn_b_bg : b ≠ bg := by have := hB_b.lt; omega
 have hge_bg : _ ≤ bg := Nat.le_trans hE.size (Nat.le_of_eq hg_bg.symm)
 obtain ⟨hE, hf, hg, hB_b⟩ := Tr4 hk_bg hE hf hg hB_b
 refine G.mem rfl rfl (M.box rfl rfl) ?_
 rintro _ w_bi ⟨bi, rfl, hg_bi, hs_bi, hB_bi, hk_bi⟩
 have hn_b_bi : b ≠ bi := by have := hB_b.lt; omega
 have hn_bg_bi : bg ≠ bi := by have := hB_bg.lt; omega
 have hge_bi : _ ≤ bi := Nat.le_trans hE.size (Nat.le_of_eq hg_bi.symm)
 obtain ⟨hE, hf, hg, hB_b, hB_bg⟩ := Tr5 hk_bi hE hf hg hB_b hB_bg
 refine Gs 6 rfl (G.ldK rfl Tryz.isAgg26 Tryz.sizeOf26 hB_b.cells rfl (G.ldK rfl Tryz.isAgg31 Tryz.sizeOf31 hB_bg.cells rfl (G.ldK rfl Tryz.isAgg52 Tryz.sizeOf52 hB_bi.cells rfl ?_)))
 have hsE := hE.size
 refine G.call rfl Tryz.call73 (walk_ok f g r _ _ _ _ _ _ _ D0 Dg _ hf hg (hi1.ext stable_int hE) (hi2.ext stable_int hE) (hi3.ext stable_int hE) hsz hbk) ?_
 rintro _ w2 ⟨⟨pv, ov, t, e, rfl, he, h1, h2⟩, hk2⟩
 have hE2 := hE.ext hk2
 have hov : ov.oneCell' = true := by
  by_cases h : e = 0
  ·
   obtain ⟨_, _, _, _, h3, _⟩ := h2 h
   exact h3.one
  · rw [(h1 h).2.1]; rfl
 have hov2 : ∃ a n c, ov = .slice a n c := by
  by_cases h : e = 0
  ·
   obtain ⟨_, _, _, _, h3, _⟩ := h2 h
   obtain ⟨a, c, h4⟩ := h3.form
   exact ⟨_, _, _, h4⟩
  · exact ⟨_, _, _, (h1 h).2.1⟩
 obtain ⟨oa, on, oc, rfl⟩ := hov2
 refine Gs 4 rfl (G.mem rfl rfl (M.alloc (cs := [.slice none 0 0, .int .i64 0]) Tryz.zeroValue64 rfl) ?_)
 rintro _ w3 ⟨c, rfl, hc, hs3, hB3, hk3⟩
 refine Gs 1 rfl (G.mem0 rfl (M.storeK Tryz.sizeOf64 rfl rfl rfl rfl (by simp [Value.oneCell']) hB3 (by simp)) ?_)
 rintro w4 ⟨_, hB4, hk4⟩
 have hk34 : Ext w2 w4 := hk3.trans hk4 (fun q hq h => by have h : q = c := h; omega)
 have hcode : e = walkCode f g r := he
 subst hcode
 refine Gs 12 rfl (G.ret2 Tryz.results27 rfl rfl ⟨_, rfl, ⟨pv, rfl, fun h => (h1 h).1, fun h => ?_⟩, hE2.ext hk34⟩)
 obtain ⟨K, rd', hgo, hp, _⟩ := h2 h
 exact ⟨K, ⟨rd', hgo⟩, (hp.wide stable_int (fun q hq => by omega)).ext stable_int hk34⟩
structure SgB (f : Fl) (N : Nat) (σ : Sg) : Prop where
 inv : InV f.vars σ.vals
 t0 : 0 ≤ σ.time
 t1 : σ.time ≤ (N : Int) * 67108864
 ol : σ.outs.length ≤ N
theorem SgB.mono {f : Fl} {N M : Nat} {σ : Sg} (h : SgB f N σ) (hm : N ≤ M) : SgB f M σ := ⟨h.inv, h.t0, by have := h.t1; omega, by have := h.ol; omega⟩
theorem SgB.cost {f : Fl} {N : Nat} {σ : Sg} {s : St} (h : SgB f N σ) (ho : StepOk f s) : SgB f (N + 1) { σ with time := σ.time + s.cost } := by
 have := ho.cost
 exact ⟨h.inv, by have := h.t0; dsimp only; omega, by have := h.t1; dsimp only; omega, by have := h.ol; dsimp only; omega⟩
abbrev PreOk (f : Fl) (l : List St) : Prop := ∀ s ∈ preL l, StepOk f s ∧ SettleOk s ∧ (s.act = 4 → 0 ≤ s.n)
theorem PreOk.kids {f : Fl} {l : List St} (h : PreOk f l) {x : St} (hx : x ∈ l) : (StepOk f x ∧ SettleOk x ∧ (x.act = 4 → 0 ≤ x.n)) ∧ PreOk f x.thn ∧ PreOk f x.els := by
 have hm : ∀ s ∈ x.pre, s ∈ preL l := by
  intro s hs
  induction l with
  | nil => cases hx
  | cons y r ih =>
   rw [preL, List.mem_append]
   rcases List.mem_cons.1 hx with rfl | hx
   · exact .inl hs
   ·
    refine .inr (ih (fun s hs => h s ?_) hx)
    rw [preL, List.mem_append]; exact .inr hs
 rw [x.pre_eq] at hm
 exact ⟨h x (hm x (by simp)), fun s hs => h s (hm s (by simp [hs])), fun s hs => h s (hm s (by simp [hs]))⟩
end Go.Proofs.YtldhllpogdikdaaGreat
namespace Go.GL
theorem VI.k4 {Bs : Bases} {H : Hp} {w : World} {p0 p1 p2 p3 p4 : World × (Nat → Prop)} (h : VI (p0 :: p1 :: p2 :: p3 :: p4 :: Bs) H w) : Keep p4.2 p4.1 w := (h.base p4 (by simp)).1
theorem VI.k5 {Bs : Bases} {H : Hp} {w : World} {p0 p1 p2 p3 p4 p5 : World × (Nat → Prop)} (h : VI (p0 :: p1 :: p2 :: p3 :: p4 :: p5 :: Bs) H w) : Keep p5.2 p5.1 w := (h.base p5 (by simp)).1
theorem VI.k6 {Bs : Bases} {H : Hp} {w : World} {p0 p1 p2 p3 p4 p5 p6 : World × (Nat → Prop)} (h : VI (p0 :: p1 :: p2 :: p3 :: p4 :: p5 :: p6 :: Bs) H w) : Keep p6.2 p6.1 w := (h.base p6 (by simp)).1
theorem VI.k7 {Bs : Bases} {H : Hp} {w : World} {p0 p1 p2 p3 p4 p5 p6 p7 : World × (Nat → Prop)} (h : VI (p0 :: p1 :: p2 :: p3 :: p4 :: p5 :: p6 :: p7 :: Bs) H w) : Keep p7.2 p7.1 w := (h.base p7 (by simp)).1
theorem VI.k8 {Bs : Bases} {H : Hp} {w : World} {p0 p1 p2 p3 p4 p5 p6 p7 p8 : World × (Nat → Prop)} (h : VI (p0 :: p1 :: p2 :: p3 :: p4 :: p5 :: p6 :: p7 :: p8 :: Bs) H w) : Keep p8.2 p8.1 w := (h.base p8 (by simp)).1
theorem VI.k9 {Bs : Bases} {H : Hp} {w : World} {p0 p1 p2 p3 p4 p5 p6 p7 p8 p9 : World × (Nat → Prop)} (h : VI (p0 :: p1 :: p2 :: p3 :: p4 :: p5 :: p6 :: p7 :: p8 :: p9 :: Bs) H w) : Keep p9.2 p9.1 w := (h.base p9 (by simp)).1
theorem SlR.atD {α : Type} {k : Nat} {R : Rel α} {D : Nat → Prop} {w : World} {ao : Option Addr} {n cap : Nat} {l : List α} (h : SlR k R D w (.slice ao n cap) l) {i : Nat} {x : α} (hx : l[i]? = some x) : ∃ b o cs, ao = some ⟨b, o, none⟩ ∧ D b ∧ Cells w b (o + i * k) cs ∧ R D w x cs := by
 obtain ⟨ao', cap', h1, h2, h3, h4⟩ := h
 cases h1
 obtain ⟨b, o, cs, h5, h6, _, h8, h9⟩ := h4 i x hx
 exact ⟨b, o, cs, h5, h6, h8, h9⟩
end Go.GL
namespace Go.Proofs.YtldhllpogdikdaaGreat
open Go.GL
theorem lay_parts (l : List St) : plainL l = true → ∀ (a n e : Nat) (G : List Nd) (P : List St), CtxG G n (layL l a n e) → CtxP P a (preL l) → ∀ x ∈ layL l a n e,
  (x.kind = 2 → ∃ s, P[x.at_.toNat]? = some s ∧ s.act ≠ 3 ∧ s.act ≠ 4) ∧ (x.kind = 4 → 0 ≤ x.next ∧ ∃ y, G[x.next.toNat]? = some y ∧ y.kind = 5 ∧ y.at_ = x.at_) ∧ (x.kind = 5 → ∃ s, P[x.at_.toNat]? = some s ∧ s.act = 4) := by
 induction l using Sts.ind with
 | h l ih =>
 intro hp
 have key : ∀ r : List St, (∀ x ∈ r, x ∈ l) → ∀ (a n e : Nat) (G : List Nd) (P : List St), CtxG G n (layL r a n e) → CtxP P a (preL r) → ∀ x ∈ layL r a n e,
   (x.kind = 2 → ∃ s, P[x.at_.toNat]? = some s ∧ s.act ≠ 3 ∧ s.act ≠ 4) ∧ (x.kind = 4 → 0 ≤ x.next ∧ ∃ y, G[x.next.toNat]? = some y ∧ y.kind = 5 ∧ y.at_ = x.at_) ∧ (x.kind = 5 → ∃ s, P[x.at_.toNat]? = some s ∧ s.act = 4) := by
  intro r
  induction r with
  | nil => intro _ a n e G P _ _ x hx; simp [layL] at hx
  | cons s r ihr =>
   intro hm a n e G P hG hP x hx
   have hs := plainL_mem hp s (hm s (List.mem_cons_self ..))
   have hps := hs
   rw [s.plainB_eq, Bool.and_eq_true, Bool.and_eq_true] at hs
   have h1 := (ih s (hm s (List.mem_cons_self ..))).1 hs.1.2
   have h2 := (ih s (hm s (List.mem_cons_self ..))).2 hs.2
   have hw := s.wid_eq
   rw [layL] at hG hx
   rw [preL] at hP
   have hlen : (s.lay a n (if r.isEmpty then e else n + s.wid)).length = s.wid := by
    have h1 := layL_len [s] (by rw [plainL, hps]; rfl) a n (if r.isEmpty then e else n + s.wid)
    simpa [layL, widL] using h1
   have hpl : s.pre.length = s.size := by
    have := preL_len [s]
    simpa [preL, ssize] using this
   rw [List.mem_append] at hx
   rcases hx with hx | hx
   ·
    replace hG := hG.left
    replace hP := hP.left
    generalize (if r.isEmpty then e else n + s.wid) = e' at hG hx hlen
    rw [s.lay_eq] at hG hx
    rw [s.pre_eq] at hP
    have hpl1 := preL_len s.thn
    split at hx
    ·
     rename_i a3
     rw [if_pos a3] at hG
     have hl1 := layL_len s.thn hs.1.2 (a + 1) (n + 1) e'
     rw [List.mem_cons, List.mem_append] at hx
     rcases hx with rfl | hx | hx
     · exact ⟨fun h => by (cases h), fun h => by (cases h), fun h => by (cases h)⟩
     · exact h1 _ _ _ G P hG.tail.left hP.tail.left x hx
     · exact h2 _ _ _ G P (hG.tail.right (by omega)) (hP.tail.right (by omega)) x hx
    ·
     rename_i a3
     split at hx
     ·
      rename_i a4
      rw [if_neg a3, if_pos a4] at hG
      rw [List.mem_cons, List.mem_cons] at hx
      rcases hx with rfl | rfl | hx
      · exact ⟨fun h => by (cases h), fun _ => ⟨Int.natCast_nonneg _, ⟨5, a, if s.thn.isEmpty then (n + 1 : Nat) else (n + 2 : Nat), e'⟩, by dsimp only; rw [Int.toNat_natCast]; exact hG.tail.head, rfl, rfl⟩, fun h => by (cases h)⟩
      · exact ⟨fun h => by (cases h), fun h => by (cases h), fun _ => ⟨s, by dsimp only; rw [Int.toNat_natCast]; exact hP.head, a4⟩⟩
      · exact h1 _ _ _ G P hG.tail.tail hP.tail.left x hx
     ·
      rename_i a4
      rw [List.mem_singleton] at hx
      subst hx
      exact ⟨fun _ => ⟨s, by dsimp only; rw [Int.toNat_natCast]; exact hP.head, a3, a4⟩, fun h => by (cases h), fun h => by (cases h)⟩
   · exact ihr (fun y hy => hm y (List.mem_cons_of_mem _ hy)) _ _ _ G P (hG.right (by omega)) (hP.right (by omega)) x hx
 exact key l (fun x h => h)
theorem lay_heads (l : List St) : plainL l = true → ∀ a n e : Nat, (layL l a n e).Pairwise fun x y => x.kind = y.kind → x.at_ ≠ y.at_ := by
 induction l using Sts.ind with
 | h l ih =>
 intro hp
 have key : ∀ r : List St, (∀ x ∈ r, x ∈ l) → ∀ a n e : Nat, (layL r a n e).Pairwise fun x y => x.kind = y.kind → x.at_ ≠ y.at_ := by
  intro r
  induction r with
  | nil => intro _ a n e; simp [layL]
  | cons s r ihr =>
   intro hm a n e
   have hs := plainL_mem hp s (hm s (List.mem_cons_self ..))
   have hr : plainL r = true := plainL_of fun y hy => plainL_mem hp y (hm y (List.mem_cons_of_mem _ hy))
   have hsl := (lay_nums [s] (by rw [plainL, hs]; rfl) a n (if r.isEmpty then e else n + s.wid)).range
   have hrl := (lay_nums r hr (a + s.size) (n + s.wid) e).range
   rw [s.plainB_eq, Bool.and_eq_true, Bool.and_eq_true] at hs
   have h1 := (ih s (hm s (List.mem_cons_self ..))).1 hs.1.2
   have h2 := (ih s (hm s (List.mem_cons_self ..))).2 hs.2
   simp only [layL, List.isEmpty_nil, if_true, List.append_nil, ssize, Nat.add_zero] at hsl
   rw [layL, List.pairwise_append]
   refine ⟨?_, ihr (fun y hy => hm y (List.mem_cons_of_mem _ hy)) _ _ _, fun x hx y hy _ => by have := hsl x hx; have := hrl y hy; omega⟩
   generalize (if r.isEmpty then e else n + s.wid) = e'
   rw [s.lay_eq]
   split
   ·
    have n1 := (lay_nums s.thn hs.1.2 (a + 1) (n + 1) e').range
    have n2 := (lay_nums s.els hs.2 (a + 1 + ssize s.thn) (n + 1 + widL s.thn) e').range
    exact List.Pairwise.cons (fun y hy _ => by
     rcases List.mem_append.1 hy with hy | hy
     · have := n1 y hy; dsimp only; omega
     ·
      have := n2 y hy; dsimp only; omega) (List.pairwise_append.2 ⟨h1 _ _ _, h2 _ _ _, fun x hx y hy _ => by have := n1 x hx; have := n2 y hy; omega⟩)
   ·
    split
    ·
     have n1 := (lay_nums s.thn hs.1.2 (a + 1) (n + 2) (n + 1)).range
     exact List.Pairwise.cons (fun y hy h => by
      rcases List.mem_cons.1 hy with rfl | hy
      · cases h
      ·
       have := n1 y hy; dsimp only; omega) (List.Pairwise.cons (fun y hy _ => by have := n1 y hy; dsimp only; omega) (h1 _ _ _))
    · exact List.Pairwise.cons (fun y hy => by cases hy) List.Pairwise.nil
 exact key l (fun x h => h)
theorem Valid.part {f : Fl} (V : Valid f) {i : Nat} {x : Nd} (hx : (cfgN f)[i]? = some x) :
  (x.kind = 2 → (stAt f x.at_).act ≠ 3 ∧ (stAt f x.at_).act ≠ 4) ∧ (x.kind = 4 → 0 ≤ x.next ∧ ∃ y, (cfgN f)[x.next.toNat]? = some y ∧ y.kind = 5 ∧ y.at_ = x.at_) ∧ (x.kind = 5 → (stAt f x.at_).act = 4) := by
 have hm := List.mem_of_getElem? hx
 have hG : CtxG (cfgN f) 1 (layL f.body 0 1 (1 + widL f.body)) := by
  intro i x hx
  have hi := (List.getElem?_eq_some_iff.1 hx).1
  unfold cfgN
  rw [show 1 + i = i + 1 by omega, List.getElem?_cons_succ, List.getElem?_append_left hi]; exact hx
 unfold cfgN at hm
 rw [List.mem_cons, List.mem_append, List.mem_singleton] at hm
 rcases hm with rfl | hm | rfl
 · exact ⟨fun h => by (cases h), fun h => by (cases h), fun h => by (cases h)⟩
 ·
  obtain ⟨p1, p2, p3⟩ := lay_parts f.body V.plain 0 1 (1 + widL f.body) (cfgN f) (preL f.body) hG (fun i x hx => by rw [Nat.zero_add]; exact hx) x hm
  refine ⟨fun h => ?_, p2, fun h => ?_⟩
  ·
   obtain ⟨s, h1, h2⟩ := p1 h
   unfold stAt
   rw [h1]; exact h2
  ·
   obtain ⟨s, h1, h2⟩ := p3 h
   unfold stAt
   rw [h1]; exact h2
 · exact ⟨fun h => by (cases h), fun h => by (cases h), fun h => by (cases h)⟩
theorem Valid.same {f : Fl} (V : Valid f) {i j : Nat} {x y : Nd} (hx : (cfgN f)[i]? = some x) (hy : (cfgN f)[j]? = some y) (hk : x.kind = y.kind) (he : x.at_ = y.at_) : i = j := by
 have hP : (cfgN f).Pairwise fun x y => x.kind = y.kind → x.at_ ≠ y.at_ := by
  have hkd := lay_kinds f.body 0 1 (1 + widL f.body)
  unfold cfgN
  refine List.Pairwise.cons (fun y hy h => ?_) (List.pairwise_append.2 ⟨lay_heads f.body V.plain _ _ _, by simp, fun x hx y hy h => ?_⟩)
  ·
   rcases List.mem_append.1 hy with hy | hy
   · have := hkd y hy; dsimp only at h; omega
   · rw [List.mem_singleton] at hy; subst hy; cases h
  ·
   rw [List.mem_singleton] at hy
   have := hkd x hx
   subst hy
   dsimp only at h
   omega
 obtain ⟨hi, rfl⟩ := List.getElem?_eq_some_iff.1 hx
 obtain ⟨hj, rfl⟩ := List.getElem?_eq_some_iff.1 hy
 rcases Nat.lt_trichotomy i j with h | h | h
 · exact absurd he (List.pairwise_iff_getElem.1 hP i j hi hj h hk)
 · exact h
 · exact absurd he.symm (List.pairwise_iff_getElem.1 hP j i hj hi h hk.symm)
theorem Valid.heads {f : Fl} (V : Valid f) {i j : Nat} {x y : Nd} (hx : (cfgN f)[i]? = some x) (hy : (cfgN f)[j]? = some y) (kx : x.kind = 5) (ky : y.kind = 5) (he : x.at_ = y.at_) : i = j := V.same hx hy (kx.trans ky.symm) he
structure RmS (w : World) (B gb : Nat) (ms : List Nat) (Ls : Sets) : Prop where
 len : Ls.length = ms.length
 box : Blk w B [.slice (some ⟨gb, 0, none⟩) ms.length ms.length] 134
 row : Blk w gb (ms.map fun m => .map (some m)) 135
 nd : ms.Nodup
 map : ∀ (i : Nat) m l, ms[i]? = some m → Ls[i]? = some l → MapI w m l
theorem RmS.keep {w w' : World} {B gb : Nat} {ms : List Nat} {Ls : Sets} {S : Nat → Prop} (h : RmS w B gb ms Ls) (hk : Keep S w w') (h1 : ¬ S B) (h2 : ¬ S gb) (h3 : ∀ m ∈ ms, ¬ S m) : RmS w' B gb ms Ls :=
 ⟨h.len, hk.blk h.box h1, hk.blk h.row h2, h.nd, fun i m l hm hl => (h.map i m l hm hl).keep hk (h3 m (List.mem_of_getElem? hm))⟩
theorem RmS.ext {w w' : World} {B gb : Nat} {ms : List Nat} {Ls : Sets} (h : RmS w B gb ms Ls) (hk : Ext w w') : RmS w' B gb ms Ls := h.keep hk (fun h => h) (fun h => h) (fun _ _ h => h)
instance {w w' : World} {B gb : Nat} {ms : List Nat} {Ls : Sets} : Tr (RmS w B gb ms Ls) w w' (RmS w' B gb ms Ls) := ⟨RmS.ext⟩
theorem RmS.at {w : World} {B gb : Nat} {ms : List Nat} {Ls : Sets} (h : RmS w B gb ms Ls) {i : Nat} (hi : i < ms.length) : ∃ m l, ms[i]? = some m ∧ Ls[i]? = some l ∧ MapI w m l :=
 ⟨_, _, List.getElem?_eq_getElem hi, List.getElem?_eq_getElem (by rw [h.len]; exact hi), h.map i _ _ (List.getElem?_eq_getElem hi) (List.getElem?_eq_getElem (by rw [h.len]; exact hi))⟩
theorem RmS.isMap {w : World} {B gb : Nat} {ms : List Nat} {Ls : Sets} (h : RmS w B gb ms Ls) {m : Nat} (hm : m ∈ ms) : ∃ l, MapI w m l := by
 obtain ⟨i, hi⟩ := List.mem_iff_getElem?.1 hm
 have hlt := (List.getElem?_eq_some_iff.1 hi).1
 obtain ⟨m', l, h1, _, h2⟩ := h.at hlt
 rw [hi] at h1; cases h1
 exact ⟨l, h2⟩
theorem RmS.cell {w : World} {B gb : Nat} {ms : List Nat} {Ls : Sets} (h : RmS w B gb ms Ls) {k : Int} {m : Nat} (hm : ms[k.toNat]? = some m) : w.cell? ⟨gb, 0 + k.toNat * 1, none⟩ = some (.map (some m)) := by
 have := h.row.cells k.toNat (.map (some m)) (by rw [List.getElem?_map, hm]; rfl)
 rw [Nat.mul_one]; exact this
structure RcE (D Dg : Nat → Prop) (f : Fl) (g : List Nd) (w : World) (bf bg bs bv : Nat) (v1 v2 v3 gv sv : Value) : Prop where
 fbox : Blk w bf [v1, v2, v3] 26
 gbox : Blk w bg [gv] 31
 sbox : Blk w bs [sv] 24
 vbox : Blk w bv [.func (.func 81) #[] #[.pointer (some ⟨bs, 0, none⟩)]] 136
 fl : RFl D w f v1 v2 v3
 gs : SlR 4 RNd Dg w gv g
 st : OwnR 86 10 RSt D w sv (preL f.body)
theorem RcE.keep {D Dg : Nat → Prop} {f : Fl} {g : List Nd} {w w' : World} {bf bg bs bv : Nat} {v1 v2 v3 gv sv : Value} {S : Nat → Prop} (h : RcE D Dg f g w bf bg bs bv v1 v2 v3 gv sv) (hk : Keep S w w') (hD : ∀ q, D q → ¬ S q) (hg : ∀ q, Dg q → ¬ S q) (hS : ∀ q, S q → ∃ l, MapI w q l) : RcE D Dg f g w' bf bg bs bv v1 v2 v3 gv sv := by
 have hb : ∀ {b : Nat} {cs : List Value} {e : TypeId}, Blk w b cs e → ¬ S b := fun hB hs => by obtain ⟨l, hM⟩ := hS _ hs; exact hM.ne hB rfl
 exact ⟨hk.blk h.fbox (hb h.fbox), hk.blk h.gbox (hb h.gbox), hk.blk h.sbox (hb h.sbox), hk.blk h.vbox (hb h.vbox), rflKeepD h.fl hk hD, h.gs.keep stable_nd hk (fun q hq _ => hg q hq), h.st.keep stable_st hk (fun q hq _ => hD q hq) (fun gg hgg => by obtain ⟨cs, hB⟩ := h.st.ty hgg; exact hb hB)⟩
theorem RcE.ext {D Dg : Nat → Prop} {f : Fl} {g : List Nd} {w w' : World} {bf bg bs bv : Nat} {v1 v2 v3 gv sv : Value} (h : RcE D Dg f g w bf bg bs bv v1 v2 v3 gv sv) (hk : Ext w w') : RcE D Dg f g w' bf bg bs bv v1 v2 v3 gv sv := h.keep hk (fun _ _ h => h) (fun _ _ h => h) (fun _ h => h.elim)
instance {D Dg : Nat → Prop} {f : Fl} {g : List Nd} {w w' : World} {bf bg bs bv : Nat} {v1 v2 v3 gv sv : Value} : Tr (RcE D Dg f g w bf bg bs bv v1 v2 v3 gv sv) w w' (RcE D Dg f g w' bf bg bs bv v1 v2 v3 gv sv) := ⟨RcE.ext⟩
theorem RcE.sl {D Dg : Nat → Prop} {f : Fl} {g : List Nd} {w : World} {bf bg bs bv : Nat} {v1 v2 v3 gv sv : Value} (h : RcE D Dg f g w bf bg bs bv v1 v2 v3 gv sv) : SlR 10 RSt (fun _ => True) w sv (preL f.body) := h.st.sl (by decide) stable_st (fun _ _ => trivial) (fun _ _ => trivial)
theorem ran_seen {w : World} {it m : Nat} {l : List (Int × Value)} {seen : List Int} {cur : Option (Int × Value)} (h : RanI w it m l seen cur) {k : Int} (hk : k ∈ seen) : k ∈ l.map (·.1) := by
 obtain ⟨es, c, since, sb, c0, h1, h2, h3, h4, h5, h6, h7, h8, h9, h10, h11, _⟩ := h
 obtain ⟨v, hv⟩ := h11 k hk
 exact List.mem_map.2 ⟨(k, v), getM_mem hv, rfl⟩
theorem varD_ok (f : Fl) (d : Int) (c : Nat) (sv : Value) (D : Nat → Prop) (w : World) (hB : Blk w c [sv] 24) (hs : SlR 10 RSt D w sv (preL f.body)) (h0 : 0 ≤ d) (h1 : d ≤ 100000) (hm : (preL f.body).length ≤ 100000) :
  Calls Tryz.prog 81 #[.int .i64 d, .pointer (some ⟨c, 0, none⟩)] w (Ret fun r w' => r = .int .i64 (varD f d) ∧ Ext w w') := by
 obtain ⟨sa, sc, rfl⟩ := hs.form
 have hE := Keep.refl (fun _ => False) w
 refine G.in2 Tryz.func81 rfl Tryz.ntmps81 rfl (Gs 9 rfl (G.ld rfl Tryz.isAgg24 (hB.cells 0 _ rfl) (Gs 4 rfl (G.ite rfl (fun h2 => ?_) (fun h2 => ?_)))))
 · refine Gs 3 rfl (G.ld rfl Tryz.isAgg24 (hB.cells 0 _ rfl) (Ga 7 rfl (by omega) (G.ret1 Tryz.results81 rfl ⟨_, rfl, by rw [varD, if_pos (by omega)], Keep.refl _ _⟩)))
 ·
  obtain ⟨s, hs1⟩ : ∃ s, (preL f.body)[d.toNat]? = some s := ⟨_, List.getElem?_eq_getElem (by omega)⟩
  obtain ⟨b, o, cc, ha, _, hcl, hr⟩ := hs.at hs1
  obtain ⟨u1, u2, u3, u4, rfl, _⟩ := hr.get
  have hst : stAt f d = s := by unfold stAt; rw [hs1]; rfl
  refine Gs 4 rfl (G.ld rfl Tryz.isAgg24 (hB.cells 0 _ rfl) (Gs 1 rfl (G.ops1 rfl rfl (R.indexS Tryz.runUnderlying24 Tryz.sizeOf86 rfl rfl ha (by omega)) (Gs 1 rfl (G.ld rfl Tryz.isAgg3 (hcl 2 _ rfl) (Gs 4 rfl (G.ret1 Tryz.results81 rfl ⟨_, rfl, by rw [varD, if_neg (by omega), hst], Keep.refl _ _⟩)))))))
theorem after_ok (f : Fl) (g : List Nd) (D Dg : Nat → Prop) (w : World) (bf bg bs bv B gb : Nat) (v1 v2 v3 gv sv : Value) (ms : List Nat) (Ls : Sets) (i : Nat) (x : Nd) (l0 : List (Int × Value)) (hC : RcE D Dg f g w bf bg bs bv v1 v2 v3 gv sv) (hR : RmS w B gb ms Ls)
  (hx : g[i]? = some x) (hl0 : Ls[i]? = some l0) (hk : ∀ p ∈ l0, 0 ≤ p.1 ∧ p.1 < 3000) (hlen : l0.length ≤ 3000) (hm : (preL f.body).length ≤ 1100) (hv : f.vars.length ≤ 100) (hat : x.kind = 2 → 0 ≤ x.at_ ∧ x.at_ < (preL f.body).length) :
  Calls Tryz.prog 82 #[.int .i64 i, .pointer (some ⟨bg, 0, none⟩), .pointer (some ⟨bf, 0, none⟩), .pointer (some ⟨bs, 0, none⟩), .pointer (some ⟨B, 0, none⟩), .pointer (some ⟨bv, 0, none⟩)] w
   (Ret fun r w' => (∃ l : List Int, w'.ownsRow 0 3 1 r l.length (l.map encI1) ∧ (∀ q, r.ownBlock = some q → w.heap.size ≤ q) ∧ (∀ d, d ∈ l ↔ GenD f x d ∨ (d ∈ l0.map (·.1) ∧ ThruD f x d)) ∧ l.length ≤ 4000) ∧ Ext w w') := by
 have hE := Keep.refl (fun _ => False) w
 have hC0 := hC
 obtain ⟨ag, cg, rfl⟩ := hC.gs.form
 obtain ⟨av, cv, rfl⟩ := hC.fl.vars.form
 obtain ⟨sa, sc, hsv, _, _⟩ := hC.st.form
 subst hsv
 have hsl := hC.sl
 have hgs := hC.gs
 obtain ⟨xb, xo, xc, hxa, _, hxc, rfl⟩ := hC.gs.at hx
 have hil : i < ms.length := by rw [← hR.len]; exact (List.getElem?_eq_some_iff.1 hl0).1
 obtain ⟨m, hmi⟩ : ∃ m, ms[i]? = some m := ⟨_, List.getElem?_eq_getElem hil⟩
 have hM := hR.map i m l0 hmi hl0
 have hml := hM.lt
 have hig := (List.getElem?_eq_some_iff.1 hx).1
 have hgmx := hgs.max
 have hx1 : ∀ u ∈ [Value.int .i64 x.kind, .int .i64 x.at_, .int .i64 x.next, .int .i64 x.other], u.oneCell' = true := by simp [Value.oneCell']
 refine G.in6 Tryz.func82 rfl Tryz.ntmps82 rfl (Gs 8 rfl (G.ld rfl Tryz.isAgg29 (hC.gbox.cells 0 _ rfl) (Gs 1 rfl (G.ops1 rfl rfl (R.indexS Tryz.runUnderlying29 Tryz.sizeOf40 rfl rfl hxa (by omega)) (G.ldK rfl Tryz.isAgg40 Tryz.sizeOf40 hxc rfl (G.mem rfl rfl (M.alloc (cs := _) Tryz.zeroValue40 rfl) ?_))))))
 rintro _ wa1 ⟨b, rfl, hg_b, hs_b, hB_b, hk_b⟩
 refine G.mem0 rfl (M.storeK Tryz.sizeOf40 rfl rfl rfl rfl hx1 hB_b (by simp)) ?_
 rintro w_b ⟨_, hB_b, hkk_b⟩
 replace hk_b := hk_b.trans hkk_b (fun q hq h => by have h : q = b := h; omega)
 have hge_b : _ ≤ b := Nat.le_trans hE.size (Nat.le_of_eq hg_b.symm)
 obtain ⟨hE, hC, hR, hsl⟩ := Tr4 hk_b hE hC hR hsl
 refine Gs 11 rfl (G.ld rfl Tryz.isAgg38 (hB_b.cells 0 _ rfl) (Gs 3 rfl (G.ite rfl (fun k0 => ?_) (fun k0 => ?_))))
 ·
  refine Gs 4 rfl (G.ld rfl Tryz.isAgg22 (hC.fbox.cells 0 _ rfl) (Gs 5 rfl (G.loop (σ := Nat × Value) (fun ⟨j, vo⟩ => [(3, .pointer (some ⟨bs, 0, none⟩)), (9, vo), (23, .int .i64 f.vars.length), (24, .int .i64 j)]) (fun ⟨j, vo⟩ => fun w' => j ≤ f.vars.length ∧ w'.ownsRow 0 3 1 vo j (((List.range j).map fun k : Nat => ((preL f.body).length : Int) + k).map encI1) ∧ (∀ q, vo.ownBlock = some q → w.heap.size ≤ q) ∧ Ext w w') (fun ⟨j, vo⟩ => f.vars.length - j) ((0, .slice none 0 0)) (Sub.of rfl) (⟨Nat.zero_le _, own_nil _ _ _, fun q h => by simp [Value.ownBlock] at h, hE⟩) ?_)))
  rintro ⟨j, vo⟩ w1 ⟨hj, ho, hfo, hE1⟩
  show G _ _ _ _ _ [(3, .pointer (some ⟨bs, 0, none⟩)), (9, vo), (23, .int .i64 f.vars.length), (24, .int .i64 j)] _
  refine Gs 6 rfl (G.ite rfl (fun j1 => ?_) (fun j1 => ?_))
  ·
   refine Gs 12 rfl (G.ld rfl Tryz.isAgg24 ((hC0.ext hE1).sbox.cells 0 _ rfl) (Ga 3 rfl (by omega) (G.mem rfl rfl (M.buildSlice (cs := [.int .i64 (((preL f.body).length : Int) + j)]) [(0, _)] Tryz.runUnderlying50 Tryz.sizeOf3 Tryz.zeroValue3 (by decide) rfl (by kernel_rfl)) ?_)))
   rintro _ w2 ⟨g2, rfl, hg2, hs2, hB2, hk2⟩
   have ho2 := own_keep ho hk2 (fun _ _ h => h)
   refine G.mem rfl rfl (M.append Tryz.underlying50 Tryz.el3 rfl (by decide) rfl rfl ho2 rfl (Cells.add hB2.cells) (by simp [Value.oneCell']) (by omega) (by omega)) ?_
   rintro vo' w3 ⟨ho3, hf3, hk3, _⟩
   refine Ga 8 rfl (by omega) (G.back ((j + 1, vo')) (Sub.of rfl) (⟨by omega, by rw [List.range_succ, List.map_append, List.map_append]; exact ho3, fun q hq => ?_, Keep.trans (hE1.ext hk2) hk3 (fun q hq h => by have := hfo q h; omega)⟩) (by first | omega | (dsimp only; omega)))
   rcases hf3 with h | ⟨g', h, h'⟩
   · exact hfo q (by rw [← h]; exact hq)
   · rw [h] at hq; cases hq; have := (hE1.ext hk2).size; omega
  ·
   obtain rfl : j = f.vars.length := by omega
   refine Gs 13 rfl (G.ret1 Tryz.results82 rfl ⟨_, rfl, ⟨_, by rw [List.length_map, List.length_range]; exact ho, hfo, fun d => ?_, by rw [List.length_map, List.length_range]; omega⟩, hE1⟩)
   constructor
   ·
    intro h
    obtain ⟨k, hk', rfl⟩ := List.mem_map.1 h
    rw [List.mem_range] at hk'
    exact .inl (.inl ⟨k0, by omega, by omega⟩)
   ·
    rintro (h | h)
    ·
     rcases h with h | h
     · exact List.mem_map.2 ⟨(d - (preL f.body).length).toNat, List.mem_range.2 (by omega), by omega⟩
     · exact absurd k0 h.1
    · exact absurd k0 h.2.1
 ·
  refine Gs 3 rfl (G.cut (σ := Bool) (fun q => [(0, .int .i64 i), (1, .pointer (some ⟨bg, 0, none⟩)), (2, .pointer (some ⟨bf, 0, none⟩)), (3, .pointer (some ⟨bs, 0, none⟩)), (4, .pointer (some ⟨B, 0, none⟩)), (5, .pointer (some ⟨bv, 0, none⟩)), (8, .pointer (some ⟨b, 0, none⟩)), (9, .slice none 0 0), (11, .bool q)]) (fun q => fun w' => q = asgB f x ∧ w' = w_b) ?_ ?_)
  ·
   refine Gs 2 rfl (G.ld rfl Tryz.isAgg38 (hB_b.cells 0 _ rfl) (Gs 2 rfl (G.sp 39 rfl (fun k2 => ?_) (fun k2 => ?_))))
   ·
    obtain ⟨s, hs1⟩ : ∃ s, (preL f.body)[x.at_.toNat]? = some s := ⟨_, List.getElem?_eq_getElem (by have := hat k2; omega)⟩
    obtain ⟨sb, so, sx, hsa, _, hcl, hr⟩ := hsl.at hs1
    obtain ⟨u1, u2, u3, u4, rfl, _⟩ := hr.get
    have hst : stAt f x.at_ = s := by unfold stAt; rw [hs1]; rfl
    have hatx := hat k2
    refine G.ld rfl Tryz.isAgg24 (hC.sbox.cells 0 _ rfl) (Gs 1 rfl (G.ld rfl Tryz.isAgg3 (hB_b.cells 1 _ rfl) (G.ops1 rfl rfl (R.indexS Tryz.runUnderlying24 Tryz.sizeOf86 rfl rfl hsa (by omega)) (Gs 1 rfl (G.ld rfl Tryz.isAgg80 (hcl 0 _ rfl) (Gs 2 rfl (G.sp 47 rfl (fun a0 => ?_) (fun a0 => ?_))))))))
    · refine Gs 11 rfl (G.meet (true) (Sub.cons rfl (Sub.cons rfl (Sub.cons rfl (Sub.cons rfl (Sub.cons rfl (Sub.cons rfl (Sub.cons rfl (Sub.cons rfl (Sub.cons (by first | rfl | (show some (Value.bool true) = some (Value.bool _); simp [*])) Sub.nil))))))))) (⟨by simp [asgB, k2, hst, a0], rfl⟩))
    ·
     refine G.ld rfl Tryz.isAgg24 (hC.sbox.cells 0 _ rfl) (Gs 1 rfl (G.ld rfl Tryz.isAgg3 (hB_b.cells 1 _ rfl) (G.ops1 rfl rfl (R.indexS Tryz.runUnderlying24 Tryz.sizeOf86 rfl rfl hsa (by omega)) (Gs 1 rfl (G.ld rfl Tryz.isAgg80 (hcl 0 _ rfl) (Gs 5 rfl ?_))))))
     refine G.meet (_) (Sub.of rfl) (⟨by simp [asgB, k2, hst, a0], rfl⟩)
   · refine Gs 19 rfl (G.meet (false) (Sub.cons rfl (Sub.cons rfl (Sub.cons rfl (Sub.cons rfl (Sub.cons rfl (Sub.cons rfl (Sub.cons rfl (Sub.cons rfl (Sub.cons (by first | rfl | (show some (Value.bool false) = some (Value.bool _); simp [*])) Sub.nil))))))))) (⟨by simp [asgB, k2], rfl⟩))
  ·
   rintro q w1 ⟨hq, hw1⟩
   subst hw1
   subst hq
   refine Gs 4 rfl (G.ld rfl Tryz.isAgg134 (hR.box.cells 0 _ rfl) (Ga 2 rfl (by omega) (G.ld rfl Tryz.isAgg135 (hR.cell (k := (i : Int)) hmi) (G.mem rfl rfl (M.range (hM.ext hE) Tryz.underlying135 rfl) ?_))))
   rintro _ x1 ⟨it, rfl, hit, hRan, xk1, xs1⟩
   have xE1 := hE.ext xk1
   refine Gs 3 rfl (G.loop (σ := List Int × Option (Int × Value) × List Int × Value) (fun ⟨seen, cur, l, vo⟩ => [(1, .pointer (some ⟨bg, 0, none⟩)), (3, .pointer (some ⟨bs, 0, none⟩)), (5, .pointer (some ⟨bv, 0, none⟩)), (8, .pointer (some ⟨b, 0, none⟩)), (9, vo), (11, .bool (asgB f x)), (61, .pointer (some ⟨it, 0, none⟩))]) (fun ⟨seen, cur, l, vo⟩ => fun w' => RanI w' it m l0 seen cur ∧ w'.ownsRow 0 3 1 vo l.length (l.map encI1) ∧ (∀ q, vo.ownBlock = some q → w.heap.size ≤ q ∧ q ≠ b) ∧ (∀ d, d ∈ l ↔ d ∈ seen ∧ ThruD f x d) ∧ l.length ≤ seen.length ∧ Ext w w' ∧ Blk w' b [.int .i64 x.kind, .int .i64 x.at_, .int .i64 x.next, .int .i64 x.other] 40) (fun ⟨seen, cur, l, vo⟩ => l0.length - seen.length) (([], none, [], .slice none 0 0)) (Sub.of rfl) (⟨hRan, own_nil _ _ _, fun q h => by simp [Value.ownBlock] at h, by simp, Nat.le_refl _, xE1, xk1.blk hB_b (fun h => h)⟩) ?_)
   rintro ⟨seen, cur, l, vo⟩ y0 ⟨hRn, ho, hfo, hmem, hll, hE0, hBb⟩
   show G _ _ _ _ _ [(1, .pointer (some ⟨bg, 0, none⟩)), (3, .pointer (some ⟨bs, 0, none⟩)), (5, .pointer (some ⟨bv, 0, none⟩)), (8, .pointer (some ⟨b, 0, none⟩)), (9, vo), (11, .bool (asgB f x)), (61, .pointer (some ⟨it, 0, none⟩))] _
   have hsl0 := hRn.len
   refine Gs 2 rfl (G.mem rfl rfl (M.next hRn rfl) ?_)
   rintro u y1 (⟨rfl, rfl, hall⟩ | ⟨k, v, rfl, hgk, hns, hR1, yk1, ys1⟩)
   ·
    refine Gs 4 rfl (G.ff rfl (rfl) (Gs 11 rfl ?_))
    have hseen : ∀ d, d ∈ seen ↔ d ∈ l0.map (·.1) := fun d => ⟨fun h => ran_seen hRn h, fun h => by obtain ⟨p, hp, rfl⟩ := List.mem_map.1 h; exact hall p hp⟩
    refine G.bool rfl (fun q1 => ?_) (fun q1 => ?_)
    ·
     refine Gs 3 rfl (G.ld rfl Tryz.isAgg3 (hBb.cells 1 _ rfl) (G.mem rfl rfl (M.buildSlice (cs := [.int .i64 x.at_]) [(0, _)] Tryz.runUnderlying50 Tryz.sizeOf3 Tryz.zeroValue3 (by decide) rfl (by kernel_rfl)) ?_))
     rintro _ z1 ⟨g2, rfl, hg2, hs2, hB2, hk2⟩
     have ho2 := own_keep ho hk2 (fun _ _ h => h)
     refine G.mem rfl rfl (M.append Tryz.underlying50 Tryz.el3 rfl (by decide) rfl rfl ho2 rfl (Cells.add hB2.cells) (by simp [Value.oneCell']) (by omega) (by omega)) ?_
     rintro vo' z2 ⟨ho3, hf3, hk3, _⟩
     refine Gs 10 rfl (G.ret1 Tryz.results82 rfl ⟨_, rfl, ⟨l ++ [x.at_], by rw [List.length_append, List.map_append]; exact ho3, fun q hq => ?_, fun d => ?_, by rw [List.length_append, List.length_singleton]; omega⟩, Keep.trans (hE0.ext hk2) hk3 (fun q hq h => by have := (hfo q h).1; omega)⟩)
     ·
      rcases hf3 with h | ⟨g', h, h'⟩
      · exact (hfo q (by rw [← h]; exact hq)).1
      · rw [h] at hq; cases hq; have := (hE0.ext hk2).size; omega
     ·
      rw [List.mem_append, List.mem_singleton, hmem, hseen]
      constructor
      ·
       rintro (h | h)
       · exact .inr h
       · exact .inl (.inr ⟨k0, q1, h⟩)
      ·
       rintro ((h | h) | h)
       · exact absurd h.1 k0
       · exact .inr h.2.2
       · exact .inl h
    ·
     refine Gs 9 rfl (G.ret1 Tryz.results82 rfl ⟨_, rfl, ⟨l, ho, fun q hq => (hfo q hq).1, fun d => ?_, by omega⟩, hE0⟩)
     rw [hmem, hseen]
     refine ⟨.inr, ?_⟩
     rintro ((h | h) | h)
     · exact absurd h.1 k0
     · rw [q1] at h; exact absurd h.2.1 (by decide)
     · exact h
   ·
    have hk0x := hk _ (getM_mem hgk)
    dsimp only at hk0x
    have hit0 : w.heap.size ≤ it := by have := hE.size; omega
    have hE1 : Ext w y1 := Keep.trans hE0 yk1 (fun q hq (h : q = it) => by omega)
    have hC1 := hC0.ext hE1
    have hsl1 := hC1.sl
    have ho1 := own_keep ho yk1 (fun q hq (h : q = it) => by obtain ⟨cs', hb'⟩ := own_blkty ho hq; exact hRn.neB hb' h)
    have hBb1 := yk1.blk hBb (fun h => hRn.neB hBb h)
    have hR1l := hR1.len
    rw [List.length_append, List.length_singleton] at hR1l
    refine Gs 4 rfl (G.tt rfl (rfl) (Gs 5 rfl (G.ops1 rfl rfl (R.entry hR1 rfl) (Gs 5 rfl (G.cut (σ := Bool) (fun q => [(1, .pointer (some ⟨bg, 0, none⟩)), (3, .pointer (some ⟨bs, 0, none⟩)), (5, .pointer (some ⟨bv, 0, none⟩)), (8, .pointer (some ⟨b, 0, none⟩)), (9, vo), (11, .bool (asgB f x)), (12, .int .i64 k), (61, .pointer (some ⟨it, 0, none⟩)), (79, .bool q)]) (fun q => fun w' => (q = true ↔ ThruD f x k) ∧ Ext y1 w') ?_ ?_)))))
    ·
     refine Dw (fun q => Ext y1 q) [] (fun wd2 hD _ => (Ds [0] (by kernel_rfl) rfl (WD.takeW 1 rfl (by kernel_rfl) rfl rfl rfl (fun w1 => R.notU rfl (by first | exact not_decide_eq | rfl)) (Ds [2] (by kernel_rfl) rfl (WD.sb 68 rfl (fun q1 => ?_) (fun q1 => ?_))))))
     ·
      refine Ds [3, 4, 6, 7, 8, 9, 10, 11] (by kernel_rfl) rfl (WD.skip 5 rfl (by kernel_rfl) (fun a ha => wanted_no ha rfl rfl rfl rfl) rfl rfl hD (Ds [12, 13] (by kernel_rfl) rfl (G.done (by kernel_rfl) ?_ _)))
      obtain ⟨hC1, hsl1, hBb1⟩ := Tr3 hD hC1 hsl1 hBb1
      refine G.meet (true) (Sub.cons rfl (Sub.cons rfl (Sub.cons rfl (Sub.cons rfl (Sub.cons rfl (Sub.cons rfl (Sub.cons rfl (Sub.cons rfl (Sub.cons (by first | rfl | (show some (Value.bool true) = some (Value.bool _); simp [*])) Sub.nil))))))))) (⟨by simp only [Bool.not_eq_true'] at q1; exact ⟨fun _ => ⟨k0, fun h => by rw [q1] at h; cases h⟩, fun _ => rfl⟩, hD⟩)
     ·
      have q2 : asgB f x = true := by simpa using q1
      have q3 : x.kind = 2 := by unfold asgB at q2; simp at q2; exact q2.1
      obtain ⟨s, hs1⟩ : ∃ s, (preL f.body)[x.at_.toNat]? = some s := ⟨_, List.getElem?_eq_getElem (by have := hat q3; omega)⟩
      obtain ⟨sb, so, sx, hsa, _, hcl, hr⟩ := hsl1.at hs1
      obtain ⟨u1, u2, u3, u4, rfl, _⟩ := hr.get
      have hst : stAt f x.at_ = s := by unfold stAt; rw [hs1]; rfl
      have hatx := hat q3
      refine WD.takeG 3 rfl (by kernel_rfl) rfl rfl hD (.inl ⟨fun a ha => wanted_yes ha rfl rfl rfl rfl, fun w1 hw1 => R.load Tryz.isAgg136 rfl ((hC1.ext hw1).vbox.cells 0 _ rfl)⟩) (Ds [4] (by kernel_rfl) rfl (WD.takeG 6 rfl (by kernel_rfl) rfl rfl hD (.inl ⟨fun a ha => wanted_yes ha rfl rfl rfl rfl, fun w1 hw1 => R.load Tryz.isAgg24 rfl ((hC1.ext hw1).sbox.cells 0 _ rfl)⟩) (Ds [7] (by kernel_rfl) rfl (WD.takeG 8 rfl (by kernel_rfl) rfl rfl hD (.inl ⟨fun a ha => wanted_yes ha rfl rfl rfl rfl, fun w1 hw1 => R.load Tryz.isAgg3 rfl ((hw1.blk hBb1 (fun h => h)).cells 1 _ rfl)⟩) (WD.takeG 9 rfl (by kernel_rfl) rfl rfl hD (.inl ⟨fun a ha => wanted_yes ha rfl rfl rfl rfl, fun w1 hw1 => R.indexS Tryz.runUnderlying24 Tryz.sizeOf86 rfl rfl hsa (by omega)⟩) ?_)))))
      refine Ds [10] (by kernel_rfl) rfl (WD.takeG 11 rfl (by kernel_rfl) rfl rfl hD (.inl ⟨fun a ha => wanted_yes ha rfl rfl rfl rfl, fun w1 hw1 => R.load Tryz.isAgg3 rfl (hw1.cells hcl (fun h => h) 2 _ rfl)⟩) (WD.callG 5 rfl (by kernel_rfl) (fun a ha => wanted_yes ha rfl rfl rfl rfl) rfl rfl (F.callV (vs := [_]) Tryz.call81 rfl rfl) (varD_ok f k bs _ _ _ (hC1.ext hD).sbox (hsl1.ext stable_st hD) hk0x.1 (by omega) (by omega)) ?_))
      rintro _ wz3 ⟨rfl, hz3⟩
      replace hD := hD.ext hz3
      refine ⟨fun _ => hD, ?_⟩
      refine Ds [12, 13] (by kernel_rfl) rfl (G.done (by kernel_rfl) ?_ _)
      obtain ⟨hC1, hsl1, hBb1, hcl⟩ := Tr4 hD hC1 hsl1 hBb1 hcl
      refine G.meet (_) (Sub.of rfl) (⟨by rw [decide_eq_true_eq]; exact ⟨fun h => ⟨k0, fun _ => by rw [hst]; exact h⟩, fun h => by have := h.2 q2; rw [hst] at this; exact this⟩, hD⟩)
    ·
     rintro q y2 ⟨hq, yk2⟩
     have hR2 := hR1.keep yk2 (fun h => h) (fun h => h)
     have ho2 := own_keep ho1 yk2 (fun _ _ h => h)
     have hBb2 := yk2.blk hBb1 (fun h => h)
     have hE2 := hE1.ext yk2
     have hmem2 : ∀ d, d ∈ seen ++ [k] ∧ ThruD f x d ↔ d ∈ l ∨ (d = k ∧ q = true) := fun d => by
      rw [hmem, List.mem_append, List.mem_singleton]
      constructor
      ·
       rintro ⟨h | h, h'⟩
       · exact .inl ⟨h, h'⟩
       · exact .inr ⟨h, by rw [h] at h'; exact hq.2 h'⟩
      ·
       rintro (h | h)
       · exact ⟨.inl h.1, h.2⟩
       · exact ⟨.inr h.1, by rw [h.1]; exact hq.1 h.2⟩
     refine Gs 1 rfl (G.bool rfl (fun q1 => ?_) (fun q1 => ?_))
     ·
      refine Gs 3 rfl (G.mem rfl rfl (M.buildSlice (cs := [.int .i64 k]) [(0, _)] Tryz.runUnderlying50 Tryz.sizeOf3 Tryz.zeroValue3 (by decide) rfl (by kernel_rfl)) ?_)
      rintro _ z1 ⟨g2, rfl, hg2, hs2, hB2, hk2⟩
      have ho3 := own_keep ho2 hk2 (fun _ _ h => h)
      refine G.mem rfl rfl (M.append Tryz.underlying50 Tryz.el3 rfl (by decide) rfl rfl ho3 rfl (Cells.add hB2.cells) (by simp [Value.oneCell']) (by omega) (by omega)) ?_
      rintro vo' z2 ⟨ho4, hf4, hk4, _⟩
      refine Gs 3 rfl (G.back ((seen ++ [k], some (k, v), l ++ [k], vo')) (Sub.of rfl) (⟨(hR2.keep hk2 (fun h => h) (fun h => h)).keep hk4 (fun h => ?_) (fun h => ?_), by rw [List.length_append, List.map_append]; exact ho4, fun q hq => ?_, fun d => ?_, by rw [List.length_append, List.length_append]; simp only [List.length_singleton]; omega, Keep.trans (hE2.ext hk2) hk4 (fun q hq h => by have := (hfo q h).1; omega), hk4.blk (hk2.blk hBb2 (fun h => h)) (fun h => (hfo _ h).2 rfl)⟩) (by dsimp only; rw [List.length_append, List.length_singleton]; omega))
      · have := (hfo m h).1; omega
      · obtain ⟨cs', hb'⟩ := own_blkty ho h; exact hRn.neB hb' rfl
      ·
       rcases hf4 with h | ⟨g', h, h'⟩
       · exact hfo q (by rw [← h]; exact hq)
       ·
        rw [h] at hq; cases hq
        have := (hE2.ext hk2).size
        have := (hk2.blk hBb2 (fun h => h)).lt
        exact ⟨by omega, by omega⟩
      ·
       rw [hmem2, List.mem_append, List.mem_singleton]
       simp only [q1, and_true]
     ·
      refine Gs 2 rfl (G.back ((seen ++ [k], some (k, v), l, vo)) (Sub.of rfl) (⟨hR2, ho2, hfo, fun d => ?_, by rw [List.length_append, List.length_singleton]; omega, hE2, hBb2⟩) (by dsimp only; rw [List.length_append, List.length_singleton]; omega))
      rw [hmem2]
      simp only [q1, Bool.false_eq_true, and_false, or_false]
end Go.Proofs.YtldhllpogdikdaaGreat
namespace Go.Proofs
open Go.Shelf
def Tryz.lays189_ren : Go.Shelf.Ren := ⟨fun | 189 => 83 | 125 => 92 | 257 => 130 | 128 => 143 | 129 => 144 | 294 => 169 | 295 => 170 | 296 => 171 | 297 => 172 | 298 => 173 | 299 => 174 | 216 => 175 | 300 => 176 | 301 => 177 | 328 => 210 | 329 => 187 | 330 => 188 | 331 => 211 | 332 => 212 | 215 => 192 | 343 => 225 | n => n, fun | 28 => 50 | 3 => 3 | 46 => 147 | 0 => 0 | 51 => 202 | 53 => 204 | 4 => 4 | 183 => 196 | 182 => 195 | 131 => 126 | 5 => 5 | 9 => 9 | 218 => 231 | 222 => 235 | 228 => 257 | 229 => 216 | n => n, fun | n => n⟩
theorem Tryz.lays189 : Go.Proofs.Lays.n189 Tryz.prog Tryz.lays189_ren := {
  mixed := by kernel_rfl
  f125 := Tryz.func92.trans (congrArg some (by kernel_rfl))
  f128 := Tryz.func143.trans (congrArg some (by kernel_rfl))
  f129 := Tryz.func144.trans (congrArg some (by kernel_rfl))
  f189 := Tryz.func83.trans (congrArg some (by kernel_rfl))
  f215 := Tryz.func192.trans (congrArg some (by kernel_rfl))
  f216 := Tryz.func175.trans (congrArg some (by kernel_rfl))
  f257 := Tryz.func130.trans (congrArg some (by kernel_rfl))
  f294 := Tryz.func169.trans (congrArg some (by kernel_rfl))
  f295 := Tryz.func170.trans (congrArg some (by kernel_rfl))
  f296 := Tryz.func171.trans (congrArg some (by kernel_rfl))
  f297 := Tryz.func172.trans (congrArg some (by kernel_rfl))
  f298 := Tryz.func173.trans (congrArg some (by kernel_rfl))
  f299 := Tryz.func174.trans (congrArg some (by kernel_rfl))
  f300 := Tryz.func176.trans (congrArg some (by kernel_rfl))
  f301 := Tryz.func177.trans (congrArg some (by kernel_rfl))
  f328 := Tryz.func210.trans (congrArg some (by kernel_rfl))
  f329 := Tryz.func187.trans (congrArg some (by kernel_rfl))
  f330 := Tryz.func188.trans (congrArg some (by kernel_rfl))
  f331 := Tryz.func211.trans (congrArg some (by kernel_rfl))
  f332 := Tryz.func212.trans (congrArg some (by kernel_rfl))
  f343 := Tryz.func225.trans (congrArg some (by kernel_rfl))
  t0 := Tryz.underlying0
  a0 := Tryz.isAgg0
  z0 := Tryz.sizeOf0
  v0 := Tryz.zeroValue0
  t3 := Tryz.underlying3
  a3 := Tryz.isAgg3
  z3 := Tryz.sizeOf3
  v3 := Tryz.zeroValue3
  t4 := Tryz.underlying4
  a4 := Tryz.isAgg4
  z4 := Tryz.sizeOf4
  v4 := Tryz.zeroValue4
  t5 := Tryz.underlying5
  a5 := Tryz.isAgg5
  z5 := Tryz.sizeOf5
  v5 := Tryz.zeroValue5
  t9 := Tryz.underlying9
  a9 := Tryz.isAgg9
  z9 := Tryz.sizeOf9
  v9 := Tryz.zeroValue9
  t28 := Tryz.underlying50
  a28 := Tryz.isAgg50
  z28 := Tryz.sizeOf50
  v28 := Tryz.zeroValue50
  t46 := Tryz.underlying147
  a46 := Tryz.isAgg147
  z46 := Tryz.sizeOf147
  v46 := Tryz.zeroValue147
  t51 := Tryz.underlying202
  a51 := Tryz.isAgg202
  z51 := Tryz.sizeOf202
  v51 := Tryz.zeroValue202
  t53 := Tryz.underlying204
  a53 := Tryz.isAgg204
  z53 := Tryz.sizeOf204
  v53 := Tryz.zeroValue204
  t131 := Tryz.underlying126
  a131 := Tryz.isAgg126
  z131 := Tryz.sizeOf126
  v131 := Tryz.zeroValue126
  t182 := Tryz.underlying195
  a182 := Tryz.isAgg195
  z182 := Tryz.sizeOf195
  v182 := Tryz.zeroValue195
  t183 := Tryz.underlying196
  a183 := Tryz.isAgg196
  z183 := Tryz.sizeOf196
  v183 := Tryz.zeroValue196
  t218 := Tryz.underlying231
  a218 := Tryz.isAgg231
  z218 := Tryz.sizeOf231
  v218 := Tryz.zeroValue231
  t222 := Tryz.underlying235
  a222 := Tryz.isAgg235
  z222 := Tryz.sizeOf235
  v222 := Tryz.zeroValue235
  t228 := Tryz.underlying257
  a228 := Tryz.isAgg257
  z228 := Tryz.sizeOf257
  v228 := Tryz.zeroValue257
  t229 := Tryz.underlying216
  a229 := Tryz.isAgg216
  z229 := Tryz.sizeOf216
  v229 := Tryz.zeroValue216 }
open Go.Sort Go.RowKit in
theorem Tryz.slices_Sort_int (blk off cap : Nat) (zs : List Int) (w : World) (hH : Holds (Value.int .i64) w blk off zs.toArray) (hblk : blk < w.heap.size) (hsz : zs.length < 4611686018427387904) :
    Calls Tryz.prog 83 #[.slice (some ⟨blk, off, none⟩) zs.length cap] w fun e w' =>
      e = .returned (.tuple #[]) ∧ ∃ n os, w' = grow (putRow (Value.int .i64) (Sort.ahead w n) blk off (zs.mergeSort fun x y => decide (x ≤ y)).toArray) os := Any.slices_Sort_int Tryz.lays189 blk off cap zs w hH hblk hsz
open Go.RowKit Go.Sort in
theorem Tryz.slices_Sort_int_none (p : Option Addr) (cap : Nat) (w : World) :
    Calls Tryz.prog 83 #[.slice p 0 cap] w fun e w' => e = .returned (.tuple #[]) ∧ w' = w := Any.slices_Sort_int_none Tryz.lays189 p cap w
end Go.Proofs
namespace Go.Proofs.YtldhllpogdikdaaGreat
open Go.GL
theorem sorted_world1 {w : World} {b : Nat} {l : List Int} {sp : List Value} {e : TypeId} (hb : Blk w b (l.map (.int .i64) ++ sp) e) (d : List Int) (hs : d.length = l.length) (m : Nat) (os : Array Obj) :
  Blk (Go.Sort.grow (Go.Sort.putRow (Value.int .i64) (Go.Sort.ahead w m) b 0 d.toArray) os) b (d.map (.int .i64) ++ sp) e ∧ Keep (fun q => q = b) w (Go.Sort.grow (Go.Sort.putRow (Value.int .i64) (Go.Sort.ahead w m) b 0 d.toArray) os) := by
 have hblk := hb.lt
 have hsz : (Go.Sort.putRow (Value.int .i64) (Go.Sort.ahead w m) b 0 d.toArray).heap.size = w.heap.size := by simp [Go.Sort.ahead]
 have hat : ∀ i, i < w.heap.size → (Go.Sort.grow (Go.Sort.putRow (Value.int .i64) (Go.Sort.ahead w m) b 0 d.toArray) os).heap[i]? = (Go.Sort.putRow (Value.int .i64) (Go.Sort.ahead w m) b 0 d.toArray).heap[i]? := by
  intro i hi
  show ((Go.Sort.putRow (Value.int .i64) (Go.Sort.ahead w m) b 0 d.toArray).heap ++ os)[i]? = _
  rw [Array.getElem?_append_left (by rw [hsz]; exact hi)]
 refine ⟨?_, rfl, rfl, rfl, Nat.le_add_right _ _, ?_, ?_⟩
 ·
  unfold Blk at *
  rw [hat b hblk]
  show (w.heap.modify b _)[b]? = _
  rw [Array.getElem?_modify, if_pos rfl, hb]
  simp only [Option.map_some, Go.Sort.onCells]
  congr 2
  apply Array.ext_getElem?
  intro j
  simp only [Go.Sort.putCells, Array.getElem?_mapIdx, List.getElem?_toArray]
  by_cases hj : j < d.length
  ·
   rw [List.getElem?_append_left (by simpa [← hs] using hj), List.getElem?_append_left (by simpa using hj)]
   rw [List.getElem?_eq_getElem (by simpa [← hs] using hj)]
   simp [hj]
  ·
   rw [List.getElem?_append_right (by simp; omega), List.getElem?_append_right (by simp; omega)]
   have hj' : ¬ j < l.length := by omega
   simp [hs, hj']
 ·
  show w.heap.size ≤ ((Go.Sort.putRow (Value.int .i64) (Go.Sort.ahead w m) b 0 d.toArray).heap ++ os).size
  rw [Array.size_append, hsz]; omega
 ·
  intro i hi hne
  rw [hat i hi]
  show (w.heap.modify b _)[i]? = _
  rw [Array.getElem?_modify, if_neg (fun h => hne h.symm)]
def sortL (l : List Int) : List Int := l.mergeSort fun x y => decide (x ≤ y)
theorem sortL_mem (l : List Int) (x : Int) : x ∈ sortL l ↔ x ∈ l := List.mem_mergeSort
theorem sortL_len (l : List Int) : (sortL l).length = l.length := List.length_mergeSort _
theorem sortL_sorted (l : List Int) : (sortL l).Pairwise (· ≤ ·) := by
 have := List.pairwise_mergeSort (le := fun x y : Int => decide (x ≤ y)) (by intro a b c; simp; omega) (by intro a b; simp; omega) l
 exact this.imp (by intro a b h; simpa using h)
theorem sortI_ok (l : List Int) (v : Value) (n : Nat) (w : World) (hown : w.ownsRow 0 3 1 v n (l.map (.int .i64))) (hlen : l.length ≤ 1048576) : Calls Tryz.prog 83 #[v] w (Ret fun u w' => u = .tuple #[] ∧ w'.ownsRow 0 3 1 v n ((sortL l).map (.int .i64)) ∧ Keep (fun q => v.ownBlock = some q) w w') := by
 have hn := own_len1 hown
 subst hn
 by_cases h0 : l = []
 ·
  subst h0
  obtain ⟨ao, c, rfl⟩ := own_form hown
  refine (Tryz.slices_Sort_int_none ao c w).mono ?_
  rintro e w' ⟨rfl, rfl⟩
  exact ⟨_, rfl, rfl, by simpa [sortL] using hown, Keep.refl _ _⟩
 obtain ⟨g, cap, sp, rfl, _, hnc, hcm, hB, hcl⟩ := own_open1 hown h0
 have hH : Go.Sort.Holds (Value.int .i64) w g 0 l.toArray := by
  intro j hj
  have hj' : j < l.length := by simpa using hj
  refine ⟨?_, hB.frozen⟩
  refine hB.cells j _ ?_
  rw [List.getElem?_append_left (by simpa using hj'), List.getElem?_map, List.getElem?_eq_getElem hj']
  simp [hj']
 refine (Tryz.slices_Sort_int g 0 cap l w hH hB.lt (by omega)).mono ?_
 rintro e w' ⟨rfl, q, os, rfl⟩
 have hw := sorted_world1 hB (sortL l) (sortL_len l) q os
 refine ⟨_, rfl, rfl, ?_, hw.2.mono (fun q _ h => by rw [h]; rfl)⟩
 have := own_shut1 hw.1 (cap := cap) (by rw [← hcl]; simp [sortL_len]) hcm
 rw [sortL_len] at this
 exact this
end Go.Proofs.YtldhllpogdikdaaGreat
namespace Go.GL
theorem Mat.inplace {α : Type} {enc : α → Value} {e eo : TypeId} {B : Nat} {w w1 : World} {bo : Nat} {rv : List Value} {rows : List (List α)} (h : Mat enc e eo B w bo rv rows) {i : Nat} {v : Value} {r' : List α} (hv : rv[i]? = some v)
  (hown : w1.ownsRow 0 e 1 v r'.length (r'.map enc)) (hk : Keep (fun q => v.ownBlock = some q) w w1) : Mat enc e eo B w1 bo rv (rows.set i r') := by
 have hi : i < rv.length := (List.getElem?_eq_some_iff.1 hv).1
 refine ⟨hk.blk h.out (fun hb => (h.far i v bo hv hb).2 rfl), by simp [h.len], ?_, h.far, h.apart⟩
 intro j u s hu hs
 by_cases hij : i = j
 ·
  subst hij
  rw [List.getElem?_set_self (by rw [← h.len]; exact hi)] at hs
  rw [hv] at hu
  cases hu; cases hs
  exact hown
 ·
  rw [List.getElem?_set_ne hij] at hs
  exact own_keep (h.row j u s hu hs) hk (fun g hg hv' => h.apart i j v u g hij hv hu hv' hg)
theorem narrow_nd : Narrow RNd := fun _ _ _ _ h => h
theorem set_self_at {α : Type} {l : List α} {i : Nat} {x : α} (h : l[i]? = some x) : l.set i x = l := by
 apply List.ext_getElem?
 intro j
 by_cases e : i = j
 · subst e; rw [List.getElem?_set_self (List.getElem?_eq_some_iff.1 h).1, h]
 · rw [List.getElem?_set_ne e]
theorem strict_of {l : List Int} (h1 : l.Pairwise (· ≤ ·)) (h2 : l.Nodup) : l.Pairwise (· < ·) := by
 induction l with
 | nil => exact List.Pairwise.nil
 | cons x r ih =>
  rw [List.pairwise_cons] at h1 ⊢
  rw [List.nodup_cons] at h2
  refine ⟨fun y hy => ?_, ih h1.2 h2.2⟩
  have := h1.1 y hy
  by_cases h : x < y
  · exact h
  · exact absurd (by rw [show x = y by omega]; exact hy) h2.1
theorem set_filled {α : Type} (a : List α) (z v : α) (i n : Nat) (hi : a.length = i) (hn : i < n) : (a ++ List.replicate (n - i) z).set i v = a ++ [v] ++ List.replicate (n - (i + 1)) z := by
 obtain ⟨k, hk⟩ : ∃ k, n - i = k + 1 := ⟨n - i - 1, by omega⟩
 have hk2 : n - (i + 1) = k := by omega
 rw [hk, hk2, List.set_append_right _ _ (by omega), hi, Nat.sub_self, List.replicate_succ, List.set_cons_zero]
 simp
end Go.GL
namespace Go.Proofs.YtldhllpogdikdaaGreat
open Go.GL
theorem lay_edges (l : List St) : ∀ (a n e N : Nat), n + widL l ≤ N → e < N → ∀ x ∈ layL l a n e, (-1 ≤ x.next ∧ x.next < N) ∧ (-1 ≤ x.other ∧ x.other < N) := by
 induction l using Sts.ind with
 | h l ih =>
 have wpos : ∀ r : List St, r.isEmpty = false → 1 ≤ widL r := by
  intro r hr
  cases r with
  | nil => simp at hr
  | cons s t => have := s.wid_eq; simp only [widL]; omega
 have key : ∀ r : List St, (∀ x ∈ r, x ∈ l) → ∀ (a n e N : Nat), n + widL r ≤ N → e < N → ∀ x ∈ layL r a n e, (-1 ≤ x.next ∧ x.next < N) ∧ (-1 ≤ x.other ∧ x.other < N) := by
  intro r
  induction r with
  | nil => intro _ a n e N _ _ x hx; simp [layL] at hx
  | cons s r ihr =>
   intro hm a n e N hN he x hx
   have h1 := (ih s (hm s (List.mem_cons_self ..))).1
   have h2 := (ih s (hm s (List.mem_cons_self ..))).2
   have hw := s.wid_eq
   simp only [widL] at hN
   rw [layL, List.mem_append] at hx
   rcases hx with hx | hx
   ·
    have he' : (if r.isEmpty then e else n + s.wid) < N := by
     cases hr : r.isEmpty
     · have := wpos r hr; simp; omega
     · simpa using he
    generalize (if r.isEmpty then e else n + s.wid) = e' at hx he'
    rw [s.lay_eq] at hx
    split at hx
    ·
     rename_i a3
     rw [if_neg (show ¬ s.act = 4 by omega)] at hw
     rw [List.mem_cons, List.mem_append] at hx
     rcases hx with rfl | hx | hx
     ·
      dsimp only
      refine ⟨?_, ?_⟩
      ·
       cases hr : s.thn.isEmpty
       · have := wpos _ hr; simp; omega
       · simp; omega
      ·
       cases hr : s.els.isEmpty
       · have := wpos _ hr; simp; omega
       · simp; omega
     · exact h1 _ _ _ N (by omega) he' x hx
     · exact h2 _ _ _ N (by omega) he' x hx
    ·
     split at hx
     ·
      rename_i a4
      rw [if_pos a4] at hw
      rw [List.mem_cons, List.mem_cons] at hx
      rcases hx with rfl | rfl | hx
      · dsimp only; omega
      ·
       dsimp only
       refine ⟨?_, by omega⟩
       cases hr : s.thn.isEmpty
       · have := wpos _ hr; simp; omega
       · simp; omega
      · exact h1 _ _ _ N (by omega) (by omega) x hx
     ·
      rw [List.mem_singleton] at hx
      subst hx
      dsimp only; omega
   · exact ihr (fun y hy => hm y (List.mem_cons_of_mem _ hy)) _ _ _ N (by omega) he x hx
 exact key l (fun x h => h)
theorem Valid.edge {f : Fl} (V : Valid f) {i : Nat} {x : Nd} (hx : (cfgN f)[i]? = some x) : (∀ to, to = x.next ∨ to = x.other → -1 ≤ to ∧ to < (cfgN f).length) ∧ (x.kind = 2 → 0 ≤ x.at_ ∧ x.at_ < (preL f.body).length) := by
 have hlen := cfgN_len f V.plain
 have hi := (List.getElem?_eq_some_iff.1 hx).1
 refine ⟨?_, fun k2 => ?_⟩
 ·
  have hm := List.mem_of_getElem? hx
  unfold cfgN at hm
  rw [List.mem_cons, List.mem_append, List.mem_singleton] at hm
  rcases hm with rfl | hm | rfl
  · dsimp only; intro to h; omega
  ·
   have := lay_edges f.body 0 1 (1 + widL f.body) (cfgN f).length (by omega) (by omega) x hm
   intro to h
   rcases h with rfl | rfl <;> omega
  · dsimp only; intro to h; omega
 ·
  by_cases hl : i < (cfgN f).length - 1
  ·
   obtain ⟨h1, h2⟩ := V.node (k := (i : Int)) (by omega) (by omega)
   rw [Int.toNat_natCast, hx] at h1
   have e := Option.some.inj h1
   rw [← e] at h2
   obtain ⟨h3, h4, _⟩ := h2.step (by omega)
   have := (List.getElem?_eq_some_iff.1 h4).1
   omega
  ·
   have hx2 := hx
   unfold cfgN at hx2
   obtain ⟨j, rfl⟩ : ∃ j, i = j + 1 := ⟨i - 1, by omega⟩
   rw [List.getElem?_cons_succ, List.getElem?_append_right (by rw [layL_len _ V.plain]; omega), layL_len _ V.plain] at hx2
   rw [show j - widL f.body = 0 by omega] at hx2
   simp at hx2
   subst hx2
   cases k2
def ProgK (Ls Ls1 : Sets) (ch : Bool) (done : Prop) : Prop := totL Ls ≤ totL Ls1 ∧ (ch = false → Ls1 = Ls ∧ done) ∧ (ch = true → totL Ls < totL Ls1)
theorem ProgK.imp {Ls Ls1 : Sets} {ch : Bool} {d d' : Prop} (h : ProgK Ls Ls1 ch d) (hd : Ls1 = Ls → ch = false → d → d') : ProgK Ls Ls1 ch d' :=
 ⟨h.1, fun e => ⟨(h.2.1 e).1, hd (h.2.1 e).1 e (h.2.1 e).2⟩, h.2.2⟩
theorem ProgK.grow {Ls Ls1 Ls2 : Sets} {ch : Bool} {d d' : Prop} (h : ProgK Ls Ls1 ch d) (ht : totL Ls2 = totL Ls1 + 1) : ProgK Ls Ls2 true d' :=
 ⟨by have := h.1; omega, (fun e => by cases e), fun _ => by have := h.1; omega⟩
theorem RmS.upd {w w' : World} {B gb : Nat} {ms : List Nat} {Ls : Sets} (h : RmS w B gb ms Ls) {i m : Nat} {l l' : List (Int × Value)} (hm : ms[i]? = some m) (hl : Ls[i]? = some l) (hM : MapI w' m l') (hk : Keep (fun q => q = m) w w') : RmS w' B gb ms (Ls.set i l') := by
 have hm0 := h.map i m l hm hl
 refine ⟨by rw [List.length_set]; exact h.len, hk.blk h.box (fun e => hm0.ne h.box e), hk.blk h.row (fun e => hm0.ne h.row e), h.nd, fun j m' q hj hq => ?_⟩
 by_cases e : i = j
 ·
  subst e
  rw [hm] at hj; cases hj
  rw [List.getElem?_set_self (List.getElem?_eq_some_iff.1 hl).1] at hq
  cases hq
  exact hM
 ·
  rw [List.getElem?_set_ne e] at hq
  refine (h.map j m' q hj hq).keep hk (fun e2 => ?_)
  have hnd := List.nodup_iff_pairwise_ne.1 h.nd
  rw [List.pairwise_iff_getElem] at hnd
  have hi' := (List.getElem?_eq_some_iff.1 hm)
  have hj' := (List.getElem?_eq_some_iff.1 hj)
  rcases Nat.lt_or_ge i j with h3 | h3
  · exact hnd i j hi'.1 hj'.1 h3 (by rw [hi'.2, hj'.2, e2])
  · exact hnd j i hj'.1 hi'.1 (by omega) (by rw [hi'.2, hj'.2, e2])
def RchRows (f : Fl) (g : List Nd) (rows : List (List Int)) : Prop := rows.length = g.length ∧ ∀ (i : Nat) r, rows[i]? = some r → r.Pairwise (· < ·) ∧ ∀ d, d ∈ r ↔ Rch f g i d
theorem strict_ext : ∀ {x y : List Int}, x.Pairwise (· < ·) → y.Pairwise (· < ·) → (∀ d, d ∈ x ↔ d ∈ y) → x = y := by
 intro x
 induction x with
 | nil =>
  intro y _ _ h
  cases y with
  | nil => rfl
  | cons c t => exact absurd ((h c).2 (List.mem_cons_self ..)) (by simp)
 | cons c t ih =>
  intro y hx hy h
  cases y with
  | nil => exact absurd ((h c).1 (List.mem_cons_self ..)) (by simp)
  | cons c' t' =>
   rw [List.pairwise_cons] at hx hy
   have e1 := (h c).1 (List.mem_cons_self ..)
   have e2 := (h c').2 (List.mem_cons_self ..)
   have e : c = c' := by
    rcases List.mem_cons.1 e1 with e1 | e1
    · exact e1
    ·
     rcases List.mem_cons.1 e2 with e2 | e2
     · exact e2.symm
     · have := hx.1 c' e2; have := hy.1 c e1; omega
   subst e
   congr 1
   refine ih hx.2 hy.2 (fun d => ⟨fun hd => ?_, fun hd => ?_⟩)
   ·
    rcases List.mem_cons.1 ((h d).1 (List.mem_cons_of_mem _ hd)) with e | e
    · have := hx.1 d hd; omega
    · exact e
   ·
    rcases List.mem_cons.1 ((h d).2 (List.mem_cons_of_mem _ hd)) with e | e
    · have := hy.1 d hd; omega
    · exact e
theorem rows_unique {f : Fl} {g : List Nd} {a b : List (List Int)} (ha : RchRows f g a) (hb : RchRows f g b) : a = b := by
 apply List.ext_getElem?
 intro i
 rcases Nat.lt_or_ge i g.length with h | h
 ·
  have h1 : a[i]? = some (a[i]'(by rw [ha.1]; exact h)) := List.getElem?_eq_getElem _
  have h2 : b[i]? = some (b[i]'(by rw [hb.1]; exact h)) := List.getElem?_eq_getElem _
  rw [h1, h2]
  congr 1
  exact strict_ext (ha.2 i _ h1).1 (hb.2 i _ h2).1 (fun d => by rw [(ha.2 i _ h1).2, (hb.2 i _ h2).2])
 · rw [List.getElem?_eq_none (by rw [ha.1]; exact h), List.getElem?_eq_none (by rw [hb.1]; exact h)]
abbrev mcAt (f : Fl) (r : Ins) (j : Nat) : Mc := iterM f (hatsOf f r) (cfgN f) j (mcOf f r)
def CtOk (f : Fl) (cl : List Int) (rd : Int → Int) : Prop := ∀ (i : Nat) x, (cfgN f)[i]? = some x → x.kind = 5 → cl[i]? = some (rd x.at_)
structure WkInv (f : Fl) (r : Ins) (K j : Nat) (n : Int) (s : Sg) (cl : List Int) : Prop where
 le : j ≤ K + 1
 st : s = (mcAt f r (min j K)).σ
 len : cl.length = (cfgN f).length
 go : j ≤ K → n = (mcAt f r j).at_ ∧ CtOk f cl (mcAt f r j).rd
 fin : K < j → n = -1
theorem WkInv.next {f : Fl} {r : Ins} {K j : Nat} {n : Int} {s : Sg} {cl : List Int} (h : WkInv f r K j n s cl) (hj : j < K) {x : Nd} {n' : Int} {s' : Sg} {cl' : List Int} {rd' : Int → Int} (hx : ndAt (cfgN f) n = x) (he : passN f (hatsOf f r) x (stAt f x.at_) s (mcAt f r j).rd = (n', s', rd')) (hl : cl'.length = cl.length) (hc : CtOk f cl' rd') : WkInv f r K (j + 1) n' s' cl' := by
 obtain ⟨h1, h2, h3, h4, h5⟩ := h
 obtain ⟨h6, _⟩ := h4 (by omega)
 rw [Nat.min_eq_left (by omega)] at h2
 have hs : mcAt f r (j + 1) = ⟨n', s', rd'⟩ := by
  rw [show mcAt f r (j + 1) = stepM f (hatsOf f r) (cfgN f) (mcAt f r j) from iterM_succ _ _ _ _ _]
  unfold stepM
  rw [← h6, hx, ← h2, he]
 exact ⟨by omega, by rw [Nat.min_eq_left (by omega), hs], by rw [hl, h3], fun _ => by rw [hs]; exact ⟨rfl, hc⟩, fun h => by omega⟩
theorem WkInv.last {f : Fl} {r : Ins} {K : Nat} {n : Int} {s : Sg} {cl : List Int} (h : WkInv f r K K n s cl) : WkInv f r K (K + 1) (-1) s cl := by
 obtain ⟨h1, h2, h3, h4, h5⟩ := h
 rw [Nat.min_self] at h2
 exact ⟨Nat.le_refl _, by rw [Nat.min_eq_right (by omega)]; exact h2, h3, fun h => by omega, fun _ => rfl⟩
theorem CtOk.set {f : Fl} (vd : Valid f) {cl : List Int} {rd : Int → Int} (h : CtOk f cl rd) (hl : cl.length = (cfgN f).length) {i : Nat} {x : Nd} (hx : (cfgN f)[i]? = some x) (hk : x.kind = 5) (v : Int) : CtOk f (cl.set i v) (updR rd x.at_ v) := by
 intro q y hy ky
 have hi := (List.getElem?_eq_some_iff.1 hx).1
 unfold updR
 by_cases e : y.at_ = x.at_
 ·
  obtain rfl : q = i := vd.heads hy hx ky hk e
  rw [if_pos e, List.getElem?_set_self (by omega)]
 ·
  rw [if_neg e, List.getElem?_set_ne (fun h => e (by subst h; rw [hx] at hy; cases hy; rfl))]
  exact h q y hy ky
theorem ends_of {f : Fl} (vd : Valid f) {i : Nat} {x : Nd} (hx : (cfgN f)[i]? = some x) : (i + 1 = (cfgN f).length → x = ⟨1, -1, -1, -1⟩) ∧ (x.kind = 0 → x.at_ = -1) := by
 have hlen := cfgN_len f vd.plain
 have hi := (List.getElem?_eq_some_iff.1 hx).1
 unfold cfgN at hx
 cases i with
 | zero => simp at hx; subst hx; exact ⟨fun h => by omega, fun _ => rfl⟩
 | succ i =>
  rw [List.getElem?_cons_succ] at hx
  by_cases hi2 : i < widL f.body
  ·
   rw [List.getElem?_append_left (by rw [layL_len _ vd.plain]; omega)] at hx
   refine ⟨fun h => by omega, fun h => ?_⟩
   rcases lay_kinds _ _ _ _ x (List.mem_of_getElem? hx) with h' | h' | h' | h' <;> omega
  ·
   rw [List.getElem?_append_right (by rw [layL_len _ vd.plain]; omega), layL_len _ vd.plain, show i - widL f.body = 0 by omega] at hx
   simp at hx; subst hx
   exact ⟨fun _ => rfl, fun h => by (cases h)⟩
theorem WkInv.node {f : Fl} {r : Ins} (vd : Valid f) {K j : Nat} (hg : GoesAll f r K) {n : Int} {s : Sg} {cl : List Int} (h : WkInv f r K j n s cl) (hn : 0 ≤ n) : j ≤ K ∧ n < (cfgN f).length ∧ CtOk f cl (mcAt f r j).rd ∧ ∀ x, (cfgN f)[n.toNat]? = some x →
  ((x.kind = 0 ∨ x.kind = 1) ∧ x.at_ < 0 ∧ WkInv f r K (j + 1) x.next s cl) ∨ (j < K ∧ ndAt (cfgN f) n = x ∧ (x.kind = 2 ∨ x.kind = 3 ∨ x.kind = 4 ∨ x.kind = 5) ∧ 0 ≤ x.at_ ∧ (preL f.body)[x.at_.toNat]? = some (stAt f x.at_) ∧ StepOk f (stAt f x.at_)) := by
 have hlen := cfgN_len f vd.plain
 have hjK : j ≤ K := by
  rcases Nat.lt_or_ge K j with h' | h'
  · have := h.fin h'; omega
  · exact h'
 obtain ⟨h6, hct⟩ := h.go hjK
 have hlt : n < (cfgN f).length := by
  obtain ⟨_, h1, h2⟩ := hg
  rcases Nat.lt_or_ge j K with h' | h'
  ·
   have h3 : 0 ≤ (mcAt f r j).at_ ∧ (mcAt f r j).at_ < ((cfgN f).length : Int) - 1 := h2 j h'
   omega
  ·
   obtain rfl : j = K := by omega
   have h1' : mcAt f r j = _ := h1
   rw [h1'] at h6
   simp only at h6
   omega
 refine ⟨hjK, hlt, hct, fun x hx => ?_⟩
 by_cases hj : j < K
 ·
  have h3 : 0 ≤ (mcAt f r j).at_ ∧ (mcAt f r j).at_ < ((cfgN f).length : Int) - 1 := by
   obtain ⟨_, _, h2⟩ := hg
   exact h2 j hj
  rw [← h6] at h3
  obtain ⟨h4, h5, h7⟩ := vd.node h3.1 h3.2
  rw [hx] at h4
  have hxe := Option.some.inj h4
  rw [← hxe] at h5 h7
  by_cases k0 : x.kind = 0
  ·
   refine .inl ⟨.inl k0, by rw [(ends_of vd hx).2 k0]; decide, h.next hj hxe.symm (rd' := (mcAt f r j).rd) ?_ rfl hct⟩
   unfold passN; rw [if_pos k0]
  ·
   obtain ⟨a1, a2, a3, _⟩ := h7 k0
   exact .inr ⟨hj, hxe.symm, by omega, a1, a2, a3⟩
 ·
  obtain rfl : j = K := by omega
  have hx1 := (ends_of vd hx).1 (by
   obtain ⟨_, h1, _⟩ := hg
   have h1' : mcAt f r j = _ := h1
   rw [h1'] at h6
   simp only at h6
   omega)
  subst hx1
  exact .inl ⟨.inr rfl, by decide, h.last⟩
theorem WkInv.done {f : Fl} {r : Ins} {K j : Nat} (hg : GoesAll f r K) {n : Int} {s : Sg} {cl : List Int} (h : WkInv f r K j n s cl) (hn : n < 0) : j = K + 1 := by
 have h1 := h.le
 rcases Nat.lt_or_ge K j with h' | h'
 · omega
 ·
  obtain ⟨h2, _⟩ := h.go h'
  obtain ⟨_, h3, h4⟩ := hg
  rcases Nat.lt_or_ge j K with h' | h'
  ·
   have h3 : 0 ≤ (mcAt f r j).at_ ∧ (mcAt f r j).at_ < ((cfgN f).length : Int) - 1 := h4 j h'
   omega
  ·
   obtain rfl : j = K := by omega
   have h1' : mcAt f r j = _ := h3
   rw [h1'] at h2
   simp only at h2
   have : 2 ≤ (cfgN f).length := by unfold cfgN; simp
   omega
theorem RFl.wide {D D' : Nat → Prop} {w : World} {f : Fl} {v1 v2 v3 : Value} (h : RFl D w f v1 v2 v3) (hD : ∀ b, D b → D' b) : RFl D' w f v1 v2 v3 := ⟨h.vars.wide stable_vr hD, h.hatches.wide stable_ht hD, h.body.wide stable_st hD⟩
end Go.Proofs.YtldhllpogdikdaaGreat
namespace Go.GL
section
variable {P : Program} {env : Env} {w : World} {dst : Option Tmp} {ty : TypeId} {pos : String} {aft : Array Edge} {g : Option (Nat × Bool)}
theorem M.bs0 {t e : TypeId} {k : Nat} (hu : ∀ w, (underlying t).run P w = .ok (.slice e) w) (hs : ∀ w, (sizeOf e).run P w = .ok k w) :
  Makes P ⟨dst, .buildSlice t 0 #[], ty, pos, aft, g⟩ env w (fun u w' => ∃ b, u = .slice (some ⟨b, 0, none⟩) 0 0 ∧ New w [] e b w') := by
 refine ⟨.slice (some ⟨w.heap.size, 0, none⟩) 0 0, w.alloc (.cells #[] e), ?_, _, rfl, New.mk w [] e⟩
 intro n a ha
 have h0 : Array.range 0 = #[] := Array.eq_empty_of_size_eq_zero (by simp)
 simp [execOp, Instr.buildSlice, hu, hs, newRow, Instr.fill, h0]
end
end Go.GL
namespace Go.Proofs.YtldhllpogdikdaaGreat
open Go.GL
theorem refOf_ok (vs : List Vr) (k : Int) (vv : Value) (D : Nat → Prop) (w : World) (hvs : SlR 5 RVr D w vv vs) (hlen : vs.length ≤ 1000000) : Calls Tryz.prog 120 #[vv, .int .i64 k] w (Ret fun r w' => SlR 5 RVr (fun b => w.heap.size ≤ b) w' r (ofKind k vs) ∧ Ext w w') := by
 obtain ⟨av, nv, rfl⟩ := hvs.form
 have hvs0 := hvs
 have hE := Keep.refl (fun _ => False) w
 refine G.in2 Tryz.func120 rfl Tryz.ntmps120 rfl (Gs 7 rfl (G.mem rfl rfl (M.bs0 Tryz.runUnderlying22 Tryz.sizeOf125) ?_))
 rintro _ w0 ⟨b0, rfl, hg_b0, hs_b0, hB_b0, hk_b0⟩
 obtain ⟨hE, hvs⟩ := Tr2 hk_b0 hE hvs
 have ho0 : w0.ownsRow 0 125 5 (.slice (some ⟨b0, 0, none⟩) 0 0) 0 [] := own_blk (k := 5) (n := 0) (cap := 0) hB_b0 (Nat.le_refl _) (by decide) rfl
 refine Gs 10 rfl (G.loop (σ := Nat × Value) (fun ⟨i, vl⟩ => [(0, .slice av vs.length nv), (1, .int .i64 k), (5, vl), (6, .int .i64 i)]) (fun ⟨i, vl⟩ => fun w' => i ≤ vs.length ∧ w'.ownsRow 0 125 5 vl (ofKind k (vs.take i)).length ((ofKind k (vs.take i)).flatMap encV) ∧ (∀ q, vl.ownBlock = some q → w.heap.size ≤ q) ∧ Ext w w') (fun ⟨i, vl⟩ => vs.length - i) ((0, .slice (some ⟨b0, 0, none⟩) 0 0)) (Sub.of rfl) (⟨Nat.zero_le _, ho0, fun q hq => by obtain rfl : b0 = q := Option.some.inj hq; omega, hE⟩) ?_)
 rintro ⟨i, vl⟩ w2 ⟨hi, hown, hfr, hE2⟩
 show G _ _ _ _ _ [(0, .slice av vs.length nv), (1, .int .i64 k), (5, vl), (6, .int .i64 i)] _
 have hvs2 := hvs0.ext stable_vr hE2
 refine Gs 9 rfl (G.ite rfl (fun hlt => ?_) (fun hlt => ?_))
 ·
  obtain ⟨x, he_x⟩ : ∃ x, vs[i]? = some x := ⟨_, List.getElem?_eq_getElem (by omega)⟩
  have hm_x := List.mem_of_getElem? he_x
  obtain ⟨b_x, o_x, c_x, ha_x, _, hc_x, hR_x⟩ := hvs2.at he_x
  have h1_x := RVr.one hR_x
  obtain rfl := hR_x
  have hlt_x : b_x < _ := World.block_lt_of_cell? _ _ (hc_x 0 _ rfl)
  have hot := ofKind_take (k := k) he_x
  have hol := ofKind_len k (vs.take i)
  rw [List.length_take] at hol
  refine Gs 8 rfl (G.ops1 rfl rfl (R.indexS Tryz.runUnderlying22 Tryz.sizeOf125 rfl rfl ha_x (by omega)) (Gs 1 rfl (G.ld rfl Tryz.isAgg121 (hc_x 1 _ rfl) (Gs 4 rfl (G.ite rfl (fun hkx => ?_) (fun hkx => ?_))))))
  ·
   rw [if_pos hkx] at hot
   refine Gs 4 rfl (G.ops1 rfl rfl (R.indexS Tryz.runUnderlying22 Tryz.sizeOf125 rfl rfl ha_x (by omega)) (G.ldK rfl Tryz.isAgg125 Tryz.sizeOf125 hc_x rfl (G.mem rfl rfl (M.buildSlice (cs := encV x) [(0, _)] Tryz.runUnderlying22 Tryz.sizeOf125 Tryz.zeroValue125 (by decide) rfl (by kernel_rfl)) ?_)))
   rintro _ w5 ⟨b5, rfl, hg_b5, hs_b5, hB_b5, hk_b5⟩
   have hown5 := own_keep hown hk_b5 (fun _ _ h => h)
   have hE5 := hE2.ext hk_b5
   have hs5 := hE5.size
   refine G.mem rfl rfl (M.append Tryz.underlying22 Tryz.el125 rfl (by decide) rfl rfl hown5 rfl (Cells.add hB_b5.cells) (encV_one _) (by omega) (by omega)) ?_
   rintro vl' w6 ⟨hown6, hfr6, hk6, _⟩
   refine Ga 9 rfl (by omega) (G.back ((i + 1, vl')) (Sub.of rfl) (⟨by omega, ?_, ?_, hE5.trans hk6 (fun q hq h => by have := hfr q h; omega)⟩) (by first | omega | (dsimp only; omega)))
   ·
    rw [hot, List.length_append, List.flatMap_append]
    exact hown6
   ·
    intro q hq
    rcases hfr6 with h | ⟨q', h, h'⟩
    · exact hfr q (by rw [← h]; exact hq)
    · rw [h] at hq; cases hq; omega
  ·
   rw [if_neg hkx, List.append_nil] at hot
   refine Ga 8 rfl (by omega) (G.back ((i + 1, vl)) (Sub.of rfl) (⟨by omega, by rw [hot]; exact hown, hfr, hE2⟩) (by first | omega | (dsimp only; omega)))
 ·
  obtain rfl : i = vs.length := by omega
  rw [List.take_length] at hown
  refine Gs 12 rfl (G.ret1 Tryz.results120 rfl ⟨_, rfl, SlR.ofRowK (by omega) encV encV_len (fun x _ => rfl) hown hfr, hE2⟩)
theorem refSpace13_ok (vs : List Vr) (k : Int) (vv : Value) (D : Nat → Prop) (w : World) (hvs : SlR 5 RVr D w vv vs) (hlen : vs.length ≤ 1000000) : Calls Tryz.prog 72 #[vv, .int .i64 k] w (Ret fun r w' => (∃ a b : Int, r = .tuple #[.int .i64 a, .int .i64 b]) ∧ Ext w w') := by
 obtain ⟨av, nv, rfl⟩ := hvs.form
 have hE := Keep.refl (fun _ => False) w
 refine G.in2 Tryz.func72 rfl Tryz.ntmps72 rfl (Gs 8 rfl (G.cut (σ := Bool) (fun q => [(0, .slice av vs.length nv), (1, .int .i64 k), (23, .bool q)]) (fun q => fun w' => w' = w) ?_ ?_))
 ·
  refine Gs 4 rfl (G.sp 12 rfl (fun hh1 => ?_) (fun hh1 => ?_))
  ·
   refine Gs 4 rfl (G.sp 16 rfl (fun hh2 => ?_) (fun hh2 => ?_))
   ·
    refine Gs 4 rfl (G.sp 20 rfl (fun hh3 => ?_) (fun hh3 => ?_))
    ·
     refine Gs 4 rfl ?_
     refine G.meet (_) (Sub.of rfl) (rfl)
    ·
     refine Gs 4 rfl ?_
     refine G.meet (_) (Sub.cons rfl (Sub.cons rfl (Sub.cons (by first | rfl | (show some (Value.bool false) = some (Value.bool _); simp [*])) Sub.nil))) (rfl)
   ·
    refine Gs 8 rfl ?_
    refine G.meet (_) (Sub.cons rfl (Sub.cons rfl (Sub.cons (by first | rfl | (show some (Value.bool false) = some (Value.bool _); simp [*])) Sub.nil))) (rfl)
  ·
   refine Gs 12 rfl ?_
   refine G.meet (_) (Sub.cons rfl (Sub.cons rfl (Sub.cons (by first | rfl | (show some (Value.bool false) = some (Value.bool _); simp [*])) Sub.nil))) (rfl)
 rintro q w1 hw1
 subst hw1
 refine Gs 1 rfl (G.bool rfl (fun q1 => ?_) (fun q1 => ?_))
 · refine Gs 8 rfl (G.ret2 Tryz.results72 rfl rfl ⟨_, rfl, ⟨_, _, rfl⟩, hE⟩)
 ·
  refine Gs 6 rfl (G.call rfl Tryz.call120 (refOf_ok vs k _ D _ hvs hlen) ?_)
  rintro _ wz4 ⟨hl, hz4⟩
  obtain ⟨hE, hvs⟩ := Tr2 hz4 hE hvs
  have hol := ofKind_len k vs
  generalize ofKind k vs = l at hl hol
  obtain ⟨al, nl, rfl⟩ := hl.form
  refine Gs 10 rfl ?_
  have hlm := hl.max
  refine G.loop (σ := Nat) (fun i => [(6, .slice al l.length nl), (7, .int .i64 i)]) (fun i => fun w' => i ≤ l.length ∧ (∀ v ∈ l.take i, v.low ≤ v.high ∧ -1048576 ≤ v.low ∧ v.high ≤ 1048576) ∧ Ext wz4 w') (fun i => l.length - i) (0) (Sub.of rfl) (⟨Nat.zero_le _, by simp, Keep.refl _ _⟩) ?_
  rintro i w2 ⟨hi, hgood, hL1⟩
  obtain ⟨hE, hvs, hl⟩ := Tr3 hL1 hE hvs hl
  refine Gs 9 rfl (G.ite rfl (fun hlt => ?_) (fun hlt => ?_))
  ·
   obtain ⟨x, he_x⟩ : ∃ x, l[i]? = some x := ⟨_, List.getElem?_eq_getElem (by omega)⟩
   have hm_x := List.mem_of_getElem? he_x
   obtain ⟨b_x, o_x, c_x, ha_x, _, hc_x, hR_x⟩ := hl.at he_x
   have h1_x := RVr.one hR_x
   obtain rfl := hR_x
   have hlt_x : b_x < _ := World.block_lt_of_cell? _ _ (hc_x 0 _ rfl)
   refine Gs 5 rfl (Qt (by kernel_rfl) (Gs 2 rfl (G.opQ rfl rfl (fun w1 hw1 => R.indexS Tryz.runUnderlying22 Tryz.sizeOf125 rfl rfl ha_x (by omega)) (Gs 1 rfl (G.ldQ rfl Tryz.isAgg3 (fun w1 hw1 => ((hw1.cells hc_x (fun h => h)) 2 _ rfl)) (Gs 2 rfl (G.opQ rfl rfl (fun w1 hw1 => R.indexS Tryz.runUnderlying22 Tryz.sizeOf125 rfl rfl ha_x (by omega)) (Gs 1 rfl (G.ldQ rfl Tryz.isAgg3 (fun w1 hw1 => ((hw1.cells hc_x (fun h => h)) 3 _ rfl)) (Gs 2 rfl (G.sp 44 rfl (fun p1 => ?_) (fun p1 => ?_))))))))))))
   ·
    refine Gs 15 rfl (G.nilQ (fun wz5 hz5 => ?_))
    obtain ⟨hE, hvs, hl, hL1, hc_x⟩ := Tr5 hz5 hE hvs hl hL1 hc_x
    refine Gs 14 rfl (G.ret2 Tryz.results72 rfl rfl ⟨_, rfl, ⟨_, _, rfl⟩, hE⟩)
   ·
    refine Gs 2 rfl (G.opQ rfl rfl (fun w1 hw1 => R.indexS Tryz.runUnderlying22 Tryz.sizeOf125 rfl rfl ha_x (by omega)) (Gs 1 rfl (G.ldQ rfl Tryz.isAgg3 (fun w1 hw1 => ((hw1.cells hc_x (fun h => h)) 2 _ rfl)) (Gs 3 rfl (G.sp 52 rfl (fun p2 => ?_) (fun p2 => ?_))))))
    ·
     refine Gs 7 rfl (G.nilQ (fun wz6 hz6 => ?_))
     obtain ⟨hE, hvs, hl, hL1, hc_x⟩ := Tr5 hz6 hE hvs hl hL1 hc_x
     refine Gs 14 rfl (G.ret2 Tryz.results72 rfl rfl ⟨_, rfl, ⟨_, _, rfl⟩, hE⟩)
    ·
     refine Gs 2 rfl (G.opQ rfl rfl (fun w1 hw1 => R.indexS Tryz.runUnderlying22 Tryz.sizeOf125 rfl rfl ha_x (by omega)) (Gs 1 rfl (G.ldQ rfl Tryz.isAgg3 (fun w1 hw1 => ((hw1.cells hc_x (fun h => h)) 3 _ rfl)) (Gs 2 rfl (G.nilQ (fun wz7 hz7 => ?_))))))
     obtain ⟨hE, hvs, hl, hL1, hc_x⟩ := Tr5 hz7 hE hvs hl hL1 hc_x
     refine Gs 1 rfl (G.ite rfl (fun p3 => ?_) (fun p3 => ?_))
     · refine Gs 12 rfl (G.ret2 Tryz.results72 rfl rfl ⟨_, rfl, ⟨_, _, rfl⟩, hE⟩)
     ·
      refine Ga 8 rfl (by omega) ?_
      have hgood2 : ∀ v ∈ l.take (i + 1), v.low ≤ v.high ∧ -1048576 ≤ v.low ∧ v.high ≤ 1048576 := fun v hv => by
       rw [take_get he_x, List.mem_append, List.mem_singleton] at hv
       rcases hv with hv | rfl
       · exact hgood v hv
       · omega
      refine G.back (i + 1) (Sub.of rfl) (⟨by omega, hgood2, hL1⟩) (by first | omega | (dsimp only; omega))
  ·
   obtain rfl : i = l.length := by omega
   rw [List.take_length] at hgood
   refine Gs 17 rfl (G.loop (σ := Nat × Int) (fun ⟨j, n⟩ => [(6, .slice al l.length nl), (8, .int .i64 n), (9, .int .i64 j)]) (fun ⟨j, n⟩ => fun w' => j ≤ l.length ∧ 0 ≤ n ∧ n ≤ 4096 ∧ Ext w2 w') (fun ⟨j, n⟩ => l.length - j) ((0, 1)) (Sub.of rfl) (⟨Nat.zero_le _, by decide, by decide, Keep.refl _ _⟩) ?_)
   rintro ⟨j, n⟩ w3 ⟨hj, hn0, hn1, hL2⟩
   show G _ _ _ _ _ [(6, .slice al l.length nl), (8, .int .i64 n), (9, .int .i64 j)] _
   obtain ⟨hE, hvs, hl, hL1⟩ := Tr4 hL2 hE hvs hl hL1
   refine Gs 9 rfl (G.ite rfl (fun hlt2 => ?_) (fun hlt2 => ?_))
   ·
    obtain ⟨x, he_x⟩ : ∃ x, l[j]? = some x := ⟨_, List.getElem?_eq_getElem (by omega)⟩
    have hm_x := List.mem_of_getElem? he_x
    obtain ⟨b_x, o_x, c_x, ha_x, _, hc_x, hR_x⟩ := hl.at he_x
    have h1_x := RVr.one hR_x
    obtain rfl := hR_x
    have hlt_x : b_x < _ := World.block_lt_of_cell? _ _ (hc_x 0 _ rfl)
    have hgx := hgood x hm_x
    have hm1 : 0 ≤ n * (x.high - x.low + 1) := Int.mul_nonneg hn0 (by omega)
    have hm2 : n * (x.high - x.low + 1) ≤ 4096 * 2097153 := Int.mul_le_mul hn1 (by omega) (by omega) (by omega)
    refine Gs 5 rfl (Qt (by kernel_rfl) (Gs 3 rfl (G.opQ rfl rfl (fun w1 hw1 => R.indexS Tryz.runUnderlying22 Tryz.sizeOf125 rfl rfl ha_x (by omega)) (Gs 1 rfl (G.ldQ rfl Tryz.isAgg3 (fun w1 hw1 => ((hw1.cells hc_x (fun h => h)) 3 _ rfl)) (Gs 2 rfl (G.opQ rfl rfl (fun w1 hw1 => R.indexS Tryz.runUnderlying22 Tryz.sizeOf125 rfl rfl ha_x (by omega)) (Gs 1 rfl (G.ldQ rfl Tryz.isAgg3 (fun w1 hw1 => ((hw1.cells hc_x (fun h => h)) 2 _ rfl)) (Ga 4 rfl (by omega) (G.nilQ (fun wz8 hz8 => ?_))))))))))))
    obtain ⟨hE, hvs, hl, hL1, hL2, hc_x⟩ := Tr6 hz8 hE hvs hl hL1 hL2 hc_x
    refine Gs 7 rfl (G.ite rfl (fun p4 => ?_) (fun p4 => ?_))
    · refine Gs 12 rfl (G.ret2 Tryz.results72 rfl rfl ⟨_, rfl, ⟨_, _, rfl⟩, hE⟩)
    · refine Ga 8 rfl (by omega) (G.back ((j + 1, n * (x.high - x.low + 1))) (Sub.of rfl) (⟨by omega, hm1, by omega, hL2⟩) (by first | omega | (dsimp only; omega)))
   · refine Gs 13 rfl (G.ret2 Tryz.results72 rfl rfl ⟨_, rfl, ⟨_, _, rfl⟩, hE⟩)
theorem fit_ok (f : Fl) (a b c : Int) (v1 v2 v3 : Value) (D : Nat → Prop) (w : World) (hf : RFl D w f v1 v2 v3) :
  Calls Tryz.prog 26 #[.agg #[v1, v2, v3], .int .i64 a, .int .i64 b, .int .i64 c] w (Ret fun r w' => (∃ q : Bool, r = .bool q ∧ (q = true → ((f.vars.length : Int) ≤ 10 ∧ (f.hatches.length : Int) ≤ 10 ∧ ((sbulk f.body + hnodes f.hatches : Nat) : Int) ≤ 80) ∧ checkN f = 0)) ∧ Ext w w') := by
 obtain ⟨a1, n1, rfl⟩ := hf.vars.form
 obtain ⟨a2, n2, rfl⟩ := hf.hatches.form
 obtain ⟨a3, n3, rfl⟩ := hf.body.form
 have hE := Keep.refl (fun _ => False) w
 refine G.in4 Tryz.func26 rfl Tryz.ntmps26 rfl (Gs 2 rfl (G.mem rfl rfl (M.box rfl rfl) ?_))
 rintro _ w_bx ⟨bx, rfl, hg_bx, hs_bx, hB_bx, hk_bx⟩
 have hge_bx : _ ≤ bx := Nat.le_trans hE.size (Nat.le_of_eq hg_bx.symm)
 obtain ⟨hE, hf⟩ := Tr2 hk_bx hE hf
 refine Gs 6 rfl (G.ldK rfl Tryz.isAgg26 Tryz.sizeOf26 hB_bx.cells rfl (G.call rfl Tryz.call15 (few17_ok f 10 80 _ _ _ D _ hf (by decide) (by decide)) ?_))
 rintro _ wz1 ⟨rfl, hz1⟩
 obtain ⟨hE, hf, hB_bx⟩ := Tr3 hz1 hE hf hB_bx
 refine G.ops1 rfl rfl (R.notU rfl (by first | exact not_decide_eq | rfl)) (Gs 1 rfl ?_)
 by_cases hfew : (f.vars.length : Int) ≤ 10 ∧ (f.hatches.length : Int) ≤ 10 ∧ ((sbulk f.body + hnodes f.hatches : Nat) : Int) ≤ 80
 ·
  have h1 := sbulk_snodes f.body
  have hsz : snodes f.body + hnodes f.hatches ≤ 1024 := by omega
  have hbk : sbulk f.body ≤ 1000000 := by omega
  refine G.sp 21 rfl (fun q1 => ?_) (fun q1 => ?_)
  · exact absurd hfew q1
  ·
   refine G.ldK rfl Tryz.isAgg26 Tryz.sizeOf26 hB_bx.cells rfl (G.call rfl Tryz.call17 (refCheck_ok f _ _ _ D _ hf hsz hbk) ?_)
   rintro _ wz2 ⟨rfl, hz2⟩
   obtain ⟨hE, hf, hB_bx⟩ := Tr3 hz2 hE hf hB_bx
   refine Gs 4 rfl (G.ite rfl (fun c0 => ?_) (fun c0 => ?_))
   · refine Gs 7 rfl (G.ret1 Tryz.results26 rfl ⟨_, rfl, ⟨_, rfl, fun h => by cases h⟩, hE⟩)
   ·
    have c0' : checkN f = 0 := by omega
    have hst := (check_parts c0').2.2.2.1
    refine Gs 5 rfl (G.ld rfl Tryz.isAgg22 (hB_bx.cells 0 _ rfl) (G.call rfl Tryz.call72 (refSpace13_ok f.vars 1 _ D _ hf.vars (by omega)) ?_))
    rintro _ wz3 ⟨⟨sa, sb, rfl⟩, hz3⟩
    obtain ⟨hE, hf, hB_bx⟩ := Tr3 hz3 hE hf hB_bx
    refine Gs 10 rfl (G.ld rfl Tryz.isAgg22 (hB_bx.cells 0 _ rfl) (G.call rfl Tryz.call72 (refSpace13_ok f.vars 2 _ D _ hf.vars (by omega)) ?_))
    rintro _ wz4 ⟨⟨ta, tb, rfl⟩, hz4⟩
    obtain ⟨hE, hf, hB_bx⟩ := Tr3 hz4 hE hf hB_bx
    refine Gs 10 rfl (G.ld rfl Tryz.isAgg22 (hB_bx.cells 0 _ rfl) (G.call rfl Tryz.call72 (refSpace13_ok f.vars 3 _ D _ hf.vars (by omega)) ?_))
    rintro _ wz5 ⟨⟨ua, ub, rfl⟩, hz5⟩
    obtain ⟨hE, hf, hB_bx⟩ := Tr3 hz5 hE hf hB_bx
    refine Gs 10 rfl (G.ld rfl Tryz.isAgg24 (hB_bx.cells 2 _ rfl) (G.call rfl Tryz.call67 (refBounds_ok f.vars f.hatches.length f.body _ D _ true hst hf.body hbk) ?_))
    rintro _ wz6 ⟨rfl, hz6⟩
    obtain ⟨hE, hf, hB_bx⟩ := Tr3 hz6 hE hf hB_bx
    refine Gs 15 rfl (G.sp 54 rfl (fun g1 => ?_) (fun g1 => ?_))
    ·
     refine Gs 5 rfl (G.sp 59 rfl (fun g2 => ?_) (fun g2 => ?_))
     ·
      refine Gs 5 rfl (G.sp 64 rfl (fun g3 => ?_) (fun g3 => ?_))
      · refine Gs 7 rfl (G.ret1 Tryz.results26 rfl ⟨_, rfl, ⟨_, rfl, fun _ => ⟨hfew, c0'⟩⟩, hE⟩)
      · refine Gs 7 rfl (G.ret1 Tryz.results26 rfl ⟨_, rfl, ⟨_, rfl, fun _ => ⟨hfew, c0'⟩⟩, hE⟩)
     · refine Gs 12 rfl (G.ret1 Tryz.results26 rfl ⟨_, rfl, ⟨_, rfl, fun _ => ⟨hfew, c0'⟩⟩, hE⟩)
    · refine Gs 17 rfl (G.ret1 Tryz.results26 rfl ⟨_, rfl, ⟨_, rfl, fun _ => ⟨hfew, c0'⟩⟩, hE⟩)
 ·
  refine G.sp 21 rfl (fun q1 => ?_) (fun q1 => ?_)
  · refine Gs 14 rfl (G.ret1 Tryz.results26 rfl ⟨_, rfl, ⟨_, rfl, fun h => by cases h⟩, hE⟩)
  · exact absurd (Decidable.not_not.1 q1) hfew
theorem reaching_ok (f : Fl) (g : List Nd) (v1 v2 v3 gv : Value) (D0 Dg0 : Nat → Prop) (w : World) (hf0 : RFl D0 w f v1 v2 v3) (hg0 : SlR 4 RNd Dg0 w gv g) (hsz : snodes f.body + hnodes f.hatches ≤ 1024) (hbk : sbulk f.body ≤ 1000000) :
  Calls Tryz.prog 34 #[.agg #[v1, v2, v3], .agg #[gv]] w (Ret fun rr w' => (∃ rv, rr = .tuple #[rv, .int .i64 (gcheckN f g)] ∧ (gcheckN f g ≠ 0 → rv = .slice none 0 0) ∧ (gcheckN f g = 0 → ∃ rows, RchRows f (cfgN f) rows ∧ SlR 1 (RSl 1 RInt) (fun b => w.heap.size ≤ b) w' rv rows)) ∧ Ext w w') := by
 have hf := hf0.narrow
 have hg := hg0.narrow (by decide) narrow_nd
 generalize hDD : (fun b => D0 b ∧ b < w.heap.size) = D at hf
 generalize hGG : (fun b => Dg0 b ∧ b < w.heap.size) = Dg at hg
 have hDw : ∀ q, D q → q < w.heap.size := fun q h => by rw [← hDD] at h; exact h.2
 have hGw : ∀ q, Dg q → q < w.heap.size := fun q h => by rw [← hGG] at h; exact h.2
 obtain ⟨ag, cg, rfl⟩ := hg.form
 have hE := Keep.refl (fun _ => False) w
 refine G.in2 Tryz.func34 rfl Tryz.ntmps34 rfl (Gs 2 rfl (G.mem rfl rfl (M.box rfl rfl) ?_))
 rintro _ w_b ⟨b, rfl, hg_b, hs_b, hB_b, hk_b⟩
 have hge_b : _ ≤ b := Nat.le_trans hE.size (Nat.le_of_eq hg_b.symm)
 obtain ⟨hE, hf, hg⟩ := Tr3 hk_b hE hf hg
 refine G.mem rfl rfl (M.box rfl rfl) ?_
 rintro _ w_bg ⟨bg, rfl, hg_bg, hs_bg, hB_bg, hk_bg⟩
 have hn_b_bg : b ≠ bg := by have := hB_b.lt; omega
 have hge_bg : _ ≤ bg := Nat.le_trans hE.size (Nat.le_of_eq hg_bg.symm)
 obtain ⟨hE, hf, hg, hB_b⟩ := Tr4 hk_bg hE hf hg hB_b
 refine Gs 7 rfl (G.ldK rfl Tryz.isAgg26 Tryz.sizeOf26 hB_b.cells rfl (G.ldK rfl Tryz.isAgg31 Tryz.sizeOf31 hB_bg.cells rfl (G.call rfl Tryz.call18 (cfgCheck_ok f g _ _ _ _ D Dg _ hf hg hsz hbk) ?_)))
 rintro _ wz1 ⟨rfl, hz1⟩
 obtain ⟨hE, hf, hg, hB_b, hB_bg⟩ := Tr5 hz1 hE hf hg hB_b hB_bg
 refine Gs 9 rfl (G.ite rfl (fun e0 => ?_) (fun e0 => ?_))
 · refine Gs 9 rfl (G.ret2 Tryz.results34 rfl rfl ⟨_, rfl, ⟨_, rfl, fun _ => rfl, fun h => absurd h e0⟩, hE⟩)
 ·
  have e0' : gcheckN f g = 0 := by omega
  have hck : checkN f = 0 := by
   unfold gcheckN at e0'
   split at e0'
   · rename_i h; exact absurd e0' h
   · rename_i h; omega
  have hgg : cfgN f = g := by
   unfold gcheckN at e0'
   rw [if_neg (by omega)] at e0'
   split at e0'
   · assumption
   · cases e0'
  have V : Valid f := ⟨hck, hsz, hbk⟩
  subst hgg
  have hl64 := V.lens
  have hss := V.ssize
  have hpl : (preL f.body).length ≤ 1024 := by rw [preL_len]; exact hss
  have hlen := cfgN_len f V.plain
  have hwl := widL_le f.body
  have hn : (cfgN f).length ≤ 2050 := by omega
  refine Gs 5 rfl (G.ld rfl Tryz.isAgg24 (hB_b.cells 2 _ rfl) (G.call rfl Tryz.call80 (flatten_ok f.body _ D _ hf.body (fun q hq => by have := hDw q hq; have := hE.size; omega) (by omega)) ?_))
  rintro sv u1 ⟨hOw, hOf, uk1⟩
  obtain ⟨hE, hf, hg, hB_b, hB_bg⟩ := Tr5 uk1 hE hf hg hB_b hB_bg
  obtain ⟨sa, sc, rfl, _, _⟩ := hOw.form
  refine G.mem rfl rfl (M.alloc (cs := _) Tryz.zeroValue24 rfl) ?_
  rintro _ wa2 ⟨bs, rfl, hg_bs, hs_bs, hB_bs, hk_bs⟩
  refine G.mem0 rfl (M.store Tryz.sizeOf24 rfl rfl rfl rfl hB_bs (by simp)) ?_
  rintro w_bs ⟨_, hB_bs, hkk_bs⟩
  replace hk_bs := hk_bs.trans hkk_bs (fun q hq h => by have h : q = bs := h; omega)
  have hn_b_bs : b ≠ bs := by have := hB_b.lt; omega
  have hn_bg_bs : bg ≠ bs := by have := hB_bg.lt; omega
  have hge_bs : _ ≤ bs := Nat.le_trans hE.size (Nat.le_of_eq hg_bs.symm)
  obtain ⟨hE, hf, hg, hB_b, hB_bg⟩ := Tr5 hk_bs hE hf hg hB_b hB_bg
  refine Gs 5 rfl (G.ld rfl Tryz.isAgg29 (hB_bg.cells 0 _ rfl) (Gs 1 rfl ?_))
  have hgs := hg
  refine G.mem rfl rfl (M.make Tryz.underlying134 Tryz.el135 rfl rfl (by omega) (by omega) (made1 _ (cfgN f).length rfl)) ?_
  rintro _ w1 ⟨gb, rfl, hgb, hs1, hB1, hk1⟩
  obtain ⟨hE, hf, hg, hB_b, hB_bg, hB_bs⟩ := Tr6 hk1 hE hf hg hB_b hB_bg hB_bs
  refine G.mem rfl rfl (M.alloc (cs := _) Tryz.zeroValue134 rfl) ?_
  rintro _ wa3 ⟨B, rfl, hg_B, hs_B, hB_B, hk_B⟩
  refine G.mem0 rfl (M.store Tryz.sizeOf134 rfl rfl rfl rfl hB_B (by simp)) ?_
  rintro w_B ⟨_, hB_B, hkk_B⟩
  replace hk_B := hk_B.trans hkk_B (fun q hq h => by have h : q = B := h; omega)
  have hn_b_B : b ≠ B := by have := hB_b.lt; omega
  have hn_bg_B : bg ≠ B := by have := hB_bg.lt; omega
  have hn_bs_B : bs ≠ B := by have := hB_bs.lt; omega
  have hge_B : _ ≤ B := Nat.le_trans hE.size (Nat.le_of_eq hg_B.symm)
  obtain ⟨hE, hf, hg, hB_b, hB_bg, hB_bs, hB1⟩ := Tr7 hk_B hE hf hg hB_b hB_bg hB_bs hB1
  refine Gs 5 rfl (G.ld rfl Tryz.isAgg134 (hB_B.cells 0 _ rfl) (Gs 5 rfl ?_))
  have hgb0 : w.heap.size ≤ gb := by have := uk1.size; have := hE.size; omega
  have hBne : B ≠ gb := hB_B.ne hB1 (by decide)
  have hsne : bs ≠ gb := hB_bs.ne hB1 (by decide)
  have hbne : b ≠ gb := hB_b.ne hB1 (by decide)
  have hgne : bg ≠ gb := hB_bg.ne hB1 (by decide)
  have hOw1 := (hOw.ext stable_st hk_bs).ext stable_st (hk1.ext hk_B)
  refine G.loop (σ := Nat × List Nat) (fun ⟨i, ms⟩ => [(2, .pointer (some ⟨b, 0, none⟩)), (3, .pointer (some ⟨bg, 0, none⟩)), (7, .pointer (some ⟨bs, 0, none⟩)), (8, .pointer (some ⟨B, 0, none⟩)), (38, .int .i64 (cfgN f).length), (39, .int .i64 i)]) (fun ⟨i, ms⟩ => fun w' => i ≤ (cfgN f).length ∧ ms.length = i ∧ ms.Nodup ∧ (∀ m ∈ ms, MapI w' m [] ∧ w.heap.size ≤ m) ∧ Blk w' gb ((ms.map fun m => Value.map (some m)) ++ List.replicate ((cfgN f).length - i) (.map none)) 135 ∧ Keep (fun q => q = gb) w_B w') (fun ⟨i, ms⟩ => (cfgN f).length - i) ((0, [])) (Sub.of rfl) (⟨Nat.zero_le _, rfl, List.Pairwise.nil, by simp, hB1, Keep.refl _ _⟩) ?_
  rintro ⟨i, ms⟩ x1 ⟨hi, hml, hmn, hmm, hBg, xK⟩
  show G _ _ _ _ _ [(2, .pointer (some ⟨b, 0, none⟩)), (3, .pointer (some ⟨bg, 0, none⟩)), (7, .pointer (some ⟨bs, 0, none⟩)), (8, .pointer (some ⟨B, 0, none⟩)), (38, .int .i64 (cfgN f).length), (39, .int .i64 i)] _
  refine Gs 6 rfl (G.ite rfl (fun i1 => ?_) (fun i1 => ?_))
  ·
   refine Gs 11 rfl (G.ld rfl Tryz.isAgg134 ((xK.blk hB_B hBne).cells 0 _ rfl) (Gs 1 rfl (G.mem rfl rfl (M.makeMap) ?_)))
   rintro _ x2 ⟨m, rfl, hm, hms, hM, xk2⟩
   refine Ga 1 rfl (by omega) ?_
   have hBg2 := xk2.blk hBg (fun h => h)
   refine G.mem0 rfl (M.store Tryz.sizeOf135 rfl rfl rfl rfl hBg2 (by rw [List.length_append, List.length_map, List.length_replicate, Int.toNat_natCast]; omega)) ?_
   rintro x3 hW3
   rw [Int.toNat_natCast, Nat.mul_one, Nat.zero_add, set_filled _ _ _ _ _ (by rw [List.length_map]; exact hml) (by omega)] at hW3
   have hne : ∀ m' : Nat, ∀ l, MapI x2 m' l → m' ≠ gb := fun m' l h e => h.ne hBg2 e.symm
   refine Ga 7 rfl (by omega) (G.back ((i + 1, ms ++ [m])) (Sub.of rfl) (⟨by omega, by rw [List.length_append, hml]; rfl, ?_, fun m' hm' => ?_, by rw [List.map_append]; exact hW3.2.1, (xK.ext xk2).trans hW3.2.2 (fun _ _ h => h)⟩) (by first | omega | (dsimp only; omega)))
   ·
    rw [List.nodup_append]
    refine ⟨hmn, by simp, fun a ha c hc => ?_⟩
    rw [List.mem_singleton] at hc
    have := (hmm a ha).1.lt
    omega
   ·
    rcases List.mem_append.1 hm' with h | h
    · exact ⟨((hmm m' h).1.ext xk2).keep hW3.2.2 (hne _ _ ((hmm m' h).1.ext xk2)), (hmm m' h).2⟩
    ·
     rw [List.mem_singleton] at h
     subst h
     refine ⟨hM.keep hW3.2.2 (hne _ _ hM), ?_⟩
     have := xK.size; have := hE.size; omega
  ·
   obtain rfl : i = (cfgN f).length := by omega
   rw [Nat.sub_self, List.replicate_zero, List.append_nil] at hBg
   have hE1 : Ext w x1 := Keep.trans hE xK (fun q hq (h : q = gb) => by omega)
   have hRm : RmS x1 B gb ms (List.replicate ms.length []) := by
    refine ⟨List.length_replicate, by rw [hml]; exact xK.blk hB_B hBne, hBg, hmn, fun j m l hm hl => ?_⟩
    rw [List.eq_of_mem_replicate (List.mem_of_getElem? hl)]
    exact (hmm m (List.mem_of_getElem? hm)).1
   have hBb1 := xK.blk hB_b hbne
   have hBg1 := xK.blk hB_bg hgne
   have hBs1 := xK.blk hB_bs hsne
   have hf1 := rflKeepD hf xK (fun q hq (h : q = gb) => by have := hDw q hq; omega)
   have hg1 := hg.keep stable_nd xK (fun q hq _ (h : q = gb) => by have := hGw q hq; omega)
   have hO1 := hOw1.keep stable_st xK (fun q hq _ (h : q = gb) => by have := hDw q hq; omega) (fun gg hgg h => by obtain ⟨cs, hB⟩ := hOw1.ty hgg; exact hB.ne hB1 (by decide) h)
   have hmw : ∀ m ∈ ms, w.heap.size ≤ m := fun m hm => (hmm m hm).2
   refine Gs 8 rfl (G.mem rfl rfl (M.alloc (cs := _) Tryz.zeroValue136 rfl) ?_)
   rintro _ wa4 ⟨bv, rfl, hg_bv, hs_bv, hB_bv, hk_bv⟩
   refine G.mem0 rfl (M.store Tryz.sizeOf136 rfl rfl rfl rfl hB_bv (by simp)) ?_
   rintro w_bv ⟨_, hB_bv, hkk_bv⟩
   replace hk_bv := hk_bv.trans hkk_bv (fun q hq h => by have h : q = bv := h; omega)
   obtain ⟨hE1, hRm, hBb1, hBg1, hBs1, hf1, hg1⟩ := Tr7 hk_bv hE1 hRm hBb1 hBg1 hBs1 hf1 hg1
   replace hO1 := Tr1 hk_bv hO1
   refine Gs 15 rfl ?_
   have hC0 : RcE D Dg f (cfgN f) w_bv b bg bs bv v1 v2 v3 (.slice ag (cfgN f).length cg) (.slice sa (preL f.body).length sc) := ⟨hBb1, hBg1, hBs1, hB_bv, hf1, hg1, hO1⟩
   obtain ⟨mx, hMM⟩ : ∃ mx, mx = (preL f.body).length + f.vars.length := ⟨_, rfl⟩
   have hrep : ∀ l ∈ List.replicate ms.length ([] : List (Int × Value)), l = [] := fun l hl => List.eq_of_mem_replicate hl
   refine G.loop (σ := Sets × Bool) (fun ⟨Ls, ch⟩ => [(2, .pointer (some ⟨b, 0, none⟩)), (3, .pointer (some ⟨bg, 0, none⟩)), (7, .pointer (some ⟨bs, 0, none⟩)), (8, .pointer (some ⟨B, 0, none⟩)), (10, .pointer (some ⟨bv, 0, none⟩)), (11, .func (.func 82) #[] #[.pointer (some ⟨bg, 0, none⟩), .pointer (some ⟨b, 0, none⟩), .pointer (some ⟨bs, 0, none⟩), .pointer (some ⟨B, 0, none⟩), .pointer (some ⟨bv, 0, none⟩)]), (12, .bool ch)]) (fun ⟨Ls, ch⟩ => fun w' => KeysOk mx Ls ∧ SoundK f (cfgN f) Ls ∧ RmS w' B gb ms Ls ∧ RcE D Dg f (cfgN f) w' b bg bs bv v1 v2 v3 (.slice ag (cfgN f).length cg) (.slice sa (preL f.body).length sc) ∧ Ext w w' ∧ (ch = false → ∀ i, i < (cfgN f).length → ClosedAt f (cfgN f) Ls i)) (fun ⟨Ls, ch⟩ => 2 * ((cfgN f).length * mx - totL Ls) + (if ch then 1 else 0)) ((List.replicate ms.length [], true)) (Sub.of rfl) (⟨fun l hl => by rw [hrep l hl]; exact ⟨List.Pairwise.nil, by simp⟩, fun i l hl d hd => by rw [hrep l (List.mem_of_getElem? hl)] at hd; simp at hd, hRm, hC0, hE1, fun h => by cases h⟩) ?_
   rintro ⟨Ls, ch⟩ y0 ⟨hKo, hSo, hR, hC, hEy, hcl⟩
   show G _ _ _ _ _ [(2, .pointer (some ⟨b, 0, none⟩)), (3, .pointer (some ⟨bg, 0, none⟩)), (7, .pointer (some ⟨bs, 0, none⟩)), (8, .pointer (some ⟨B, 0, none⟩)), (10, .pointer (some ⟨bv, 0, none⟩)), (11, .func (.func 82) #[] #[.pointer (some ⟨bg, 0, none⟩), .pointer (some ⟨b, 0, none⟩), .pointer (some ⟨bs, 0, none⟩), .pointer (some ⟨B, 0, none⟩), .pointer (some ⟨bv, 0, none⟩)]), (12, .bool ch)] _
   have hLl := hR.len
   have htot := totL_le hKo
   rw [hLl, hml] at htot
   refine Gs 6 rfl (G.bool rfl (fun c0 => ?_) (fun c0 => ?_))
   ·
    refine Gs 11 rfl (G.ld rfl Tryz.isAgg29 (hC.gbox.cells 0 _ rfl) (Gs 5 rfl (G.loop (σ := Nat × Sets × Bool) (fun ⟨i, L1, c1⟩ => [(2, .pointer (some ⟨b, 0, none⟩)), (3, .pointer (some ⟨bg, 0, none⟩)), (7, .pointer (some ⟨bs, 0, none⟩)), (8, .pointer (some ⟨B, 0, none⟩)), (10, .pointer (some ⟨bv, 0, none⟩)), (11, .func (.func 82) #[] #[.pointer (some ⟨bg, 0, none⟩), .pointer (some ⟨b, 0, none⟩), .pointer (some ⟨bs, 0, none⟩), .pointer (some ⟨B, 0, none⟩), .pointer (some ⟨bv, 0, none⟩)]), (12, .bool c1), (51, .slice ag (cfgN f).length cg), (52, .int .i64 (cfgN f).length), (53, .int .i64 i)]) (fun ⟨i, L1, c1⟩ => fun w' => i ≤ (cfgN f).length ∧ KeysOk mx L1 ∧ SoundK f (cfgN f) L1 ∧ RmS w' B gb ms L1 ∧ RcE D Dg f (cfgN f) w' b bg bs bv v1 v2 v3 (.slice ag (cfgN f).length cg) (.slice sa (preL f.body).length sc) ∧ Ext w w' ∧ ProgK Ls L1 c1 (∀ j, j < i → ClosedAt f (cfgN f) Ls j)) (fun ⟨i, L1, c1⟩ => (cfgN f).length - i) ((0, Ls, false)) (Sub.of rfl) (⟨Nat.zero_le _, hKo, hSo, hR, hC, hEy, Nat.le_refl _, fun _ => ⟨rfl, fun j h => absurd h (Nat.not_lt_zero _)⟩, fun h => by cases h⟩) ?_)))
    rintro ⟨i, L1, c1⟩ y1 ⟨hi1, hK1, hS1, hR1, hC1, hE1, hP1⟩
    show G _ _ _ _ _ [(2, .pointer (some ⟨b, 0, none⟩)), (3, .pointer (some ⟨bg, 0, none⟩)), (7, .pointer (some ⟨bs, 0, none⟩)), (8, .pointer (some ⟨B, 0, none⟩)), (10, .pointer (some ⟨bv, 0, none⟩)), (11, .func (.func 82) #[] #[.pointer (some ⟨bg, 0, none⟩), .pointer (some ⟨b, 0, none⟩), .pointer (some ⟨bs, 0, none⟩), .pointer (some ⟨B, 0, none⟩), .pointer (some ⟨bv, 0, none⟩)]), (12, .bool c1), (51, .slice ag (cfgN f).length cg), (52, .int .i64 (cfgN f).length), (53, .int .i64 i)] _
    refine Gs 6 rfl (G.ite rfl (fun i2 => ?_) (fun i2 => ?_))
    ·
     obtain ⟨x, hx⟩ : ∃ x, (cfgN f)[i]? = some x := ⟨_, List.getElem?_eq_getElem (by omega)⟩
     obtain ⟨xb, xo, xc, hxa, _, hxc, rfl⟩ := hC1.gs.at hx
     have hx1 : ∀ u ∈ [Value.int .i64 x.kind, .int .i64 x.at_, .int .i64 x.next, .int .i64 x.other], u.oneCell' = true := by simp [Value.oneCell']
     have hedge := V.edge hx
     obtain ⟨m0, l0, hm0, hl0, hM0⟩ := hR1.at (i := i) (by omega)
     have hl0K := hK1 l0 (List.mem_of_getElem? hl0)
     have hl0n := nodup_bound hl0K.1 (fun p hp => (hl0K.2 p hp).2)
     have hml1 := hR1.len
     refine Gs 7 rfl (G.ops1 rfl rfl (R.indexS Tryz.runUnderlying29 Tryz.sizeOf40 rfl rfl hxa (by omega)) (G.ldK rfl Tryz.isAgg40 Tryz.sizeOf40 hxc rfl (G.mem rfl rfl (M.alloc (cs := _) Tryz.zeroValue40 rfl) ?_)))
     rintro _ wa5 ⟨c, rfl, hg_c, hs_c, hB_c, hk_c⟩
     refine Gs 1 rfl (G.mem0 rfl (M.storeK Tryz.sizeOf40 rfl rfl rfl rfl hx1 hB_c (by simp)) ?_)
     rintro w_c ⟨_, hB_c, hkk_c⟩
     replace hk_c := hk_c.trans hkk_c (fun q hq h => by have h : q = c := h; omega)
     obtain ⟨hE1, hR1, hC1⟩ := Tr3 hk_c hE1 hR1 hC1
     refine Gs 6 rfl ?_
     have hEc := Keep.refl (fun _ => False) w_c
     have hszc : ∀ m ∈ ms, m < w_c.heap.size := fun m hm => by obtain ⟨l, h⟩ := hR1.isMap hm; exact h.lt
     refine G.callV rfl Tryz.call82 (after_ok f (cfgN f) D Dg _ b bg bs bv B gb v1 v2 v3 _ _ ms L1 i x l0 hC1 hR1 hx hl0 (fun p hp => by have := (hl0K.2 p hp).2; omega) (by omega) (by omega) (by omega) hedge.2) ?_
     rintro _ wz6 ⟨⟨l, hlo, hlf, hlm, hll⟩, hz6⟩
     obtain ⟨hE1, hR1, hC1, hB_c, hEc⟩ := Tr5 hz6 hE1 hR1 hC1 hB_c hEc
     obtain ⟨la, lc, rfl, _⟩ := own_slice hlo
     have hlsl0 : SlR 1 RInt (fun q => w_c.heap.size ≤ q) _ (.slice la l.length lc) l := SlR.ofRow1 encI1 (fun x _ => rfl) hlo hlf
     have hlmx := hlsl0.max
     refine Gs 6 rfl (G.ld rfl Tryz.isAgg3 (hB_c.cells 2 _ rfl) (Gs 1 rfl (G.ld rfl Tryz.isAgg3 (hB_c.cells 3 _ rfl) ?_)))
     have hsEc := hEc.size
     refine G.mem rfl rfl (M.buildSlice (cs := [.int .i64 x.next, .int .i64 x.other]) [(0, _), (1, _)] Tryz.runUnderlying50 Tryz.sizeOf3 Tryz.zeroValue3 (by decide) rfl (by kernel_rfl)) ?_
     rintro _ w_g2 ⟨g2, rfl, hg_g2, hs_g2, hB_g2, hk_g2⟩
     have hn_c_g2 : c ≠ g2 := by have := hB_c.lt; omega
     obtain ⟨hE1, hR1, hC1, hB_c, hEc, hlsl0⟩ := Tr6 hk_g2 hE1 hR1 hC1 hB_c hEc hlsl0
     have htsl0 : SlR 1 RInt (fun q => w_c.heap.size ≤ q) w_g2 (.slice (some ⟨g2, 0, none⟩) 2 2) [x.next, x.other] := SlR.ofRow1 encI1 (fun x _ => rfl) (own_blk (k := 1) (n := 2) (cap := 2) hB_g2 (Nat.le_refl _) (by decide) rfl) (fun q hq => by obtain rfl : g2 = q := Option.some.inj hq; omega)
     have hfact : ∀ to, (to = x.next ∨ to = x.other) → 0 ≤ to → ∀ d ∈ l, Rch f (cfgN f) to d := fun to ht h0 d hd => Rch.step hx ht h0 (((hlm d).1 hd).imp id (fun h => ⟨hS1 i l0 hl0 d h.1, h.2⟩))
     have hrange : ∀ d ∈ l, 0 ≤ d ∧ d < mx := fun d hd => by
      rcases (hlm d).1 hd with (h | h) | h
      · omega
      ·
       have h2 : x.kind = 2 := by have := h.2.1; unfold asgB at this; simp at this; exact this.1
       have := hedge.2 h2
       have := h.2.2
       omega
      ·
       obtain ⟨p, hp, e⟩ := List.mem_map.1 h.1
       rw [← e]; exact (hl0K.2 p hp).2
     have hclo : L1 = Ls → (∀ to ∈ [x.next, x.other], 0 ≤ to → ∀ d ∈ l, HasK Ls to d) → ClosedAt f (cfgN f) Ls i := fun e h y hy to ht h0 d hd => by
      rw [hx] at hy; cases hy
      refine h to (by simp; exact ht) h0 d ((hlm d).2 (hd.imp id (fun h => ⟨?_, h.2⟩)))
      obtain ⟨q, hq, hdq⟩ := h.1
      rw [Int.toNat_natCast, ← e, hl0] at hq
      cases hq; exact hdq
     refine Gs 5 rfl (G.loop (σ := Nat × Sets × Bool) (fun ⟨j, L2, c2⟩ => [(2, .pointer (some ⟨b, 0, none⟩)), (3, .pointer (some ⟨bg, 0, none⟩)), (7, .pointer (some ⟨bs, 0, none⟩)), (8, .pointer (some ⟨B, 0, none⟩)), (10, .pointer (some ⟨bv, 0, none⟩)), (11, .func (.func 82) #[] #[.pointer (some ⟨bg, 0, none⟩), .pointer (some ⟨b, 0, none⟩), .pointer (some ⟨bs, 0, none⟩), .pointer (some ⟨B, 0, none⟩), .pointer (some ⟨bv, 0, none⟩)]), (12, .bool c2), (15, .slice la l.length lc), (51, .slice ag (cfgN f).length cg), (52, .int .i64 (cfgN f).length), (53, .int .i64 i), (65, .slice (some ⟨g2, 0, none⟩) 2 2), (66, .int .i64 2), (67, .int .i64 j)]) (fun ⟨j, L2, c2⟩ => fun w' => j ≤ 2 ∧ KeysOk mx L2 ∧ SoundK f (cfgN f) L2 ∧ RmS w' B gb ms L2 ∧ RcE D Dg f (cfgN f) w' b bg bs bv v1 v2 v3 (.slice ag (cfgN f).length cg) (.slice sa (preL f.body).length sc) ∧ Ext w w' ∧ SlR 1 RInt (fun q => w_c.heap.size ≤ q) w' (.slice la l.length lc) l ∧ SlR 1 RInt (fun q => w_c.heap.size ≤ q) w' (.slice (some ⟨g2, 0, none⟩) 2 2) [x.next, x.other] ∧ ProgK Ls L2 c2 (L1 = Ls ∧ (∀ k, k < i → ClosedAt f (cfgN f) Ls k) ∧ ∀ to ∈ [x.next, x.other].take j, 0 ≤ to → ∀ d ∈ l, HasK Ls to d)) (fun ⟨j, L2, c2⟩ => 2 - j) ((0, L1, c1)) (Sub.of rfl) (⟨by omega, hK1, hS1, hR1, hC1, hE1, hlsl0, htsl0, hP1.imp (fun e _ h => ⟨e, h, by simp⟩)⟩) ?_)
     rintro ⟨j, L2, c2⟩ y2 ⟨hj, hK2, hS2, hR2, hC2, hE2, hls2, hts2, hP2⟩
     show G _ _ _ _ _ [(2, .pointer (some ⟨b, 0, none⟩)), (3, .pointer (some ⟨bg, 0, none⟩)), (7, .pointer (some ⟨bs, 0, none⟩)), (8, .pointer (some ⟨B, 0, none⟩)), (10, .pointer (some ⟨bv, 0, none⟩)), (11, .func (.func 82) #[] #[.pointer (some ⟨bg, 0, none⟩), .pointer (some ⟨b, 0, none⟩), .pointer (some ⟨bs, 0, none⟩), .pointer (some ⟨B, 0, none⟩), .pointer (some ⟨bv, 0, none⟩)]), (12, .bool c2), (15, .slice la l.length lc), (51, .slice ag (cfgN f).length cg), (52, .int .i64 (cfgN f).length), (53, .int .i64 i), (65, .slice (some ⟨g2, 0, none⟩) 2 2), (66, .int .i64 2), (67, .int .i64 j)] _
     refine Gs 6 rfl (G.ite rfl (fun j2 => ?_) (fun j2 => ?_))
     ·
      obtain ⟨to, hto⟩ : ∃ to, [x.next, x.other][j]? = some to := ⟨_, List.getElem?_eq_getElem (by simp; omega)⟩
      have htm : to = x.next ∨ to = x.other := by have := List.mem_of_getElem? hto; simpa using this
      have htr := hedge.1 to htm
      obtain ⟨tb, tof, tc, hta, _, htc, htr'⟩ := hts2.at hto
      obtain rfl := htr'
      refine Gs 6 rfl (G.ops1 rfl rfl (R.indexS Tryz.runUnderlying50 Tryz.sizeOf3 rfl rfl hta (by omega)) (G.ld rfl Tryz.isAgg3 (htc 0 _ rfl) (Gs 11 rfl (G.loop (σ := Nat × Sets × Bool) (fun ⟨k, L3, c3⟩ => [(2, .pointer (some ⟨b, 0, none⟩)), (3, .pointer (some ⟨bg, 0, none⟩)), (7, .pointer (some ⟨bs, 0, none⟩)), (8, .pointer (some ⟨B, 0, none⟩)), (10, .pointer (some ⟨bv, 0, none⟩)), (11, .func (.func 82) #[] #[.pointer (some ⟨bg, 0, none⟩), .pointer (some ⟨b, 0, none⟩), .pointer (some ⟨bs, 0, none⟩), .pointer (some ⟨B, 0, none⟩), .pointer (some ⟨bv, 0, none⟩)]), (12, .bool c3), (15, .slice la l.length lc), (51, .slice ag (cfgN f).length cg), (52, .int .i64 (cfgN f).length), (53, .int .i64 i), (65, .slice (some ⟨g2, 0, none⟩) 2 2), (66, .int .i64 2), (67, .int .i64 j), (17, .int .i64 to), (71, .slice la l.length lc), (72, .int .i64 l.length), (73, .int .i64 k)]) (fun ⟨k, L3, c3⟩ => fun w' => k ≤ l.length ∧ KeysOk mx L3 ∧ SoundK f (cfgN f) L3 ∧ RmS w' B gb ms L3 ∧ RcE D Dg f (cfgN f) w' b bg bs bv v1 v2 v3 (.slice ag (cfgN f).length cg) (.slice sa (preL f.body).length sc) ∧ Ext w w' ∧ SlR 1 RInt (fun q => w_c.heap.size ≤ q) w' (.slice la l.length lc) l ∧ SlR 1 RInt (fun q => w_c.heap.size ≤ q) w' (.slice (some ⟨g2, 0, none⟩) 2 2) [x.next, x.other] ∧ ProgK Ls L3 c3 ((L1 = Ls ∧ (∀ k, k < i → ClosedAt f (cfgN f) Ls k) ∧ ∀ to ∈ [x.next, x.other].take j, 0 ≤ to → ∀ d ∈ l, HasK Ls to d) ∧ ∀ d ∈ l.take k, 0 ≤ to → HasK Ls to d)) (fun ⟨k, L3, c3⟩ => l.length - k) ((0, L2, c2)) (Sub.of rfl) (⟨Nat.zero_le _, hK2, hS2, hR2, hC2, hE2, hls2, hts2, hP2.imp (fun e _ h => ⟨h, by simp⟩)⟩) ?_))))
      rintro ⟨k, L3, c3⟩ y3 ⟨hk, hK3, hS3, hR3, hC3, hE3, hls3, hts3, hP3⟩
      show G _ _ _ _ _ [(2, .pointer (some ⟨b, 0, none⟩)), (3, .pointer (some ⟨bg, 0, none⟩)), (7, .pointer (some ⟨bs, 0, none⟩)), (8, .pointer (some ⟨B, 0, none⟩)), (10, .pointer (some ⟨bv, 0, none⟩)), (11, .func (.func 82) #[] #[.pointer (some ⟨bg, 0, none⟩), .pointer (some ⟨b, 0, none⟩), .pointer (some ⟨bs, 0, none⟩), .pointer (some ⟨B, 0, none⟩), .pointer (some ⟨bv, 0, none⟩)]), (12, .bool c3), (15, .slice la l.length lc), (51, .slice ag (cfgN f).length cg), (52, .int .i64 (cfgN f).length), (53, .int .i64 i), (65, .slice (some ⟨g2, 0, none⟩) 2 2), (66, .int .i64 2), (67, .int .i64 j), (17, .int .i64 to), (71, .slice la l.length lc), (72, .int .i64 l.length), (73, .int .i64 k)] _
      refine Gs 6 rfl (G.ite rfl (fun k2 => ?_) (fun k2 => ?_))
      ·
       obtain ⟨d, hd⟩ : ∃ d, l[k]? = some d := ⟨_, List.getElem?_eq_getElem (by omega)⟩
       have hdm := List.mem_of_getElem? hd
       have hdr := hrange d hdm
       obtain ⟨db, dof, dc, hda, _, hdc, hdr'⟩ := hls3.at hd
       obtain rfl := hdr'
       have htake : ∀ {X : Prop}, (∀ e ∈ l.take k, X → HasK Ls to e) → (X → HasK Ls to d) → ∀ e ∈ l.take (k + 1), X → HasK Ls to e := fun h1 h2 e he hX => by
        rw [take_get hd, List.mem_append, List.mem_singleton] at he
        rcases he with he | he
        · exact h1 e he hX
        · rw [he]; exact h2 hX
       refine Gs 6 rfl (G.ops1 rfl rfl (R.indexS Tryz.runUnderlying50 Tryz.sizeOf3 rfl rfl hda (by omega)) (G.ld rfl Tryz.isAgg3 (hdc 0 _ rfl) (Gs 8 rfl (G.sp 79 rfl (fun p1 => ?_) (fun p1 => ?_)))))
       ·
        have hR3l := hR3.len
        obtain ⟨mt, lt, hmt, hlt, hMt⟩ := hR3.at (i := to.toNat) (by omega)
        have hgetm := getM_true hK3 (List.mem_of_getElem? hlt) d
        refine G.ld rfl Tryz.isAgg134 (hR3.box.cells 0 _ rfl) (Ga 2 rfl (by omega) (G.ld rfl Tryz.isAgg135 (hR3.cell (k := to) hmt) (Gs 1 rfl (G.ops1 rfl rfl (R.lookupI hMt Tryz.underlying135 Tryz.underlying3 Tryz.zeroValue4 rfl rfl) ?_))))
        rw [hgetm]
        refine G.ops1 rfl rfl (R.notU rfl (by first | exact not_decide_eq | rfl)) (Gs 3 rfl (G.bool rfl (fun q1 => ?_) (fun q1 => ?_)))
        ·
         have hnd : d ∉ lt.map (·.1) := by simpa using q1
         have hadd := addK (f := f) (g := cfgN f) hlt hnd hK3 hS3 hdr (by rw [show ((to.toNat : Nat) : Int) = to by omega]; exact hfact to htm p1 d hdm)
         refine Gs 2 rfl (G.ld rfl Tryz.isAgg134 (hR3.box.cells 0 _ rfl) (Ga 2 rfl (by omega) (G.ld rfl Tryz.isAgg135 (hR3.cell (k := to) hmt) (Gs 1 rfl (G.mem0 rfl (M.update hMt Tryz.underlying135 Tryz.underlying3 rfl rfl rfl) ?_)))))
         rintro z1 ⟨hMt2, zk1, zs1⟩
         have hmtm := List.mem_of_getElem? hmt
         have hmtw := hmw mt hmtm
         have hmtc := hszc mt hmtm
         refine Ga 11 rfl (by omega) (G.back ((k + 1, L3.set to.toNat (setM lt d (.bool true)), true)) (Sub.cons rfl (Sub.cons rfl (Sub.cons rfl (Sub.cons rfl (Sub.cons rfl (Sub.cons rfl (Sub.cons (by first | rfl | (show some (Value.bool true) = some (Value.bool _); simp [*])) (Sub.of rfl)))))))) (⟨by omega, hadd.1, hadd.2.1, hR3.upd hmt hlt hMt2 zk1, hC3.keep zk1 (fun q hq (h : q = mt) => by have := hDw q hq; omega) (fun q hq (h : q = mt) => by have := hGw q hq; omega) (fun q (h : q = mt) => ⟨lt, by rw [h]; exact hMt⟩), Keep.trans hE3 zk1 (fun q hq (h : q = mt) => by omega), hls3.keep stable_int zk1 (fun q hq _ (h : q = mt) => by omega), hts3.keep stable_int zk1 (fun q hq _ (h : q = mt) => by omega), hP3.grow hadd.2.2⟩) (by first | omega | (dsimp only; omega)))
        ·
         have hin : d ∈ lt.map (·.1) := by simpa using q1
         refine Ga 7 rfl (by omega) (G.back ((k + 1, L3, c3)) (Sub.of rfl) (⟨by omega, hK3, hS3, hR3, hC3, hE3, hls3, hts3, hP3.imp (fun e _ h => ⟨h.1, htake h.2 (fun _ => ⟨lt, by rw [← e]; exact hlt, hin⟩)⟩)⟩) (by first | omega | (dsimp only; omega)))
       · refine Ga 18 rfl (by omega) (G.back ((k + 1, L3, c3)) (Sub.of rfl) (⟨by omega, hK3, hS3, hR3, hC3, hE3, hls3, hts3, hP3.imp (fun e _ h => ⟨h.1, htake h.2 (fun h0 => absurd h0 (by omega))⟩)⟩) (by first | omega | (dsimp only; omega)))
      ·
       obtain rfl : k = l.length := by omega
       refine Ga 10 rfl (by omega) (G.back ((j + 1, L3, c3)) (Sub.of rfl) (⟨by omega, hK3, hS3, hR3, hC3, hE3, hls3, hts3, hP3.imp (fun e _ h => ⟨h.1.1, h.1.2.1, fun t ht h0 e he => ?_⟩)⟩) (by first | omega | (dsimp only; omega)))
       rw [take_get hto, List.mem_append, List.mem_singleton] at ht
       rcases ht with ht | ht
       · exact h.1.2.2 t ht h0 e he
       ·
        rw [ht] at h0 ⊢
        exact h.2 e (by rw [List.take_length]; exact he) h0
     ·
      obtain rfl : j = 2 := by omega
      refine Ga 10 rfl (by omega) (G.back ((i + 1, L2, c2)) (Sub.of rfl) (⟨by omega, hK2, hS2, hR2, hC2, hE2, hP2.imp (fun e _ h => fun k hk => ?_)⟩) (by first | omega | (dsimp only; omega)))
      rcases Nat.lt_or_ge k i with h3 | h3
      · exact h.2.1 k h3
      ·
       obtain rfl : k = i := by omega
       exact hclo h.1 h.2.2
    ·
     obtain rfl : i = (cfgN f).length := by omega
     have hml1 := hR1.len
     have htot1 := totL_le hK1
     rw [hml1, hml] at htot1
     refine Gs 5 rfl ?_
     have hmu : 2 * ((cfgN f).length * mx - totL L1) + (if c1 then 1 else 0) < 2 * ((cfgN f).length * mx - totL Ls) + (if ch then 1 else 0) := by
      have h1 := hP1.1
      rw [c0]
      cases hc : c1 with
      | false => have := (hP1.2.1 hc).1; rw [this]; simp
      | true => have := hP1.2.2 hc; simp; omega
     refine G.back ((L1, c1)) (Sub.of rfl) (⟨hK1, hS1, hR1, hC1, hE1, fun h => ?_⟩) (hmu)
     obtain ⟨e, h2⟩ := hP1.2.1 h
     rw [e]; exact h2
   ·
    have hall := hcl c0
    have hmsw : ∀ m ∈ ms, m < y0.heap.size := fun m hm => by obtain ⟨l, h⟩ := hR.isMap hm; exact h.lt
    have hRk : ∀ {w' : World}, Keep (fun q => y0.heap.size ≤ q) y0 w' → RmS w' B gb ms Ls := fun hk => hR.keep hk (fun h => by have := hR.box.lt; omega) (fun h => by have := hR.row.lt; omega) (fun m hm h => by have := hmsw m hm; omega)
    have hy0w := hEy.size
    refine Gs 7 rfl (G.ld rfl Tryz.isAgg134 (hR.box.cells 0 _ rfl) (Gs 1 rfl (G.mem rfl rfl (M.make Tryz.underlying70 Tryz.el50 rfl rfl (by omega) (by omega) (made1 _ ms.length rfl)) ?_)))
    rintro _ z1 ⟨bo, rfl, hbo, hs1', hBo, zk1⟩
    have hMt1 : Mat (Value.int .i64) 3 50 y0.heap.size z1 bo (List.replicate ms.length (.slice none 0 0)) (List.replicate ms.length ([] : List Int)) := Mat.start hBo
    have hKz1 : Keep (fun q => y0.heap.size ≤ q) y0 z1 := Keep.mono zk1 (fun _ _ h => h.elim)
    refine Gs 6 rfl (G.ld rfl Tryz.isAgg134 ((hRk hKz1).box.cells 0 _ rfl) (Gs 5 rfl (G.loop (σ := Nat × List Value × List (List Int)) (fun ⟨i, rv, rows⟩ => [(20, .slice (some ⟨bo, 0, none⟩) ms.length ms.length), (99, .slice (some ⟨gb, 0, none⟩) ms.length ms.length), (100, .int .i64 ms.length), (101, .int .i64 i)]) (fun ⟨i, rv, rows⟩ => fun w' => i ≤ ms.length ∧ rows.length = ms.length ∧ Mat (Value.int .i64) 3 50 y0.heap.size w' bo rv rows ∧ Keep (fun q => y0.heap.size ≤ q) y0 w' ∧ (∀ (j : Nat) r, rows[j]? = some r → (j < i → r.Pairwise (· < ·) ∧ ∀ d, d ∈ r ↔ Rch f (cfgN f) j d) ∧ (i ≤ j → r = []))) (fun ⟨i, rv, rows⟩ => ms.length - i) ((0, List.replicate ms.length (.slice none 0 0), List.replicate ms.length [])) (Sub.of rfl) (⟨Nat.zero_le _, List.length_replicate, hMt1, hKz1, fun j r hr => ⟨fun h => absurd h (Nat.not_lt_zero _), fun _ => List.eq_of_mem_replicate (List.mem_of_getElem? hr)⟩⟩) ?_)))
    rintro ⟨i, rv, rows⟩ z2 ⟨hi2, hrl, hMt, hKz, hrows⟩
    show G _ _ _ _ _ [(20, .slice (some ⟨bo, 0, none⟩) ms.length ms.length), (99, .slice (some ⟨gb, 0, none⟩) ms.length ms.length), (100, .int .i64 ms.length), (101, .int .i64 i)] _
    have hRz := hRk hKz
    refine Gs 6 rfl (G.ite rfl (fun i3 => ?_) (fun i3 => ?_))
    ·
     obtain ⟨m, l, hm, hl, hM⟩ := hRz.at (i := i) (by omega)
     have hlK := hKo l (List.mem_of_getElem? hl)
     have hln := nodup_bound hlK.1 (fun p hp => (hlK.2 p hp).2)
     obtain ⟨r0, hr0⟩ : ∃ r0, rows[i]? = some r0 := ⟨_, List.getElem?_eq_getElem (by omega)⟩
     obtain rfl := (hrows i r0 hr0).2 (Nat.le_refl _)
     refine Ga 8 rfl (by omega) (G.ld rfl Tryz.isAgg135 (hRz.cell (k := (i : Int)) hm) (Gs 8 rfl (G.mem rfl rfl (M.range hM Tryz.underlying135 rfl) ?_)))
     rintro _ z3 ⟨it, rfl, hit, hRan, zk3, zs3⟩
     have hitw : y0.heap.size ≤ it := by have := hKz.size; omega
     have hKz3 := hKz.ext zk3
     refine Gs 3 rfl (G.loop (σ := List Int × Option (Int × Value) × List Value) (fun ⟨seen, cur, rv1⟩ => [(20, .slice (some ⟨bo, 0, none⟩) ms.length ms.length), (21, .int .i64 i), (99, .slice (some ⟨gb, 0, none⟩) ms.length ms.length), (100, .int .i64 ms.length), (101, .int .i64 i), (107, .pointer (some ⟨it, 0, none⟩))]) (fun ⟨seen, cur, rv1⟩ => fun w' => RanI w' it m l seen cur ∧ Mat (Value.int .i64) 3 50 y0.heap.size w' bo rv1 (rows.set i seen) ∧ Keep (fun q => y0.heap.size ≤ q) y0 w') (fun ⟨seen, cur, rv1⟩ => l.length - seen.length) (([], none, rv)) (Sub.of rfl) (⟨hRan, by rw [set_self_at hr0]; exact hMt.ext zk3, hKz3⟩) ?_)
     rintro ⟨seen, cur, rv1⟩ z4 ⟨hRn, hMt4, hKz4⟩
     show G _ _ _ _ _ [(20, .slice (some ⟨bo, 0, none⟩) ms.length ms.length), (21, .int .i64 i), (99, .slice (some ⟨gb, 0, none⟩) ms.length ms.length), (100, .int .i64 ms.length), (101, .int .i64 i), (107, .pointer (some ⟨it, 0, none⟩))] _
     have hsl0 := hRn.len
     have hset : (rows.set i seen)[i]? = some seen := List.getElem?_set_self (by omega)
     obtain ⟨v, r', hv, hr'⟩ := hMt4.at (i := i) (by rw [List.length_set]; omega)
     have hMne : ∀ (j : Nat) u q, rv1[j]? = some u → u.ownBlock = some q → q ≠ it := fun j u q hu hq h => by
      obtain ⟨r, hr⟩ : ∃ r, (rows.set i seen)[j]? = some r := ⟨_, List.getElem?_eq_getElem (by rw [← hMt4.len]; exact (List.getElem?_eq_some_iff.1 hu).1)⟩
      obtain ⟨cs', hb'⟩ := own_blkty (hMt4.row j u r hu hr) hq
      exact hRn.neB hb' h
     have hown := hMt4.row i v seen hv hset
     obtain ⟨va, vc, rfl, _⟩ := own_slice hown
     refine Gs 2 rfl (G.mem rfl rfl (M.next hRn rfl) ?_)
     rintro u z5 (⟨rfl, rfl, hallk⟩ | ⟨k, v5, rfl, hgk, hns, hR5, zk5, zs5⟩)
     ·
      refine Gs 4 rfl (G.ff rfl (rfl) (Ga 9 rfl (by omega) (G.ld rfl Tryz.isAgg50 (by have := hMt4.out.cells i _ hv; rw [Int.toNat_natCast, Nat.mul_one]; exact this) (G.call rfl Tryz.call83 (sortI_ok seen _ _ _ hown (by omega)) ?_))))
      rintro _ z6 ⟨rfl, ho6, zk6⟩
      have hMt6 := hMt4.inplace (r' := sortL seen) hv (by rw [sortL_len]; exact ho6) zk6
      rw [List.set_set] at hMt6
      have hfar : ∀ q, Value.ownBlock (.slice va seen.length vc) = some q → y0.heap.size ≤ q := fun q hq => (hMt4.far i _ q hv hq).1
      refine Ga 7 rfl (by omega) (G.back ((i + 1, rv1, rows.set i (sortL seen))) (Sub.of rfl) (⟨by omega, by rw [List.length_set]; exact hrl, hMt6, hKz4.trans zk6 (fun q _ hq => hfar q hq), fun j r hr => ?_⟩) (by first | omega | (dsimp only; omega)))
      by_cases hij : i = j
      ·
       subst hij
       rw [List.getElem?_set_self (by omega)] at hr
       cases hr
       refine ⟨fun _ => ⟨strict_of (sortL_sorted seen) ?_, fun d => ?_⟩, fun h => absurd h (by omega)⟩
       ·
        obtain ⟨es, c, since, sb, c0', h1, h2, h3, h4, h5, h6, h7, h8, h9, h10, _⟩ := hRn
        exact (List.mergeSort_perm seen _).nodup_iff.2 h10
       ·
        rw [sortL_mem]
        constructor
        ·
         intro h
         exact hSo i l hl d (ran_seen hRn h)
        ·
         intro h
         obtain ⟨q, hq, hdq⟩ := closed_all hall h
         rw [Int.toNat_natCast, hl] at hq
         cases hq
         obtain ⟨p, hp, e⟩ := List.mem_map.1 hdq
         rw [← e]; exact hallk p hp
      ·
       rw [List.getElem?_set_ne hij] at hr
       have := hrows j r hr
       exact ⟨fun h => this.1 (by omega), fun h => this.2 (by omega)⟩
     ·
      refine Gs 4 rfl (G.tt rfl (rfl) (Gs 5 rfl (G.ops1 rfl rfl (R.entry hR5 rfl) ?_)))
      have hR5l := hR5.len
      rw [List.length_append, List.length_singleton] at hR5l
      have hMt5 := hMt4.keep zk5 (fun (h : bo = it) => hRn.neB hMt4.out h) (fun j u q hu hq h => hMne j u q hu hq h)
      have hown5 := hMt5.row i _ seen hv hset
      refine Ga 10 rfl (by omega) (G.ld rfl Tryz.isAgg50 (by have := hMt5.out.cells i _ hv; rw [Int.toNat_natCast, Nat.mul_one]; exact this) (Gs 1 rfl (G.mem rfl rfl (M.buildSlice (cs := [.int .i64 k]) [(0, _)] Tryz.runUnderlying50 Tryz.sizeOf3 Tryz.zeroValue3 (by decide) rfl (by kernel_rfl)) ?_)))
      rintro _ z6 ⟨g6, rfl, hg6, hs6, hB6, zk6⟩
      have hMt6 := hMt5.ext zk6
      have hown6 := hMt6.row i _ seen hv hset
      have hR6 := hR5.keep zk6 (fun h => h) (fun h => h)
      refine G.mem rfl rfl (M.append Tryz.underlying50 Tryz.el3 rfl (by decide) rfl rfl hown6 rfl (Cells.add hB6.cells) (by simp [Value.oneCell']) (by omega) (by omega)) ?_
      rintro vo' z7 ⟨ho7, hf7, zk7, _⟩
      obtain ⟨oa, oc, rfl, _⟩ := own_slice ho7
      refine Ga 1 rfl (by omega) ?_
      have hfar : ∀ q, Value.ownBlock (.slice va seen.length vc) = some q → y0.heap.size ≤ q ∧ q ≠ bo := fun q hq => hMt4.far i _ q hv hq
      have hmy := hmsw m (List.mem_of_getElem? hm)
      refine G.mem0 rfl (M.store Tryz.sizeOf50 rfl rfl rfl rfl (zk7.blk hMt6.out (fun h => (hfar bo h).2 rfl)) (by rw [hMt6.len, List.length_set]; omega)) ?_
      rintro z8 hW8
      rw [show 0 + ((i : Int)).toNat * 1 = i by omega] at hW8
      have hMt8 := hMt6.push (by have := hKz4.size; have := zk5.size; have := zk6.size; omega) hv hset ho7 hf7 zk7 hW8
      rw [List.set_set] at hMt8
      refine Gs 2 rfl (G.back ((seen ++ [k], some (k, v5), rv1.set i (.slice oa (seen.length + 1) oc))) (Sub.of rfl) (⟨(hR6.keep zk7 (fun h => by have := (hfar _ h).1; omega) (fun h => hMne i _ _ hv h rfl)).keep hW8.2.2 (fun (h : m = bo) => by omega) (fun (h : it = bo) => hRn.neB hMt4.out h.symm), hMt8, (((hKz4.trans zk5 (fun q _ (h : q = it) => by omega)).ext zk6).trans zk7 (fun q _ hq => (hfar q hq).1)).trans hW8.2.2 (fun q _ (h : q = bo) => by omega)⟩) (by dsimp only; rw [List.length_append, List.length_singleton]; omega))
    ·
     obtain rfl : i = ms.length := by omega
     refine Gs 13 rfl (G.ret2 Tryz.results34 rfl rfl ⟨_, rfl, ⟨_, by rw [e0'], fun h => absurd e0' h, fun _ => ⟨rows, ⟨by rw [hrl, hml], fun j r hr => (hrows j r hr).1 (by rw [← hrl]; exact (List.getElem?_eq_some_iff.1 hr).1)⟩, hMt.sl (fun x => rfl) (by omega) (fun j u q hu hq => by have := (hMt.far j u q hu hq).1; omega) hrl.symm (by omega) (by omega)⟩⟩, Keep.trans hEy hKz (fun q hq h => by omega)⟩)
def exX : Tm := .mk 24 0 []
def exY : Tm := .mk 24 1 []
def exO : Tm := .mk 0 1 []
def exS1 : St := .mk 0 0 1 0 exO [] [] []
def exS2 : St := .mk 1 0 0 0 exY [] [] []
def exS3 : St := .mk 3 0 0 0 exX [exS1] [] []
def exS4 : St := .mk 4 0 0 2 exY [exS2] [] []
def exF20 : Fl := ⟨[⟨⟨#[120]⟩, 1, 0, 1, 0⟩, ⟨⟨#[121]⟩, 0, 0, 1, 0⟩], [], [exS3, exS4]⟩
theorem exOne (D : Nat → Prop) (w : World) (s : St) (b : Nat) (cs : List Value) (hB : Blk w b cs 86) (hD : D b) (hl : cs.length = 10) (h : RSt D w s cs) : SlR 10 RSt D w (.slice (some ⟨b, 0, none⟩) 1 1) [s] :=
 SlR.ofBlk hB hD rfl (Nat.le_refl _) (by decide) (fun i x hx => by
  cases i with
  | zero => simp at hx; subst hx; exact ⟨cs, hl, fun j u hu => by simpa using hu, h⟩
  | succ i => simp at hx)
theorem example20_ok (w : World) : Calls Tryz.prog 56 #[] w (Ret fun r w' => (∃ v1 v2 v3, r = .agg #[v1, v2, v3] ∧ RFl (fun b => w.heap.size ≤ b) w' exF20 v1 v2 v3) ∧ Ext w w') := by
 have hE := Keep.refl (fun _ => False) w
 refine G.in0 Tryz.func56 rfl Tryz.ntmps56 (Gs 2 rfl (G.mem rfl rfl (M.alloc (cs := [.slice none 0 0, .slice none 0 0, .slice none 0 0]) Tryz.zeroValue26 rfl) ?_))
 rintro _ w_r ⟨r, rfl, hg_r, hs_r, hB_r, hk_r⟩
 have hge_r : _ ≤ r := Nat.le_trans hE.size (Nat.le_of_eq hg_r.symm)
 replace hE := Tr1 hk_r hE
 refine Gs 4 rfl (G.ops1 rfl rfl (R.build (v := .agg #[.int .i64 24, .int .i64 0, .slice none 0 0]) [(0, _)] rfl (fun _ => by kernel_rfl)) (G.ops1 rfl rfl (R.build (v := .agg #[.int .i64 24, .int .i64 1, .slice none 0 0]) [(0, _), (1, _)] rfl (fun _ => by kernel_rfl)) (G.ops1 rfl rfl (R.build (v := .agg #[.int .i64 0, .int .i64 1, .slice none 0 0]) [(1, _)] rfl (fun _ => by kernel_rfl)) (G.mem rfl rfl (M.alloc (cs := [.int .i64 0, .int .i64 0, .slice none 0 0]) Tryz.zeroValue84 rfl) ?_))))
 rintro _ w_x ⟨x, rfl, hg_x, hs_x, hB_x, hk_x⟩
 have hn_r_x : r ≠ x := by have := hB_r.lt; omega
 have hge_x : _ ≤ x := Nat.le_trans hE.size (Nat.le_of_eq hg_x.symm)
 obtain ⟨hE, hB_r⟩ := Tr2 hk_x hE hB_r
 refine G.mem rfl rfl (M.alloc (cs := [.int .i64 0, .int .i64 0, .slice none 0 0]) Tryz.zeroValue84 rfl) ?_
 rintro _ w_y ⟨y, rfl, hg_y, hs_y, hB_y, hk_y⟩
 have hn_r_y : r ≠ y := by have := hB_r.lt; omega
 have hn_x_y : x ≠ y := by have := hB_x.lt; omega
 have hge_y : _ ≤ y := Nat.le_trans hE.size (Nat.le_of_eq hg_y.symm)
 obtain ⟨hE, hB_r, hB_x⟩ := Tr3 hk_y hE hB_r hB_x
 refine G.mem rfl rfl (M.alloc (cs := [.int .i64 0, .int .i64 0, .slice none 0 0]) Tryz.zeroValue84 rfl) ?_
 rintro _ w_o ⟨o, rfl, hg_o, hs_o, hB_o, hk_o⟩
 have hn_r_o : r ≠ o := by have := hB_r.lt; omega
 have hn_x_o : x ≠ o := by have := hB_x.lt; omega
 have hn_y_o : y ≠ o := by have := hB_y.lt; omega
 have hge_o : _ ≤ o := Nat.le_trans hE.size (Nat.le_of_eq hg_o.symm)
 obtain ⟨hE, hB_r, hB_x, hB_y⟩ := Tr4 hk_o hE hB_r hB_x hB_y
 have hxl := hB_x.lt
 have hyl := hB_y.lt
 have hrl := hB_r.lt
 have hn1 : x ≠ y := by omega
 have hn2 : x ≠ o := by omega
 have hn3 : y ≠ o := by omega
 refine G.mem0 rfl (M.storeK Tryz.sizeOf84 rfl rfl rfl rfl (by simp [Value.oneCell']) hB_x (by simp)) ?_
 rintro w1 ⟨hs1, hB1, hk1⟩
 refine G.mem0 rfl (M.storeK Tryz.sizeOf84 rfl rfl rfl rfl (by simp [Value.oneCell']) (hk1.blk hB_y (fun h => hn1 h.symm)) (by simp)) ?_
 rintro w2 ⟨hs2, hB2, hk2⟩
 refine G.mem0 rfl (M.storeK Tryz.sizeOf84 rfl rfl rfl rfl (by simp [Value.oneCell']) (hk2.blk (hk1.blk hB_o (fun h => hn2 h.symm)) (fun h => hn3 h.symm)) (by simp)) ?_
 rintro w3 ⟨hs3, hB3, hk3⟩
 have hX : Blk w3 x [.int .i64 24, .int .i64 0, .slice none 0 0] 84 := hk3.blk (hk2.blk hB1 hn1) hn2
 have hY : Blk w3 y [.int .i64 24, .int .i64 1, .slice none 0 0] 84 := hk3.blk hB2 hn3
 have hO : Blk w3 o [.int .i64 0, .int .i64 1, .slice none 0 0] 84 := hB3
 have hRr := hk3.blk (hk2.blk (hk1.blk hB_r (fun h => by have h : r = x := h; omega)) (fun h => by have h : r = y := h; omega)) (fun h => by have h : r = o := h; omega)
 have hE3 : Ext w w3 := Keep.trans (Keep.trans (Keep.trans hE hk1 (fun q hq h => by have h : q = x := h; omega)) hk2 (fun q hq h => by have h : q = y := h; omega)) hk3 (fun q hq h => by have h : q = o := h; omega)
 have hs0 := hE.size
 refine Gs 4 rfl (G.ops1 rfl rfl (R.build (v := .agg #[.string ⟨#[120]⟩, .int .i64 1, .int .i64 0, .int .i64 1, .int .i64 0]) [(0, _), (1, _), (3, _)] rfl (fun _ => by kernel_rfl)) (G.ops1 rfl rfl (R.build (v := .agg #[.string ⟨#[121]⟩, .int .i64 0, .int .i64 0, .int .i64 1, .int .i64 0]) [(0, _), (3, _)] rfl (fun _ => by kernel_rfl)) (G.mem rfl rfl (M.buildSlice (cs := [.string ⟨#[120]⟩, .int .i64 1, .int .i64 0, .int .i64 1, .int .i64 0, .string ⟨#[121]⟩, .int .i64 0, .int .i64 0, .int .i64 1, .int .i64 0]) [(0, _), (1, _)] Tryz.runUnderlying22 Tryz.sizeOf125 Tryz.zeroValue125 (by decide) rfl (by kernel_rfl)) ?_)))
 have hsz_vs := hE3.size
 rintro _ w_vs ⟨vs, rfl, hg_vs, hs_vs, hB_vs, hk_vs⟩
 obtain ⟨hX, hY, hO, hRr, hE3⟩ := Tr5 hk_vs hX hY hO hRr hE3
 refine G.ldK rfl Tryz.isAgg84 Tryz.sizeOf84 hX.cells rfl (G.ldK rfl Tryz.isAgg84 Tryz.sizeOf84 hO.cells rfl (G.ops1 rfl rfl (R.build (v := .agg #[.int .i64 0, .int .i64 0, .int .i64 1, .int .i64 0, .int .i64 0, .int .i64 1, .slice none 0 0, .slice none 0 0, .slice none 0 0, .slice none 0 0]) [(0, _), (2, _), (4, _)] rfl (fun _ => by kernel_rfl)) (G.mem rfl rfl (M.buildSlice (cs := [.int .i64 0, .int .i64 0, .int .i64 1, .int .i64 0, .int .i64 0, .int .i64 1, .slice none 0 0, .slice none 0 0, .slice none 0 0, .slice none 0 0]) [(0, _)] Tryz.runUnderlying24 Tryz.sizeOf86 Tryz.zeroValue86 (by decide) rfl (by kernel_rfl)) ?_)))
 have hsz_g1 := hE3.size
 rintro _ w_g1 ⟨g1, rfl, hg_g1, hs_g1, hB_g1, hk_g1⟩
 obtain ⟨hX, hY, hO, hRr, hE3, hB_vs⟩ := Tr6 hk_g1 hX hY hO hRr hE3 hB_vs
 refine G.ops1 rfl rfl (R.build (v := .agg #[.int .i64 3, .int .i64 0, .int .i64 0, .int .i64 0, .int .i64 24, .int .i64 0, .slice none 0 0, .slice (some ⟨g1, 0, none⟩) 1 1, .slice none 0 0, .slice none 0 0]) [(0, _), (4, _), (5, _)] rfl (fun _ => by kernel_rfl)) (G.ldK rfl Tryz.isAgg84 Tryz.sizeOf84 hY.cells rfl (G.ldK rfl Tryz.isAgg84 Tryz.sizeOf84 hY.cells rfl (G.ops1 rfl rfl (R.build (v := .agg #[.int .i64 1, .int .i64 0, .int .i64 0, .int .i64 0, .int .i64 24, .int .i64 1, .slice none 0 0, .slice none 0 0, .slice none 0 0, .slice none 0 0]) [(0, _), (4, _)] rfl (fun _ => by kernel_rfl)) ?_)))
 refine G.mem rfl rfl (M.buildSlice (cs := [.int .i64 1, .int .i64 0, .int .i64 0, .int .i64 0, .int .i64 24, .int .i64 1, .slice none 0 0, .slice none 0 0, .slice none 0 0, .slice none 0 0]) [(0, _)] Tryz.runUnderlying24 Tryz.sizeOf86 Tryz.zeroValue86 (by decide) rfl (by kernel_rfl)) ?_
 have hsz_g2 := hE3.size
 rintro _ w_g2 ⟨g2, rfl, hg_g2, hs_g2, hB_g2, hk_g2⟩
 obtain ⟨hX, hY, hO, hRr, hE3, hB_vs, hB_g1⟩ := Tr7 hk_g2 hX hY hO hRr hE3 hB_vs hB_g1
 refine G.ops1 rfl rfl (R.build (v := .agg #[.int .i64 4, .int .i64 0, .int .i64 0, .int .i64 2, .int .i64 24, .int .i64 1, .slice none 0 0, .slice (some ⟨g2, 0, none⟩) 1 1, .slice none 0 0, .slice none 0 0]) [(0, _), (3, _), (4, _), (5, _)] rfl (fun _ => by kernel_rfl)) (G.mem rfl rfl (M.buildSlice (cs := [.int .i64 3, .int .i64 0, .int .i64 0, .int .i64 0, .int .i64 24, .int .i64 0, .slice none 0 0, .slice (some ⟨g1, 0, none⟩) 1 1, .slice none 0 0, .slice none 0 0, .int .i64 4, .int .i64 0, .int .i64 0, .int .i64 2, .int .i64 24, .int .i64 1, .slice none 0 0, .slice (some ⟨g2, 0, none⟩) 1 1, .slice none 0 0, .slice none 0 0]) [(0, _), (1, _)] Tryz.runUnderlying24 Tryz.sizeOf86 Tryz.zeroValue86 (by decide) rfl (by kernel_rfl)) ?_)
 have hsz_g3 := hE3.size
 rintro _ w_g3 ⟨g3, rfl, hg_g3, hs_g3, hB_g3, hk_g3⟩
 obtain ⟨hX, hY, hO, hRr, hE3, hB_vs, hB_g1⟩ := Tr7 hk_g3 hX hY hO hRr hE3 hB_vs hB_g1
 replace hB_g2 := Tr1 hk_g3 hB_g2
 refine G.ops1 rfl rfl (R.build (v := .agg #[.slice (some ⟨vs, 0, none⟩) 2 2, .slice none 0 0, .slice (some ⟨g3, 0, none⟩) 2 2]) [(0, _), (2, _)] rfl (fun _ => by kernel_rfl)) (G.mem0 rfl (M.storeK Tryz.sizeOf26 rfl rfl rfl rfl (by simp [Value.oneCell']) hRr (by simp)) ?_)
 rintro wf ⟨_, hBf, hkf⟩
 refine Gs 3 rfl (G.retC Tryz.results56 rfl (run_loadK Tryz.isAgg26 Tryz.sizeOf26 rfl hBf.cells) ?_)
 have hvr : vs ≠ r := hB_vs.ne hRr (by decide)
 have h1r : g1 ≠ r := hB_g1.ne hRr (by decide)
 have h2r : g2 ≠ r := hB_g2.ne hRr (by decide)
 have h3r : g3 ≠ r := hB_g3.ne hRr (by decide)
 have hS1 : RSt (fun q => w.heap.size ≤ q ∧ q ≠ r) w_g3 exS1 [.int .i64 0, .int .i64 0, .int .i64 1, .int .i64 0, .int .i64 0, .int .i64 1, .slice none 0 0, .slice none 0 0, .slice none 0 0, .slice none 0 0] := RSt.put (s := exS1) SlR.nil SlR.nil SlR.nil SlR.nil
 have hS2 : RSt (fun q => w.heap.size ≤ q ∧ q ≠ r) w_g3 exS2 [.int .i64 1, .int .i64 0, .int .i64 0, .int .i64 0, .int .i64 24, .int .i64 1, .slice none 0 0, .slice none 0 0, .slice none 0 0, .slice none 0 0] := RSt.put (s := exS2) SlR.nil SlR.nil SlR.nil SlR.nil
 have hL1 := exOne _ _ _ _ _ hB_g1 (show w.heap.size ≤ g1 ∧ g1 ≠ r from ⟨by omega, h1r⟩) rfl hS1
 have hL2 := exOne _ _ _ _ _ hB_g2 (show w.heap.size ≤ g2 ∧ g2 ≠ r from ⟨by omega, h2r⟩) rfl hS2
 have hS3 : RSt (fun q => w.heap.size ≤ q ∧ q ≠ r) w_g3 exS3 [.int .i64 3, .int .i64 0, .int .i64 0, .int .i64 0, .int .i64 24, .int .i64 0, .slice none 0 0, .slice (some ⟨g1, 0, none⟩) 1 1, .slice none 0 0, .slice none 0 0] := RSt.put (s := exS3) SlR.nil hL1 SlR.nil SlR.nil
 have hS4 : RSt (fun q => w.heap.size ≤ q ∧ q ≠ r) w_g3 exS4 [.int .i64 4, .int .i64 0, .int .i64 0, .int .i64 2, .int .i64 24, .int .i64 1, .slice none 0 0, .slice (some ⟨g2, 0, none⟩) 1 1, .slice none 0 0, .slice none 0 0] := RSt.put (s := exS4) SlR.nil hL2 SlR.nil SlR.nil
 have hVs : SlR 5 RVr (fun q => w.heap.size ≤ q ∧ q ≠ r) w_g3 (.slice (some ⟨vs, 0, none⟩) 2 2) exF20.vars := SlR.ofBlk hB_vs ⟨by omega, hvr⟩ rfl (Nat.le_refl _) (by decide) (fun i x hx => by
  match i, hx with
  | 0, hx => cases hx; exact ⟨[.string ⟨#[120]⟩, .int .i64 1, .int .i64 0, .int .i64 1, .int .i64 0], rfl, fun j u hu => by
    match j, hu with
    | 0, hu => exact hu
    | 1, hu => exact hu
    | 2, hu => exact hu
    | 3, hu => exact hu
    | 4, hu => exact hu
    | j + 5, hu => simp at hu, rfl⟩
  | 1, hx => cases hx; exact ⟨[.string ⟨#[121]⟩, .int .i64 0, .int .i64 0, .int .i64 1, .int .i64 0], rfl, fun j u hu => by
    match j, hu with
    | 0, hu => exact hu
    | 1, hu => exact hu
    | 2, hu => exact hu
    | 3, hu => exact hu
    | 4, hu => exact hu
    | j + 5, hu => simp at hu, rfl⟩
  | i + 2, hx => simp [exF20] at hx)
 have hBd : SlR 10 RSt (fun q => w.heap.size ≤ q ∧ q ≠ r) w_g3 (.slice (some ⟨g3, 0, none⟩) 2 2) exF20.body := SlR.ofBlk hB_g3 ⟨by omega, h3r⟩ rfl (Nat.le_refl _) (by decide) (fun i x hx => by
  match i, hx with
  | 0, hx => cases hx; exact ⟨_, rfl, fun j u hu => by
    match j, hu with
    | 0, hu => exact hu
    | 1, hu => exact hu
    | 2, hu => exact hu
    | 3, hu => exact hu
    | 4, hu => exact hu
    | 5, hu => exact hu
    | 6, hu => exact hu
    | 7, hu => exact hu
    | 8, hu => exact hu
    | 9, hu => exact hu
    | j + 10, hu => simp at hu, hS3⟩
  | 1, hx => cases hx; exact ⟨_, rfl, fun j u hu => by
    match j, hu with
    | 0, hu => exact hu
    | 1, hu => exact hu
    | 2, hu => exact hu
    | 3, hu => exact hu
    | 4, hu => exact hu
    | 5, hu => exact hu
    | 6, hu => exact hu
    | 7, hu => exact hu
    | 8, hu => exact hu
    | 9, hu => exact hu
    | j + 10, hu => simp at hu, hS4⟩
  | i + 2, hx => simp [exF20] at hx)
 have hFl : RFl (fun q => w.heap.size ≤ q ∧ q ≠ r) w_g3 exF20 (.slice (some ⟨vs, 0, none⟩) 2 2) (.slice none 0 0) (.slice (some ⟨g3, 0, none⟩) 2 2) := ⟨hVs, SlR.nil, hBd⟩
 exact ⟨_, rfl, ⟨_, _, _, rfl, rflWide (rflKeepD hFl hkf (fun q hq h => hq.2 h)) (fun q hq => hq.1)⟩, Keep.trans hE3 hkf (fun q hq h => by have h : q = r := h; omega)⟩
def exG20 : List Nd := [⟨0, -1, 1, -1⟩, ⟨3, 0, 2, 3⟩, ⟨2, 1, 3, -1⟩, ⟨4, 2, 4, -1⟩, ⟨5, 2, 5, 6⟩, ⟨2, 3, 4, -1⟩, ⟨1, -1, -1, -1⟩]
def exI20 : Ins := ⟨[1], [], []⟩
theorem ex_check : checkN exF20 = 0 := by decide +kernel
theorem ex_graph : cfgN exF20 = exG20 := by rfl
theorem ex_size : snodes exF20.body + hnodes exF20.hatches ≤ 1024 := by decide +kernel
theorem ex_bulk : sbulk exF20.body ≤ 1000000 := by decide +kernel
theorem ex_nodeAt : nodeAtN exF20 3 = (5, 0) := by decide +kernel
theorem ex_start : startCode exF20.vars exI20 = 0 := by decide +kernel
theorem ex_gcheck : gcheckN exF20 exG20 = 0 := by
 unfold gcheckN
 rw [if_neg (by rw [ex_check]; exact fun h => h rfl), if_pos ex_graph]
theorem ex_walkCode : walkCode exF20 exG20 exI20 = 0 := by
 unfold walkCode
 rw [if_neg (by rw [ex_gcheck]; exact fun h => h rfl), ex_start]
theorem ex_goes : GoesAll exF20 exI20 9 := by
 refine ⟨(iterM exF20 (hatsOf exF20 exI20) (cfgN exF20) 9 (mcOf exF20 exI20)).rd, ?_, ?_⟩
 · rfl
 ·
  have h : ∀ j : Fin 9, 0 ≤ (iterM exF20 (hatsOf exF20 exI20) (cfgN exF20) j.1 (mcOf exF20 exI20)).at_ ∧ (iterM exF20 (hatsOf exF20 exI20) (cfgN exF20) j.1 (mcOf exF20 exI20)).at_ < ((cfgN exF20).length : Int) - 1 := by decide +kernel
  exact fun j hj => h ⟨j, hj⟩
theorem ex_path : pathOf exF20 exI20 9 = [0, 1, 2, 3, 4, 5, 4, 5, 4, 6] := by decide +kernel
def exT20 : List (List Int) := [[], [4, 5], [4, 5], [1, 4, 5], [1, 4, 5], [1, 4, 5], [1, 4, 5]]
def thruB (f : Fl) (x : Nd) (d : Int) : Bool := decide (x.kind ≠ 0) && (!asgB f x || decide (varD f d ≠ (stAt f x.at_).var))
theorem thruB_of {f : Fl} {x : Nd} {d : Int} (h : ThruD f x d) : thruB f x d = true := by
 unfold thruB
 cases ha : asgB f x with
 | false => simp [h.1]
 | true => simp [h.1, h.2 ha]
def genB (f : Fl) (x : Nd) (d : Int) : Bool := (decide (x.kind = 0) && decide (((preL f.body).length : Int) ≤ d) && decide (d < (preL f.body).length + f.vars.length)) || (decide (x.kind ≠ 0) && asgB f x && decide (d = x.at_))
theorem genB_iff {f : Fl} {x : Nd} {d : Int} : GenD f x d ↔ genB f x d = true := by
 unfold genB GenD
 simp only [Bool.or_eq_true, Bool.and_eq_true, decide_eq_true_eq]
 constructor
 ·
  rintro (h | h)
  · exact .inl ⟨⟨h.1, h.2.1⟩, h.2.2⟩
  · exact .inr ⟨⟨h.1, h.2.1⟩, h.2.2⟩
 ·
  rintro (h | h)
  · exact .inl ⟨h.1.1, h.1.2, h.2⟩
  · exact .inr ⟨h.1.1, h.1.2, h.2⟩
def tabOk (f : Fl) (g : List Nd) (T : List (List Int)) : Bool := (List.range g.length).all fun i => [(ndAt g i).next, (ndAt g i).other].all fun to => decide (to < 0) ||
 (((List.range ((preL f.body).length + f.vars.length)).all fun d : Nat => !genB f (ndAt g i) d || ((T[to.toNat]?.getD []).contains (d : Int))) && ((T[i]?.getD []).all fun d => !thruB f (ndAt g i) d || ((T[to.toNat]?.getD []).contains d)))
theorem gen_range {f : Fl} {x : Nd} {d : Int} (h : GenD f x d) (hx : x.kind = 2 → 0 ≤ x.at_ ∧ x.at_ < (preL f.body).length) : 0 ≤ d ∧ d < (preL f.body).length + f.vars.length := by
 rcases h with h | h
 · omega
 ·
  have h2 : x.kind = 2 := by have := h.2.1; unfold asgB at this; simp at this; exact this.1
  have := hx h2
  omega
theorem tab_all {f : Fl} {g : List Nd} {T : List (List Int)} (hT : tabOk f g T = true) (hx : ∀ (i : Nat) x, g[i]? = some x → x.kind = 2 → 0 ≤ x.at_ ∧ x.at_ < (preL f.body).length) {to d : Int} (h : Rch f g to d) : d ∈ T[to.toNat]?.getD [] := by
 unfold tabOk at hT
 rw [List.all_eq_true] at hT
 induction h with
 | @gen i x to d he ht h0 hg =>
  have h1 := hT i (List.mem_range.2 (List.getElem?_eq_some_iff.1 he).1)
  rw [ndAt_eq he, List.all_eq_true] at h1
  have h2 := h1 to (by simpa using ht)
  rw [decide_eq_false (by omega), Bool.false_or, Bool.and_eq_true, List.all_eq_true] at h2
  have hr := gen_range hg (hx i x he)
  have h3 := h2.1 d.toNat (List.mem_range.2 (by omega))
  rw [show ((d.toNat : Nat) : Int) = d by omega, genB_iff.1 hg] at h3
  simpa using h3
 | @thru i x to d he ht h0 _ hk ih =>
  have h1 := hT i (List.mem_range.2 (List.getElem?_eq_some_iff.1 he).1)
  rw [ndAt_eq he, List.all_eq_true] at h1
  have h2 := h1 to (by simpa using ht)
  rw [decide_eq_false (by omega), Bool.false_or, Bool.and_eq_true, List.all_eq_true] at h2
  have h4 := List.all_eq_true.1 h2.2 d (by simpa using ih)
  rw [thruB_of hk] at h4
  simpa using h4
theorem ex_tab : tabOk exF20 exG20 exT20 = true := by decide +kernel
theorem ex_row {rows : List (List Int)} (h : RchRows exF20 exG20 rows) : ∃ r, rows[4]? = some r ∧ r = [1, 4, 5] := by
 obtain ⟨r, hr⟩ : ∃ r, rows[4]? = some r := ⟨_, List.getElem?_eq_getElem (by rw [h.1]; decide)⟩
 refine ⟨r, hr, ?_⟩
 obtain ⟨hs, hm⟩ := h.2 4 r hr
 have hg : ∀ d : Int, d = 4 ∨ d = 5 → Rch exF20 exG20 1 d := fun d hd => Rch.gen (i := 0) rfl (.inl rfl) (by decide) (genB_iff.2 (by rcases hd with rfl | rfl <;> decide +kernel))
 have hthru : ∀ (x : Nd) d, x.kind ≠ 0 → asgB exF20 x = false → ThruD exF20 x d := fun x d h1 h2 => ⟨h1, fun h => by rw [h2] at h; cases h⟩
 have h3 : ∀ d : Int, d = 1 ∨ d = 4 ∨ d = 5 → Rch exF20 exG20 3 d := fun d hd => by
  rcases hd with rfl | hd
  · exact Rch.gen (i := 2) rfl (.inl rfl) (by decide) (genB_iff.2 (by decide +kernel))
  · exact Rch.thru (i := 1) rfl (.inr rfl) (by decide) (hg d hd) (hthru _ _ (by decide) (by decide +kernel))
 have h4 : ∀ d : Int, d = 1 ∨ d = 4 ∨ d = 5 → Rch exF20 exG20 4 d := fun d hd => Rch.thru (i := 3) rfl (.inl rfl) (by decide) (h3 d hd) (hthru _ _ (by decide) (by decide +kernel))
 have hx : ∀ (i : Nat) x, exG20[i]? = some x → x.kind = 2 → 0 ≤ x.at_ ∧ x.at_ < ((preL exF20.body).length : Int) := by
  have hh : ∀ x ∈ exG20, x.kind = 2 → 0 ≤ x.at_ ∧ x.at_ < ((preL exF20.body).length : Int) := by
   have : ∀ x ∈ exG20.map (fun x => (x.kind, x.at_)), x.1 = 2 → 0 ≤ x.2 ∧ x.2 < ((preL exF20.body).length : Int) := by decide +kernel
   exact fun x hx => this _ (List.mem_map_of_mem hx)
  exact fun i x h => hh x (List.mem_of_getElem? h)
 refine strict_ext hs (by decide) (fun d => ?_)
 rw [hm]
 constructor
 ·
  intro h5
  exact tab_all ex_tab hx h5
 ·
  intro h5
  exact h4 d (by simpa using h5)
theorem equal_ok (xs ys : List Int) (u v : Value) (D D' : Nat → Prop) (w : World) (hx : SlR 1 RInt D w u xs) (hy : SlR 1 RInt D' w v ys) : Calls Tryz.prog 30 #[u, v] w (Ret fun r w' => r = .bool (decide (xs = ys)) ∧ Ext w w') := by
 obtain ⟨ao, cx, rfl, hxc, hxm, hxe⟩ := hx
 obtain ⟨bo, cy, rfl, hyc, hym, hye⟩ := hy
 refine G.in2 Tryz.func30 rfl Tryz.ntmps30 rfl (Gs 15 rfl (G.ite0 rfl (fun hne => ?_) (fun heq => ?_)))
 ·
  refine Gs 7 rfl ?_
  have : ¬ xs = ys := fun h => hne (by rw [h])
  refine G.ret1 Tryz.results30 rfl ⟨_, rfl, by rw [decide_eq_false this], Keep.refl _ _⟩
 ·
  have hl : xs.length = ys.length := by omega
  refine Gs 11 rfl (G.loop (σ := Nat) (fun k => [(0, .slice ao xs.length cx), (1, .slice bo ys.length cy), (11, .slice ao xs.length cx), (12, .int .i64 xs.length), (13, .int .i64 k)]) (fun k => fun w' => k ≤ xs.length ∧ xs.take k = ys.take k ∧ Ext w w') (fun k => xs.length - k) (0) (Sub.of rfl) (⟨Nat.zero_le _, rfl, Keep.refl _ _⟩) ?_)
  rintro k w1 ⟨hkl, htk, hk1⟩
  refine Gs 6 rfl (G.ite0 rfl (fun hlt => ?_) (fun hge => ?_))
  ·
   obtain ⟨x, hx⟩ : ∃ x, xs[k]? = some x := ⟨_, List.getElem?_eq_getElem (by omega)⟩
   obtain ⟨y, hy⟩ : ∃ y, ys[k]? = some y := ⟨_, List.getElem?_eq_getElem (by omega)⟩
   obtain ⟨b1, o1, c1, hao, _, hcl1, hcs1, rfl⟩ := hxe k x hx
   obtain ⟨b2, o2, c2, hbo, _, hcl2, hcs2, rfl⟩ := hye k y hy
   have hcs1' := hk1.cells hcs1 (fun h => h)
   have hcs2' := hk1.cells hcs2 (fun h => h)
   refine Gs 11 rfl (Qt (by kernel_rfl) (Gs 2 rfl (G.opQ rfl rfl (fun w1 hw1 => R.indexS Tryz.runUnderlying50 Tryz.sizeOf3 rfl rfl hao (by omega)) (G.ldQ rfl Tryz.isAgg3 (fun w1 hw1 => (hw1.cell (hcs1' 0 _ rfl) (fun h => h))) (Gs 2 rfl (G.opQ rfl rfl (fun w1 hw1 => R.indexS Tryz.runUnderlying50 Tryz.sizeOf3 rfl rfl hbo (by omega)) (G.ldQ rfl Tryz.isAgg3 (fun w1 hw1 => (hw1.cell (hcs2' 0 _ rfl) (fun h => h))) (Gs 1 rfl (G.nilQ (fun w2 hk2 => ?_))))))))))
   refine Gs 1 rfl (G.ite0 rfl (fun hd => ?_) (fun he => ?_))
   ·
    have : ¬ xs = ys := by
     rintro rfl
     rw [hx] at hy
     exact hd (Option.some.inj hy)
    refine Gs 11 rfl (G.ret1 Tryz.results30 rfl ⟨_, rfl, by rw [decide_eq_false this], hk1.ext hk2⟩)
   ·
    have hxy : x = y := Decidable.not_not.1 he
    refine Ga 7 rfl (by omega) (G.back (k + 1) (Sub.of rfl) (⟨by omega, ?_, hk1.ext hk2⟩) (by first | omega | (dsimp only; omega)))
    obtain ⟨h1, h2⟩ := List.getElem?_eq_some_iff.1 hx
    obtain ⟨h3, h4⟩ := List.getElem?_eq_some_iff.1 hy
    rw [List.take_succ_eq_append_getElem h1, List.take_succ_eq_append_getElem h3, htk, h2, h4, hxy]
  ·
   have hkk : k = xs.length := by omega
   have : xs = ys := by
    rw [hkk, List.take_length] at htk
    rw [hl, List.take_length] at htk
    exact htk
   refine Gs 11 rfl (G.ret1 Tryz.results30 rfl ⟨_, rfl, by rw [decide_eq_true this], hk1⟩)
theorem known_ok (w : World) : Calls Tryz.prog 14 #[] w (Ret fun r w' => r = .bool true ∧ Ext w w') := by
 have hE := Keep.refl (fun _ => False) w
 refine G.in0 Tryz.func14 rfl Tryz.ntmps14 (Gs 7 rfl (G.call rfl Tryz.call56 (example20_ok _) ?_))
 rintro _ w1 ⟨⟨v1, v2, v3, rfl, hf⟩, hk1⟩
 replace hE := Tr1 hk1 hE
 obtain ⟨a1, n1, rfl⟩ := hf.vars.form
 obtain ⟨a2, n2, rfl⟩ := hf.hatches.form
 obtain ⟨a3, n3, rfl⟩ := hf.body.form
 refine G.mem rfl rfl (M.alloc (cs := _) Tryz.zeroValue26 rfl) ?_
 rintro _ wa1 ⟨bf, rfl, hg_bf, hs_bf, hB_bf, hk_bf⟩
 refine G.mem0 rfl (M.storeK Tryz.sizeOf26 rfl rfl rfl rfl (by simp [Value.oneCell']) hB_bf (by simp)) ?_
 rintro w_bf ⟨_, hB_bf, hkk_bf⟩
 replace hk_bf := hk_bf.trans hkk_bf (fun q hq h => by have h : q = bf := h; omega)
 have hge_bf : _ ≤ bf := Nat.le_trans hE.size (Nat.le_of_eq hg_bf.symm)
 obtain ⟨hE, hf⟩ := Tr2 hk_bf hE hf
 refine Gs 4 rfl (G.ldK rfl Tryz.isAgg26 Tryz.sizeOf26 hB_bf.cells rfl (G.call rfl Tryz.call16 (cfgBuild_ok exF20 _ _ _ _ _ hf ex_size ex_bulk) ?_))
 rintro _ w2 ⟨⟨nv, rfl, hg⟩, hk2⟩
 rw [graphOf, if_pos ex_check, ex_graph] at hg
 rw [ex_check]
 obtain ⟨hE, hf, hB_bf⟩ := Tr3 hk2 hE hf hB_bf
 obtain ⟨ag, cg, rfl⟩ := hg.form
 refine Gs 3 rfl (G.mem rfl rfl (M.alloc (cs := _) Tryz.zeroValue31 rfl) ?_)
 rintro _ wa2 ⟨bg, rfl, hg_bg, hs_bg, hB_bg, hk_bg⟩
 refine G.mem0 rfl (M.storeK Tryz.sizeOf31 rfl rfl rfl rfl (by simp [Value.oneCell']) hB_bg (by simp)) ?_
 rintro w_bg ⟨_, hB_bg, hkk_bg⟩
 replace hk_bg := hk_bg.trans hkk_bg (fun q hq h => by have h : q = bg := h; omega)
 have hn_bf_bg : bf ≠ bg := by have := hB_bf.lt; omega
 have hge_bg : _ ≤ bg := Nat.le_trans hE.size (Nat.le_of_eq hg_bg.symm)
 obtain ⟨hE, hf, hB_bf, hg⟩ := Tr4 hk_bg hE hf hB_bf hg
 refine Gs 5 rfl (G.ldK rfl Tryz.isAgg26 Tryz.sizeOf26 hB_bf.cells rfl (G.call rfl Tryz.call22 (nodeAt_ok exF20 3 _ _ _ _ _ hf ex_size ex_bulk) ?_))
 rintro _ w3 ⟨rfl, hk3⟩
 rw [ex_nodeAt]
 obtain ⟨hE, hf, hB_bf, hg, hB_bg⟩ := Tr5 hk3 hE hf hB_bf hg hB_bg
 refine Gs 9 rfl (G.ldK rfl Tryz.isAgg26 Tryz.sizeOf26 hB_bf.cells rfl (G.ldK rfl Tryz.isAgg31 Tryz.sizeOf31 hB_bg.cells rfl (G.mem rfl rfl (M.buildSlice (cs := [.int .i64 1]) [(0, _)] Tryz.runUnderlying50 Tryz.sizeOf3 Tryz.zeroValue3 (by decide) rfl (by kernel_rfl)) ?_)))
 rintro _ w4 ⟨g4, rfl, hg4, hs4, hB4, hk4⟩
 obtain ⟨hE, hf, hB_bf, hg, hB_bg⟩ := Tr5 hk4 hE hf hB_bf hg hB_bg
 have hi1 : SlR 1 RInt (fun _ => True) w4 (.slice (some ⟨g4, 0, none⟩) 1 1) exI20.secret := SlR.ofRow1 encI1 (fun x _ => rfl) (own_blk (k := 1) (n := 1) (cap := 1) hB4 (Nat.le_refl _) (by decide) rfl) (fun _ _ => trivial)
 refine G.ops1 rfl rfl (R.build (v := .agg #[.slice (some ⟨g4, 0, none⟩) 1 1, .slice none 0 0, .slice none 0 0]) [(0, _)] rfl (fun _ => by kernel_rfl)) (G.call rfl Tryz.call27 (cfgWalk_ok exF20 exG20 exI20 _ _ _ _ _ _ _ (fun _ => True) _ _ (rflWide hf (fun _ _ => trivial)) hg hi1 SlR.nil SlR.nil ex_size ex_bulk) ?_)
 rintro _ w5 ⟨⟨pv, rfl, _, hp⟩, hk5⟩
 rw [ex_walkCode]
 obtain ⟨K, hK, hpv⟩ := hp ex_walkCode
 obtain rfl := hK.unique ex_goes
 rw [ex_path] at hpv
 obtain ⟨ap, cp, rfl⟩ := hpv.form
 obtain ⟨hE, hf, hB_bf, hg, hB_bg⟩ := Tr5 hk5 hE hf hB_bf hg hB_bg
 refine Gs 9 rfl (G.ldK rfl Tryz.isAgg26 Tryz.sizeOf26 hB_bf.cells rfl (G.ldK rfl Tryz.isAgg31 Tryz.sizeOf31 hB_bg.cells rfl (G.call rfl Tryz.call34 (reaching_ok exF20 exG20 _ _ _ _ _ _ _ hf hg ex_size ex_bulk) ?_)))
 rintro _ w6 ⟨⟨rv, rfl, _, hr⟩, hk6⟩
 rw [ex_gcheck]
 obtain ⟨rows, hrows, hrv⟩ := hr ex_gcheck
 rw [ex_graph] at hrows
 obtain ⟨r4, hr4, e4⟩ := ex_row hrows
 have hrl : rows.length = 7 := hrows.1
 obtain ⟨ar, cr, rfl⟩ := hrv.form
 obtain ⟨rb, ro, rc, hra, _, hrc, r4v, rfl, hr4s⟩ := hrv.at hr4
 obtain ⟨xa, xc, rfl⟩ := hr4s.form
 rw [hrl] at hrv ⊢
 obtain ⟨hE, hf, hB_bf, hg, hB_bg, hpv⟩ := Tr6 hk6 hE hf hB_bf hg hB_bg hpv
 refine Ga 18 rfl (by omega) (G.sp 43 rfl (fun q1 => ?_) (fun q1 => ?_))
 ·
  refine Gs 1 rfl (G.ld rfl Tryz.isAgg29 (hB_bg.cells 0 _ rfl) (Gs 4 rfl (G.sp 49 rfl (fun q2 => ?_) (fun q2 => ?_))))
  ·
   have he4 : exG20[4]? = some ⟨5, 2, 5, 6⟩ := rfl
   obtain ⟨eb, eo, ec, hea, _, hec, rfl⟩ := hg.at he4
   refine Gs 1 rfl (G.ld rfl Tryz.isAgg29 (hB_bg.cells 0 _ rfl) (G.ops1 rfl rfl (R.indexS Tryz.runUnderlying29 Tryz.sizeOf40 rfl rfl hea (by decide)) (G.ldK rfl Tryz.isAgg40 Tryz.sizeOf40 hec rfl (G.ops1 rfl rfl (R.build (v := .agg #[.int .i64 5, .int .i64 2, .int .i64 5, .int .i64 6]) [(0, _), (1, _), (2, _), (3, _)] rfl (fun _ => by kernel_rfl)) (G.ops1 rfl rfl (eqNd (a := ⟨5, 2, 5, 6⟩) (b := ⟨5, 2, 5, 6⟩) rfl rfl) (Gs 2 rfl (G.sp 57 rfl (fun q3 => ?_) (fun q3 => ?_))))))))
   ·
    refine Gs 4 rfl (G.sp 61 rfl (fun q4 => ?_) (fun q4 => ?_))
    ·
     refine Gs 1 rfl (G.mem rfl rfl (M.buildSlice (cs := [.int .i64 0, .int .i64 1, .int .i64 2, .int .i64 3, .int .i64 4, .int .i64 5, .int .i64 4, .int .i64 5, .int .i64 4, .int .i64 6]) [(0, _), (1, _), (2, _), (3, _), (4, _), (5, _), (6, _), (7, _), (8, _), (9, _)] Tryz.runUnderlying50 Tryz.sizeOf3 Tryz.zeroValue3 (by decide) rfl (by kernel_rfl)) ?_)
     rintro _ w7 ⟨g7, rfl, hg7, hs7, hB7, hk7⟩
     obtain ⟨hE, hf, hB_bf, hg, hB_bg, hpv, hrc⟩ := Tr7 hk7 hE hf hB_bf hg hB_bg hpv hrc
     replace hr4s := Tr1 hk7 hr4s
     have hc7 : SlR 1 RInt (fun _ => True) w7 (.slice (some ⟨g7, 0, none⟩) 10 10) [0, 1, 2, 3, 4, 5, 4, 5, 4, 6] := SlR.ofRow1 encI1 (fun x _ => rfl) (own_blk (k := 1) (n := 10) (cap := 10) hB7 (Nat.le_refl _) (by decide) rfl) (fun _ _ => trivial)
     refine G.call rfl Tryz.call30 (equal_ok [0, 1, 2, 3, 4, 5, 4, 5, 4, 6] [0, 1, 2, 3, 4, 5, 4, 5, 4, 6] _ _ _ _ _ hpv hc7) ?_
     rintro _ wz3 ⟨rfl, hz3⟩
     obtain ⟨hE, hf, hB_bf, hg, hB_bg, hpv, hrc⟩ := Tr7 hz3 hE hf hB_bf hg hB_bg hpv hrc
     replace hr4s := Tr1 hz3 hr4s
     refine Gs 2 rfl (G.sp 66 rfl (fun q5 => ?_) (fun q5 => ?_))
     ·
      refine Gs 5 rfl (G.sp 71 rfl (fun q6 => ?_) (fun q6 => ?_))
      ·
       refine Gs 1 rfl (G.ops1 rfl rfl (R.indexS Tryz.runUnderlying70 Tryz.sizeOf50 rfl rfl hra (by decide)) (G.ld rfl Tryz.isAgg50 (hrc 0 _ rfl) (G.mem rfl rfl (M.buildSlice (cs := [.int .i64 1, .int .i64 4, .int .i64 5]) [(0, _), (1, _), (2, _)] Tryz.runUnderlying50 Tryz.sizeOf3 Tryz.zeroValue3 (by decide) rfl (by kernel_rfl)) ?_)))
       rintro _ w8 ⟨g8, rfl, hg8, hs8, hB8, hk8⟩
       obtain ⟨hE, hf, hB_bf, hg, hB_bg, hpv, hrc⟩ := Tr7 hk8 hE hf hB_bf hg hB_bg hpv hrc
       replace hr4s := Tr1 hk8 hr4s
       have hc8 : SlR 1 RInt (fun _ => True) w8 (.slice (some ⟨g8, 0, none⟩) 3 3) [1, 4, 5] := SlR.ofRow1 encI1 (fun x _ => rfl) (own_blk (k := 1) (n := 3) (cap := 3) hB8 (Nat.le_refl _) (by decide) rfl) (fun _ _ => trivial)
       refine G.call rfl Tryz.call30 (equal_ok r4 [1, 4, 5] _ _ _ _ _ hr4s hc8) ?_
       rintro _ wz4 ⟨rfl, hz4⟩
       obtain ⟨hE, hf, hB_bf, hg, hB_bg, hpv, hrc⟩ := Tr7 hz4 hE hf hB_bf hg hB_bg hpv hrc
       replace hr4s := Tr1 hz4 hr4s
       refine Gs 5 rfl (G.ret1 Tryz.results14 rfl ⟨_, rfl, by rw [decide_eq_true e4], hE⟩)
      · exact absurd (by decide) q6
     · exact absurd (by decide) q5
    · exact absurd (by decide) q4
   · exact absurd (by decide) q3
  · exact absurd (by decide) q2
 · exact absurd (by decide) q1
theorem width_ok (l : List St) : ∀ (v : Value) (D : Nat → Prop) (w : World), SlR 10 RSt D w v l → ssize l ≤ 1000000 → Calls Tryz.prog 68 #[v] w (Ret fun r w' => r = .int .i64 (widL l) ∧ Ext w w') := by
 induction l using Sts.ind with
 | h l ih =>
 intro v D w hl hsz
 have hlen := slen_ssize l
 obtain ⟨ao, cap, rfl⟩ := hl.form
 refine G.in1 Tryz.func68 rfl Tryz.ntmps68 rfl (Gs 19 rfl (G.loop (σ := Nat) (fun i => [(3, .int .i64 (widL (l.take i))), (6, .slice ao l.length cap), (7, .int .i64 l.length), (8, .int .i64 i)]) (fun i => fun w' => i ≤ l.length ∧ Ext w w') (fun i => l.length - i) (0) (Sub.of rfl) (⟨Nat.zero_le _, Keep.refl _ _⟩) ?_))
 rintro i w1 ⟨hi, hL1⟩
 replace hl := Tr1 hL1 hl
 refine Gs 6 rfl (G.ite rfl (fun hlt => ?_) (fun hge => ?_))
 ·
  obtain ⟨s, he_s⟩ : ∃ x, l[i]? = some x := ⟨_, List.getElem?_eq_getElem (by omega)⟩
  have hm_s := List.mem_of_getElem? he_s
  obtain ⟨b_s, o_s, c_s, ha_s, _, hc_s, hR_s⟩ := hl.at he_s
  have h1_s := RSt.one hR_s
  obtain ⟨v1_s, v2_s, v3_s, v4_s, rfl, hk_s, ht_s, hs_s, hb_s⟩ := hR_s.get
  obtain ⟨a1_s, n1_s, rfl⟩ := hk_s.form
  obtain ⟨a2_s, n2_s, rfl⟩ := ht_s.form
  obtain ⟨a3_s, n3_s, rfl⟩ := hs_s.form
  obtain ⟨a4_s, n4_s, rfl⟩ := hb_s.form
  have hlt_s : b_s < _ := World.block_lt_of_cell? _ _ (hc_s 0 _ rfl)
  have hsp := ssize_split he_s
  have hse := s.size_eq
  have hwe := s.wid_eq
  have hwt := widL_take he_s
  have hw0 := widL_le l
  have hw1' := widL_split he_s
  have hw2 := widL_le s.thn
  have hw3 := widL_le s.els
  have hE := Keep.refl (fun _ => False) w1
  refine Gs 6 rfl (G.ops1 rfl rfl (R.indexS Tryz.runUnderlying24 Tryz.sizeOf86 rfl rfl ha_s (by omega)) (G.ldK rfl Tryz.isAgg86 Tryz.sizeOf86 hc_s rfl (G.mem rfl rfl (M.alloc (cs := _) Tryz.zeroValue86 rfl) ?_)))
  rintro _ wa1 ⟨b, rfl, hg_b, hs_b, hB_b, hk_b⟩
  refine G.mem0 rfl (M.storeK Tryz.sizeOf86 rfl rfl rfl rfl h1_s hB_b (by simp)) ?_
  rintro w_b ⟨_, hB_b, hkk_b⟩
  replace hk_b := hk_b.trans hkk_b (fun q hq h => by have h : q = b := h; omega)
  have hge_b : _ ≤ b := Nat.le_trans hE.size (Nat.le_of_eq hg_b.symm)
  obtain ⟨hl, hL1, hc_s, hk_s, ht_s, hs_s, hb_s⟩ := Tr7 hk_b hl hL1 hc_s hk_s ht_s hs_s hb_s
  replace hE := Tr1 hk_b hE
  refine Gs 3 rfl (Dw (fun q => Ext w_b q) [] (fun wd2 hD _ => ?_))
  refine Ds [0, 1] (by kernel_rfl) rfl (WD.take 2 rfl (by kernel_rfl) rfl rfl rfl hD (fun w1 hw1 => R.load Tryz.isAgg24 rfl ((hw1.blk hB_b (fun h => h)).cells 7 _ rfl)) (Ds [5] (by kernel_rfl) rfl (WD.take 6 rfl (by kernel_rfl) rfl rfl rfl hD (fun w1 hw1 => R.load Tryz.isAgg24 rfl ((hw1.blk hB_b (fun h => h)).cells 8 _ rfl)) (WD.call 3 rfl (by kernel_rfl) rfl rfl rfl (F.call (vs := [_]) Tryz.call68 rfl) ((ih s hm_s).1 _ D _ (ht_s.ext stable_st hD) (by omega)) ?_))))
  rintro _ wz3 ⟨rfl, hz3⟩
  replace hD := hD.ext hz3
  refine ⟨fun _ => hD, ?_⟩
  refine Da [4] (by kernel_rfl) rfl (by omega) (WD.call 7 rfl (by kernel_rfl) rfl rfl rfl (F.call (vs := [_]) Tryz.call68 rfl) ((ih s hm_s).2 _ D _ (hs_s.ext stable_st hD) (by omega)) ?_)
  rintro _ wz4 ⟨rfl, hz4⟩
  replace hD := hD.ext hz4
  refine ⟨fun _ => hD, ?_⟩
  refine Da [8, 9, 10] (by kernel_rfl) rfl (by omega) (G.done (by kernel_rfl) ?_ _)
  obtain ⟨hl, hL1, hc_s, hk_s, ht_s, hs_s, hb_s⟩ := Tr7 hD hl hL1 hc_s hk_s ht_s hs_s hb_s
  obtain ⟨hE, hB_b⟩ := Tr2 hD hE hB_b
  refine Gs 4 rfl (G.ld rfl Tryz.isAgg80 (hB_b.cells 0 _ rfl) (Gs 3 rfl (G.ite rfl (fun h4 => ?_) (fun h4 => ?_))))
  ·
   rw [if_pos h4] at hwe
   refine Ga 11 rfl (by omega) (G.back (i + 1) (Sub.cons (slotI rfl (by rw [hwt]; omega)) (Sub.of rfl)) (⟨by omega, hL1⟩) (by first | omega | (dsimp only; omega)))
  ·
   rw [if_neg h4] at hwe
   refine Ga 7 rfl (by omega) (G.back (i + 1) (Sub.cons (slotI rfl (by rw [hwt]; omega)) (Sub.of rfl)) (⟨by omega, hL1⟩) (by first | omega | (dsimp only; omega)))
 ·
  have : i = l.length := by omega
  subst this
  refine Gs 12 rfl (G.ret1 Tryz.results68 rfl ⟨_, rfl, by rw [List.take_length], hL1⟩)
theorem SlR.mid {α : Type} {k : Nat} {R : Rel α} {D : Nat → Prop} {w : World} {ao : Option Addr} {n c i : Nat} {l : List α} {x : α} (h : SlR k R D w (.slice ao n c) l) (hx : l[i]? = some x) : SlR k R D w (.slice (if c = (i : Int).toNat then ao else ao.map (·.add ((i : Int).toNat * k))) (((i : Int) + 1).toNat - (i : Int).toNat) (c - (i : Int).toNat)) [x] := by
 have hi := (List.getElem?_eq_some_iff.1 hx).1
 have h1 := (h.drop i (by omega)).take 1 (by rw [List.length_drop]; omega)
 rw [drop_cons hx] at h1
 rw [Int.toNat_natCast, show ((i : Int) + 1).toNat - i = 1 by omega]
 exact h1
theorem app_ext {w w1 w2 : World} {vo vo' : Value} {n : Nat} {xs : List Value} (hE : Ext w w1) (hf : ∀ g, vo.ownBlock = some g → w.heap.size ≤ g) (hk : Keep (fun k => vo.ownBlock = some k) w1 w2) (hfr : vo'.ownBlock = vo.ownBlock ∨ ∃ g, vo'.ownBlock = some g ∧ w1.heap.size ≤ g) (_ : w1.ownsRow 0 40 4 vo n xs) :
  Ext w w2 ∧ (∀ g, vo'.ownBlock = some g → w.heap.size ≤ g) := by
 refine ⟨Keep.trans hE hk (fun k hk h => by have := hf k h; omega), fun g hg => ?_⟩
 rcases hfr with h | ⟨g', h, h'⟩
 · exact hf g (by rw [← h]; exact hg)
 ·
  rw [h] at hg; cases hg
  have := hE.size
  omega
theorem app_blk {w1 w2 : World} {vo : Value} {n : Nat} {xs : List Value} {c : Nat} {cs : List Value} {e : TypeId} (ho : w1.ownsRow 0 40 4 vo n xs) (hk : Keep (fun k => vo.ownBlock = some k) w1 w2) (hb : Blk w1 c cs e) (he : e ≠ 40) : Blk w2 c cs e :=
 hk.blk hb (fun h => by obtain ⟨cs', hb'⟩ := own_blkty ho h; exact he (hb.ty hb').1)
theorem flatN1 (x : Nd) : [x].flatMap encN = encN x := by simp
theorem encNs_one (l : List Nd) : ∀ u ∈ l.flatMap encN, u.oneCell' = true := by
 intro u hu
 obtain ⟨x, _, hx⟩ := List.mem_flatMap.1 hu
 exact encN_one x u hx
theorem lay_len_le (l : List St) : ∀ a n e, (layL l a n e).length ≤ widL l := by
 induction l using Sts.ind with
 | h l ih =>
 have key : ∀ r : List St, (∀ x ∈ r, x ∈ l) → ∀ a n e, (layL r a n e).length ≤ widL r := by
  intro r
  induction r with
  | nil => intro _ a n e; simp [layL]
  | cons s r ihr =>
   intro hm a n e
   have h1 := (ih s (hm s (List.mem_cons_self ..))).1
   have h2 := (ih s (hm s (List.mem_cons_self ..))).2
   have h3 := ihr (fun y hy => hm y (List.mem_cons_of_mem _ hy)) (a + s.size) (n + s.wid) e
   have hw := s.wid_eq
   have h4 : ∀ a n e, (s.lay a n e).length ≤ s.wid := by
    intro a n e
    rw [s.lay_eq]
    split
    ·
     rw [List.length_cons, List.length_append]
     have := h1 (a + 1) (n + 1) e
     have := h2 (a + 1 + ssize s.thn) (n + 1 + widL s.thn) e
     omega
    ·
     split
     ·
      rename_i a4
      rw [if_pos a4] at hw
      have := h1 (a + 1) (n + 2) (n + 1)
      simp only [List.length_cons]
      omega
     · simp; omega
   have := h4 a n (if r.isEmpty = true then e else n + s.wid)
   rw [layL, List.length_append, widL]
   omega
 exact key l (fun x h => h)
theorem isEmpty_f {α : Type} {l : List α} (h : (0 : Int) < (l.length : Int)) : l.isEmpty = false := by cases l <;> simp_all
theorem isEmpty_t {α : Type} {l : List α} (h : ¬ (0 : Int) < (l.length : Int)) : l.isEmpty = true := by
 cases l
 · rfl
 · simp at h
theorem lay_ok (l : List St) : ∀ (v : Value) (D : Nat → Prop) (w : World) (at_ node after : Nat), SlR 10 RSt D w v l → ssize l ≤ 10000 → at_ + ssize l ≤ 100000 → node + widL l ≤ 100000 → Calls Tryz.prog 69 #[v, .int .i64 at_, .int .i64 node, .int .i64 after] w (Ret fun r w' => w'.ownsRow 0 40 4 r (layL l at_ node after).length ((layL l at_ node after).flatMap encN) ∧ (∀ g, r.ownBlock = some g → w.heap.size ≤ g) ∧ Ext w w') := by
 induction l using Sts.ind with
 | h l ih =>
 intro v D0 w at_ node after hl00 hsz hat hnode
 have hl0 := hl00.narrow (by decide) narrow_st
 generalize hDD : (fun b => D0 b ∧ b < w.heap.size) = D at hl0
 have hDw : ∀ q, D q → q < w.heap.size := fun q h => by rw [← hDD] at h; exact h.2
 have hlen := slen_ssize l
 have hwl := widL_le l
 obtain ⟨av, cv, rfl⟩ := hl0.form
 have hmx := hl0.max
 have hcap := hl0.len_cap.2
 refine G.in4 Tryz.func69 rfl Tryz.ntmps69 rfl (Gs 19 rfl (G.loop (σ := Nat × Value) (fun ⟨i, vo⟩ => [(0, .slice av l.length cv), (1, .int .i64 (at_ + ssize (l.take i) : Nat)), (2, .int .i64 (node + widL (l.take i) : Nat)), (3, .int .i64 after), (9, vo), (17, .slice av l.length cv), (18, .int .i64 l.length), (19, .int .i64 i)]) (fun ⟨i, vo⟩ => fun w' => i ≤ l.length ∧ (∃ pre : List Nd, w'.ownsRow 0 40 4 vo pre.length (pre.flatMap encN) ∧ pre.length ≤ widL (l.take i) ∧ pre ++ layL (l.drop i) (at_ + ssize (l.take i)) (node + widL (l.take i)) after = layL l at_ node after) ∧ (∀ g, vo.ownBlock = some g → w.heap.size ≤ g) ∧ Ext w w') (fun ⟨i, vo⟩ => l.length - i) ((0, .slice none 0 0)) (Sub.of rfl) (⟨Nat.zero_le _, ⟨[], own_nil _ _ _, by simp, by simp [ssize, widL]⟩, fun g hg => by simp [Value.ownBlock] at hg, Keep.refl _ _⟩) ?_))
 rintro ⟨i, vo⟩ w1 ⟨hi, ⟨pre, ho, hpl, hpre⟩, hf, hE⟩
 show G _ _ _ _ _ [(0, .slice av l.length cv), (1, .int .i64 (at_ + ssize (l.take i) : Nat)), (2, .int .i64 (node + widL (l.take i) : Nat)), (3, .int .i64 after), (9, vo), (17, .slice av l.length cv), (18, .int .i64 l.length), (19, .int .i64 i)] _
 have hl := hl0.ext stable_st hE
 refine Gs 6 rfl (G.ite rfl (fun hlt => ?_) (fun hge => ?_))
 ·
  obtain ⟨s, he⟩ : ∃ x, l[i]? = some x := ⟨_, List.getElem?_eq_getElem (by omega)⟩
  have hm := List.mem_of_getElem? he
  obtain ⟨bq, oq, cq, haq, _, hcq, hRq⟩ := hl.at he
  have hone := hRq.one
  have hws := widL_split he
  have hwt := widL_take he
  have hzs := ssize_split he
  have hzt := ssize_take he
  have hwe := s.wid_eq
  have hze := s.size_eq
  have hwl1 := widL_le s.thn
  have hwl2 := widL_le s.els
  obtain ⟨v1, v2, v3, v4, rfl, q1, q2, q3, q4⟩ := hRq.get
  obtain ⟨p2, n2, rfl⟩ := q2.form
  obtain ⟨p3, n3, rfl⟩ := q3.form
  rw [drop_cons he, layL] at hpre
  generalize hA : at_ + ssize (l.take i) = A at *
  generalize hN : node + widL (l.take i) = N at *
  refine Gs 7 rfl (G.ops1 rfl rfl (R.indexS Tryz.runUnderlying24 Tryz.sizeOf86 rfl rfl haq (by omega)) (G.ldK rfl Tryz.isAgg86 Tryz.sizeOf86 hcq rfl (G.mem rfl rfl (M.alloc (cs := _) Tryz.zeroValue86 rfl) ?_)))
  rintro _ w2 ⟨c, rfl, hc, hsc, hBc0, hk2⟩
  refine Gs 1 rfl (G.mem0 rfl (M.storeK Tryz.sizeOf86 rfl rfl rfl rfl hone hBc0 (by simp)) ?_)
  rintro w3 ⟨_, hBc, hkc⟩
  have hk3 : Ext w1 w3 := hk2.trans hkc (fun q hq h => by have h : q = c := h; omega)
  replace hE := hE.ext hk3
  replace ho := own_keep ho hk3 (fun _ _ h => h)
  replace hBc : Blk w3 c [.int .i64 s.act, .int .i64 s.cost, .int .i64 s.var, .int .i64 s.n, .int .i64 s.term.op, .int .i64 s.term.n, v1, .slice p2 s.thn.length n2, .slice p3 s.els.length n3, v4] 86 := hBc
  refine Ga 9 rfl (by omega) (G.ops1 rfl rfl (R.sliceLH Tryz.runUnderlying24 Tryz.sizeOf86 rfl rfl rfl (by omega) (by omega)) (G.call rfl Tryz.call68 (width_ok [s] _ D _ (SlR.mid (hl.ext stable_st hk3) he) (by simp only [ssize]; omega)) ?_))
  rintro _ w4 ⟨rfl, hk4⟩
  replace hE := hE.ext hk4
  replace ho := own_keep ho hk4 (fun _ _ h => h)
  replace hBc := hk4.blk hBc (fun h => h)
  have hw1 : widL [s] = s.wid := by simp [widL]
  rw [hw1]
  refine Ga 20 rfl (by omega) (G.cut (σ := Unit) (fun u => [(0, .slice av l.length cv), (1, .int .i64 A), (2, .int .i64 N), (3, .int .i64 after), (9, vo), (10, .int .i64 i), (11, .pointer (some ⟨c, 0, none⟩)), (12, .int .i64 ((N : Int) + s.wid)), (13, .int .i64 (if (l.drop (i + 1)).isEmpty then after else N + s.wid : Nat)), (17, .slice av l.length cv), (18, .int .i64 l.length), (19, .int .i64 i)]) (fun u => fun w' => w' = w4) ?_ ?_)
  ·
   refine G.ite rfl (fun hl1 => ?_) (fun hl1 => ?_)
   ·
    have e : (l.drop (i + 1)).isEmpty = true := by rw [List.isEmpty_iff, List.drop_eq_nil_iff]; omega
    refine Gs 4 rfl (G.meet (()) (Sub.cons rfl (Sub.cons rfl (Sub.cons rfl (Sub.cons rfl (Sub.cons rfl (Sub.cons rfl (Sub.cons rfl (Sub.cons rfl (Sub.cons (slotI rfl (by rw [if_pos e])) (Sub.of rfl)))))))))) (rfl))
   ·
    have e : ¬ (l.drop (i + 1)).isEmpty = true := by rw [List.isEmpty_iff, List.drop_eq_nil_iff]; omega
    refine Gs 1 rfl (G.meet (()) (Sub.cons rfl (Sub.cons rfl (Sub.cons rfl (Sub.cons rfl (Sub.cons rfl (Sub.cons rfl (Sub.cons rfl (Sub.cons rfl (Sub.cons (slotI rfl (by rw [if_neg e]; omega)) (Sub.of rfl)))))))))) (rfl))
  rintro u w4' hw4
  subst hw4
  generalize hX : (if (l.drop (i + 1)).isEmpty then after else N + s.wid) = X at *
  refine Gs 5 rfl (G.ld rfl Tryz.isAgg80 (hBc.cells 0 _ rfl) (Gs 9 rfl (G.cut (σ := Value) (fun vo' => [(0, .slice av l.length cv), (1, .int .i64 A), (2, .int .i64 N), (3, .int .i64 after), (9, vo'), (10, .int .i64 i), (11, .pointer (some ⟨c, 0, none⟩)), (12, .int .i64 ((N : Int) + s.wid)), (17, .slice av l.length cv), (18, .int .i64 l.length), (19, .int .i64 i)]) (fun vo' => fun w' => w'.ownsRow 0 40 4 vo' (pre ++ s.lay A N X).length ((pre ++ s.lay A N X).flatMap encN) ∧ (pre ++ s.lay A N X).length ≤ widL (l.take (i + 1)) ∧ (∀ g, vo'.ownBlock = some g → w.heap.size ≤ g) ∧ Ext w w') ?_ ?_)))
  ·
   refine G.ite rfl (fun a3 => ?_) (fun a3 => ?_)
   ·
    rw [if_neg (show ¬ s.act = 4 by omega)] at hwe
    refine Gs 12 rfl (G.ld rfl Tryz.isAgg24 (hBc.cells 7 _ rfl) (Gs 4 rfl (G.cut (σ := Unit) (fun u => [(0, .slice av l.length cv), (1, .int .i64 A), (2, .int .i64 N), (3, .int .i64 after), (9, vo), (10, .int .i64 i), (11, .pointer (some ⟨c, 0, none⟩)), (12, .int .i64 ((N : Int) + s.wid)), (13, .int .i64 X), (17, .slice av l.length cv), (18, .int .i64 l.length), (19, .int .i64 i), (14, .int .i64 (if s.thn.isEmpty then X else N + 1 : Nat)), (15, .int .i64 X)]) (fun u => fun w' => w' = w4') ?_ ?_)))
    ·
     refine G.ite rfl (fun g1 => ?_) (fun g1 => ?_)
     · refine Ga 5 rfl (by omega) (G.meet (()) (Sub.cons rfl (Sub.cons rfl (Sub.cons rfl (Sub.cons rfl (Sub.cons rfl (Sub.cons rfl (Sub.cons rfl (Sub.cons rfl (Sub.cons rfl (Sub.cons rfl (Sub.cons rfl (Sub.cons rfl (Sub.cons (slotI rfl (by rw [isEmpty_f g1]; simp)) (Sub.of rfl)))))))))))))) (rfl))
     · refine Gs 1 rfl (G.meet (()) (Sub.cons rfl (Sub.cons rfl (Sub.cons rfl (Sub.cons rfl (Sub.cons rfl (Sub.cons rfl (Sub.cons rfl (Sub.cons rfl (Sub.cons rfl (Sub.cons rfl (Sub.cons rfl (Sub.cons rfl (Sub.cons (slotI rfl (by rw [isEmpty_t g1]; simp)) (Sub.of rfl)))))))))))))) (rfl))
    rintro u w5 hw5
    subst hw5
    refine Gs 5 rfl (G.ld rfl Tryz.isAgg24 (hBc.cells 8 _ rfl) (Gs 4 rfl (G.cut (σ := Unit) (fun u => [(0, .slice av l.length cv), (1, .int .i64 A), (2, .int .i64 N), (3, .int .i64 after), (9, vo), (10, .int .i64 i), (11, .pointer (some ⟨c, 0, none⟩)), (12, .int .i64 ((N : Int) + s.wid)), (13, .int .i64 X), (17, .slice av l.length cv), (18, .int .i64 l.length), (19, .int .i64 i), (14, .int .i64 (if s.thn.isEmpty then X else N + 1 : Nat)), (15, .int .i64 (if s.els.isEmpty then X else N + 1 + widL s.thn : Nat))]) (fun u => fun w' => Ext w5 w') ?_ ?_)))
    ·
     refine G.ite rfl (fun g1 => ?_) (fun g1 => ?_)
     ·
      refine Ga 4 rfl (by omega) (G.ld rfl Tryz.isAgg24 (hBc.cells 7 _ rfl) (G.call rfl Tryz.call68 (width_ok s.thn _ D _ (q2.ext stable_st (hk3.ext hk4)) (by omega)) ?_))
      rintro _ w5 ⟨rfl, hk5⟩
      refine Ga 3 rfl (by omega) (G.meet (()) (Sub.cons rfl (Sub.cons rfl (Sub.cons rfl (Sub.cons rfl (Sub.cons rfl (Sub.cons rfl (Sub.cons rfl (Sub.cons rfl (Sub.cons rfl (Sub.cons rfl (Sub.cons rfl (Sub.cons rfl (Sub.cons rfl (Sub.cons (slotI rfl (by rw [isEmpty_f g1]; simp)) Sub.nil)))))))))))))) (hk5))
     · refine Gs 1 rfl (G.meet (()) (Sub.cons rfl (Sub.cons rfl (Sub.cons rfl (Sub.cons rfl (Sub.cons rfl (Sub.cons rfl (Sub.cons rfl (Sub.cons rfl (Sub.cons rfl (Sub.cons rfl (Sub.cons rfl (Sub.cons rfl (Sub.cons rfl (Sub.cons (slotI rfl (by rw [isEmpty_t g1]; simp)) Sub.nil)))))))))))))) (Keep.refl _ _))
    rintro u w6 hk5
    have hE5 := hE.ext hk5
    have ho5 := own_keep ho hk5 (fun _ _ h => h)
    have hBc5 := hk5.blk hBc (fun h => h)
    refine Gs 7 rfl (G.ops1 rfl rfl (R.build (v := .agg #[.int .i64 3, .int .i64 A, .int .i64 (if s.thn.isEmpty then X else N + 1 : Nat), .int .i64 (if s.els.isEmpty then X else N + 1 + widL s.thn : Nat)]) [(0, _), (1, _), (2, _), (3, _)] rfl (fun _ => by kernel_rfl)) (G.mem rfl rfl (M.buildSlice (cs := encN ⟨3, A, (if s.thn.isEmpty then X else N + 1 : Nat), (if s.els.isEmpty then X else N + 1 + widL s.thn : Nat)⟩) [(0, _)] Tryz.runUnderlying29 Tryz.sizeOf40 Tryz.zeroValue40 (by decide) rfl (by kernel_rfl)) ?_))
    rintro _ w6 ⟨g6, rfl, hg6, hs6, hB6, hk6⟩
    have hE6 := hE5.ext hk6
    have ho6 := own_keep ho5 hk6 (fun _ _ h => h)
    have hBc6 := hk6.blk hBc5 (fun h => h)
    refine G.mem rfl rfl (M.append Tryz.underlying29 Tryz.el40 rfl (by decide) rfl rfl ho6 rfl (Cells.add hB6.cells) (encN_one _) (by omega) (by omega)) ?_
    rintro vo7 w7 ⟨ho7, hf7, hk7, _⟩
    obtain ⟨hE7, hfr7⟩ := app_ext hE6 hf hk7 hf7 ho6
    have hBc7 := app_blk ho6 hk7 hBc6 (by decide)
    have hA7 : Above w.heap.size w1 w7 := Above.then (Above.of_ext ((hk3.ext hk4).ext (hk5.ext hk6))) (Above.of_keep hk7 hf)
    refine Gs 7 rfl (G.ld rfl Tryz.isAgg24 (hBc7.cells 7 _ rfl) (Ga 5 rfl (by omega) (G.call rfl Tryz.call69 ((ih s hm).1 _ D w7 (A + 1) (N + 1) X (hA7.sl stable_st q2 hDw) (by omega) (by omega) (by omega)) ?_)))
    rintro r8 w8 ⟨hr8, hrf8, hk8⟩
    have hE8 := hE7.ext hk8
    have ho8 := own_keep ho7 hk8 (fun _ _ h => h)
    have hBc8 := hk8.blk hBc7 (fun h => h)
    have hll8 := lay_len_le s.thn (A + 1) (N + 1) X
    refine G.mem rfl rfl (M.appendO Tryz.underlying29 Tryz.el40 rfl (by decide) rfl rfl ho8 hr8 (encNs_one _) (by omega) (by omega)) ?_
    rintro vo9 w9 ⟨ho9, hf9, hk9⟩
    obtain ⟨hE9, hfr9⟩ := app_ext hE8 hfr7 hk9 hf9 ho8
    have hBc9 := app_blk ho8 hk9 hBc8 (by decide)
    have hA9 := Above.then (hA7.ext' hk8) (Above.of_keep hk9 hfr7)
    refine Gs 3 rfl (Dw (fun q => Blk q c [.int .i64 s.act, .int .i64 s.cost, .int .i64 s.var, .int .i64 s.n, .int .i64 s.term.op, .int .i64 s.term.n, v1, .slice p2 s.thn.length n2, .slice p3 s.els.length n3, v4] 86) [] (fun x0 xk0 _ => ?_))
    have xE0 := hE9.ext xk0
    have xA0 := hA9.ext' xk0
    have xo0 := own_keep ho9 xk0 (fun _ _ h => h)
    have xB0 := xk0.blk hBc9 (fun h => h)
    refine Ds [0, 1] (by kernel_rfl) rfl (WD.take 2 rfl (by kernel_rfl) rfl rfl rfl xB0 (fun w1 hw1 => R.load Tryz.isAgg24 rfl (hw1.cells 8 _ rfl)) (Da [3, 4, 5] (by kernel_rfl) rfl (by omega) (WD.take 6 rfl (by kernel_rfl) rfl rfl rfl xB0 (fun w1 hw1 => R.load Tryz.isAgg24 rfl (hw1.cells 7 _ rfl)) (Da [9, 10, 11] (by kernel_rfl) rfl (by omega) (WD.take 12 rfl (by kernel_rfl) rfl rfl rfl xB0 (fun w1 hw1 => R.load Tryz.isAgg24 rfl (hw1.cells 7 _ rfl)) (Ds [15] (by kernel_rfl) rfl (WD.call 7 rfl (by kernel_rfl) rfl rfl rfl (F.call (vs := [_]) Tryz.call23 rfl) (refSize_ok s.thn _ D x0 (xA0.sl stable_st q2 hDw) (by omega)) ?_)))))))
    rintro _ x1 ⟨rfl, xk1⟩
    have xE1 := xE0.ext xk1
    have xA1 := xA0.ext' xk1
    have xo1 := own_keep xo0 xk1 (fun _ _ h => h)
    have xB1 := xk1.blk xB0 (fun h => h)
    refine ⟨fun _ => xB1, ?_⟩
    refine Da [8] (by kernel_rfl) rfl (by omega) (WD.call 13 rfl (by kernel_rfl) rfl rfl rfl (F.call (vs := [_]) Tryz.call68 rfl) (width_ok s.thn _ D x1 (xA1.sl stable_st q2 hDw) (by omega)) ?_)
    rintro _ x2 ⟨rfl, xk2⟩
    have xE2 := xE1.ext xk2
    have xA2 := xA1.ext' xk2
    have xo2 := own_keep xo1 xk2 (fun _ _ h => h)
    have xB2 := xk2.blk xB1 (fun h => h)
    refine ⟨fun _ => xB2, ?_⟩
    refine Da [14] (by kernel_rfl) rfl (by omega) (WD.call 16 rfl (by kernel_rfl) rfl rfl rfl (F.call (vs := [_, _, _, _]) Tryz.call69 rfl) ((ih s hm).2 _ D x2 (A + 1 + ssize s.thn) (N + 1 + widL s.thn) X (xA2.sl stable_st q3 hDw) (by omega) (by omega) (by omega)) ?_)
    rintro r3 x3 ⟨xr3, xrf3, xk3⟩
    have xE3 := xE2.ext xk3
    have xo3 := own_keep xo2 xk3 (fun _ _ h => h)
    have xB3 := xk3.blk xB2 (fun h => h)
    refine ⟨fun _ => xB3, ?_⟩
    have hll3 := lay_len_le s.els (A + 1 + ssize s.thn) (N + 1 + widL s.thn) X
    refine WD.mem 17 rfl (by kernel_rfl) rfl rfl rfl (M.appendO Tryz.underlying29 Tryz.el40 rfl (by decide) rfl rfl xo3 xr3 (encNs_one _) (by omega) (by omega)) ?_
    rintro vo4 x4 ⟨xo4, xf4, xk4⟩
    obtain ⟨xE4, xfr4⟩ := app_ext xE3 hfr9 xk4 xf4 xo3
    have xB4 := app_blk xo3 xk4 xB3 (by decide)
    refine ⟨fun _ => xB4, ?_⟩
    refine Ds [18] (by kernel_rfl) rfl (G.done (by kernel_rfl) ?_ _)
    have e5 : pre ++ s.lay A N X = pre ++ [⟨3, A, (if s.thn.isEmpty then X else N + 1 : Nat), (if s.els.isEmpty then X else N + 1 + widL s.thn : Nat)⟩] ++ layL s.thn (A + 1) (N + 1) X ++ layL s.els (A + 1 + ssize s.thn) (N + 1 + widL s.thn) X := by
     rw [s.lay_eq, if_pos a3]
     simp only [List.append_assoc, List.cons_append, List.nil_append, apply_ite (Nat.cast (R := Int))]
    have e6 : (pre ++ s.lay A N X).length = pre.length + 1 + (layL s.thn (A + 1) (N + 1) X).length + (layL s.els (A + 1 + ssize s.thn) (N + 1 + widL s.thn) X).length := by rw [e5]; simp only [List.length_append, List.length_singleton]
    refine G.meet (vo4) (Sub.of rfl) (⟨?_, by rw [e6]; omega, xfr4, xE4⟩)
    rw [e6, e5, List.flatMap_append, List.flatMap_append, List.flatMap_append, flatN1]
    exact xo4
   ·
    refine Gs 6 rfl (G.ite rfl (fun a4 => ?_) (fun a4 => ?_))
    ·
     rw [if_pos a4] at hwe
     refine Ga 11 rfl (by omega) (G.ld rfl Tryz.isAgg24 (hBc.cells 7 _ rfl) (Gs 4 rfl (G.cut (σ := Unit) (fun u => [(0, .slice av l.length cv), (1, .int .i64 A), (2, .int .i64 N), (3, .int .i64 after), (9, vo), (10, .int .i64 i), (11, .pointer (some ⟨c, 0, none⟩)), (12, .int .i64 ((N : Int) + s.wid)), (13, .int .i64 X), (17, .slice av l.length cv), (18, .int .i64 l.length), (19, .int .i64 i), (16, .int .i64 (if s.thn.isEmpty then N + 1 else N + 2 : Nat))]) (fun u => fun w' => w' = w4') ?_ ?_)))
     ·
      refine G.ite rfl (fun g1 => ?_) (fun g1 => ?_)
      · refine Ga 5 rfl (by omega) (G.meet (()) (Sub.cons rfl (Sub.cons rfl (Sub.cons rfl (Sub.cons rfl (Sub.cons rfl (Sub.cons rfl (Sub.cons rfl (Sub.cons rfl (Sub.cons rfl (Sub.cons rfl (Sub.cons rfl (Sub.cons rfl (Sub.cons (slotI rfl (by rw [isEmpty_f g1]; simp)) Sub.nil))))))))))))) (rfl))
      · refine Gs 1 rfl (G.meet (()) (Sub.cons rfl (Sub.cons rfl (Sub.cons rfl (Sub.cons rfl (Sub.cons rfl (Sub.cons rfl (Sub.cons rfl (Sub.cons rfl (Sub.cons rfl (Sub.cons rfl (Sub.cons rfl (Sub.cons rfl (Sub.cons (slotI rfl (by rw [isEmpty_t g1]; simp)) Sub.nil))))))))))))) (rfl))
     rintro u w5 hw5
     subst hw5
     refine Ga 7 rfl (by omega) (G.ops1 rfl rfl (R.build (v := .agg #[.int .i64 4, .int .i64 A, .int .i64 ((N : Int) + 1), .int .i64 (-1)]) [(0, _), (1, _), (2, _), (3, _)] rfl (fun _ => by kernel_rfl)) (Gs 3 rfl (G.ops1 rfl rfl (R.build (v := .agg #[.int .i64 5, .int .i64 A, .int .i64 (if s.thn.isEmpty then N + 1 else N + 2 : Nat), .int .i64 X]) [(0, _), (1, _), (2, _), (3, _)] rfl (fun _ => by kernel_rfl)) (G.mem rfl rfl (M.buildSlice (cs := [(⟨4, A, (N + 1 : Nat), -1⟩ : Nd), ⟨5, A, (if s.thn.isEmpty then N + 1 else N + 2 : Nat), X⟩].flatMap encN) [(0, _), (1, _)] Tryz.runUnderlying29 Tryz.sizeOf40 Tryz.zeroValue40 (by decide) rfl (by kernel_rfl)) ?_))))
     rintro _ w6 ⟨g6, rfl, hg6, hs6, hB6, hk6⟩
     have hE6 := hE.ext hk6
     have ho6 := own_keep ho hk6 (fun _ _ h => h)
     have hBc6 := hk6.blk hBc (fun h => h)
     refine G.mem rfl rfl (M.append Tryz.underlying29 Tryz.el40 rfl (by decide) rfl rfl ho6 rfl (Cells.add hB6.cells) (encNs_one _) (by omega) (by omega)) ?_
     rintro vo7 w7 ⟨ho7, hf7, hk7, _⟩
     obtain ⟨hE7, hfr7⟩ := app_ext hE6 hf hk7 hf7 ho6
     have hBc7 := app_blk ho6 hk7 hBc6 (by decide)
     have hA7 : Above w.heap.size w1 w7 := Above.then (Above.of_ext ((hk3.ext hk4).ext hk6)) (Above.of_keep hk7 hf)
     refine Gs 6 rfl (G.ld rfl Tryz.isAgg24 (hBc7.cells 7 _ rfl) (Ga 6 rfl (by omega) (G.call rfl Tryz.call69 ((ih s hm).1 _ D w7 (A + 1) (N + 2) (N + 1) (hA7.sl stable_st q2 hDw) (by omega) (by omega) (by omega)) ?_)))
     rintro r8 w8 ⟨hr8, hrf8, hk8⟩
     have hE8 := hE7.ext hk8
     have ho8 := own_keep ho7 hk8 (fun _ _ h => h)
     have hll8 := lay_len_le s.thn (A + 1) (N + 2) (N + 1)
     refine G.mem rfl rfl (M.appendO Tryz.underlying29 Tryz.el40 rfl (by decide) rfl rfl ho8 hr8 (encNs_one _) (by omega) (by omega)) ?_
     rintro vo9 w9 ⟨ho9, hf9, hk9⟩
     obtain ⟨hE9, hfr9⟩ := app_ext hE8 hfr7 hk9 hf9 ho8
     refine Gs 2 rfl ?_
     have e5 : pre ++ s.lay A N X = pre ++ [⟨4, A, (N + 1 : Nat), -1⟩, ⟨5, A, (if s.thn.isEmpty then N + 1 else N + 2 : Nat), X⟩] ++ layL s.thn (A + 1) (N + 2) (N + 1) := by
      rw [s.lay_eq, if_neg a3, if_pos a4]
      simp only [List.append_assoc, List.cons_append, List.nil_append, apply_ite (Nat.cast (R := Int))]
     have e6 : (pre ++ s.lay A N X).length = pre.length + 2 + (layL s.thn (A + 1) (N + 2) (N + 1)).length := by rw [e5]; simp only [List.length_append, List.length_cons, List.length_nil]
     refine G.meet (vo9) (Sub.of rfl) (⟨?_, by rw [e6]; omega, hfr9, hE9⟩)
     rw [e6, e5, List.flatMap_append, List.flatMap_append]
     exact ho9
    ·
     rw [if_neg a4] at hwe
     refine Gs 4 rfl (G.ops1 rfl rfl (R.build (v := .agg #[.int .i64 2, .int .i64 A, .int .i64 X, .int .i64 (-1)]) [(0, _), (1, _), (2, _), (3, _)] rfl (fun _ => by kernel_rfl)) (G.mem rfl rfl (M.buildSlice (cs := encN ⟨2, A, X, -1⟩) [(0, _)] Tryz.runUnderlying29 Tryz.sizeOf40 Tryz.zeroValue40 (by decide) rfl (by kernel_rfl)) ?_))
     rintro _ w6 ⟨g6, rfl, hg6, hs6, hB6, hk6⟩
     have hE6 := hE.ext hk6
     have ho6 := own_keep ho hk6 (fun _ _ h => h)
     refine G.mem rfl rfl (M.append Tryz.underlying29 Tryz.el40 rfl (by decide) rfl rfl ho6 rfl (Cells.add hB6.cells) (encN_one _) (by omega) (by omega)) ?_
     rintro vo7 w7 ⟨ho7, hf7, hk7, _⟩
     obtain ⟨hE7, hfr7⟩ := app_ext hE6 hf hk7 hf7 ho6
     refine Gs 2 rfl ?_
     have e5 : pre ++ s.lay A N X = pre ++ [⟨2, A, X, -1⟩] := by rw [s.lay_eq, if_neg a3, if_neg a4]
     have e6 : (pre ++ s.lay A N X).length = pre.length + 1 := by rw [e5]; simp
     refine G.meet (vo7) (Sub.of rfl) (⟨?_, by rw [e6]; omega, hfr7, hE7⟩)
     rw [e6, e5, List.flatMap_append, flatN1]
     exact ho7
  ·
   rintro vo' w5 ⟨ho5, hpl5, hf5, hE5⟩
   show G _ _ _ _ _ [(0, .slice av l.length cv), (1, .int .i64 A), (2, .int .i64 N), (3, .int .i64 after), (9, vo'), (10, .int .i64 i), (11, .pointer (some ⟨c, 0, none⟩)), (12, .int .i64 ((N : Int) + s.wid)), (17, .slice av l.length cv), (18, .int .i64 l.length), (19, .int .i64 i)] _
   have hl5 := hl0.ext stable_st hE5
   refine Ga 9 rfl (by omega) (G.ops1 rfl rfl (R.sliceLH Tryz.runUnderlying24 Tryz.sizeOf86 rfl rfl rfl (by omega) (by omega)) (G.call rfl Tryz.call23 (refSize_ok [s] _ D _ (SlR.mid hl5 he) (by simp only [ssize]; omega)) ?_))
   rintro _ w6 ⟨rfl, hk6⟩
   have hz1 : ssize [s] = s.size := by simp [ssize]
   rw [hz1]
   refine Ga 14 rfl (by omega) (G.back ((i + 1, vo')) (Sub.cons rfl (Sub.cons (slotI rfl (by omega)) (Sub.cons (slotI rfl (by omega)) (Sub.of rfl)))) (⟨by omega, ⟨pre ++ s.lay A N X, own_keep ho5 hk6 (fun _ _ h => h), hpl5, ?_⟩, hf5, hE5.ext hk6⟩) (by first | omega | (dsimp only; omega)))
   rw [← hpre, List.append_assoc, show at_ + ssize (l.take (i + 1)) = A + s.size by omega, show node + widL (l.take (i + 1)) = N + s.wid by omega]
 ·
  have hii : i = l.length := by omega
  subst hii
  rw [List.drop_length, layL, List.append_nil] at hpre
  refine Gs 12 rfl (G.ret1 Tryz.results69 rfl ⟨_, rfl, by rw [← hpre]; exact ho, hf, hE⟩)
theorem refBuild_ok (f : Fl) (v1 v2 v3 : Value) (D : Nat → Prop) (w : World) (hf : RFl D w f v1 v2 v3) (hsz : ssize f.body ≤ 10000) :
  Calls Tryz.prog 20 #[.agg #[v1, v2, v3]] w (Ret fun r w' => (∃ nv, r = .agg #[nv] ∧ SlR 4 RNd (fun b => w.heap.size ≤ b) w' nv (cfgN f)) ∧ Ext w w') := by
 have hwl := widL_le f.body
 have hll := lay_len_le f.body 0 1 (1 + widL f.body)
 refine G.in1 Tryz.func20 rfl Tryz.ntmps20 rfl (Gs 2 rfl (G.mem rfl rfl (M.box rfl rfl) ?_))
 rintro _ w1 ⟨c, rfl, hc, hs1, hBc, hk1⟩
 refine G.mem rfl rfl (M.alloc (cs := [.slice none 0 0]) Tryz.zeroValue31 rfl) ?_
 rintro _ w2 ⟨r, rfl, hr, hs2, hBr, hk2⟩
 replace hBc := hk2.blk hBc (fun h => h)
 have hE2 := hk1.ext hk2
 refine Gs 5 rfl (G.ld rfl Tryz.isAgg24 (hBc.cells 2 _ rfl) (G.call rfl Tryz.call68 (width_ok f.body _ D w2 (hf.body.ext stable_st hE2) (by omega)) ?_))
 rintro _ w3 ⟨rfl, hk3⟩
 replace hBc := hk3.blk hBc (fun h => h)
 replace hBr := hk3.blk hBr (fun h => h)
 have hE3 := hE2.ext hk3
 refine Ga 6 rfl (by omega) (G.ops1 rfl rfl (R.build (v := .agg #[.int .i64 0, .int .i64 (-1), .int .i64 1, .int .i64 (-1)]) [(0, _), (1, _), (2, _), (3, _)] rfl (fun _ => by kernel_rfl)) (G.mem rfl rfl (M.buildSlice (cs := encN ⟨0, -1, 1, -1⟩) [(0, _)] Tryz.runUnderlying29 Tryz.sizeOf40 Tryz.zeroValue40 (by decide) rfl (by kernel_rfl)) ?_))
 rintro _ w4 ⟨g4, rfl, hg4, hs4, hB4, hk4⟩
 replace hBc := hk4.blk hBc (fun h => h)
 replace hBr := hk4.blk hBr (fun h => h)
 have hE4 := hE3.ext hk4
 have ho4 : w4.ownsRow 0 40 4 (.slice (some ⟨g4, 0, none⟩) 1 1) 1 (encN ⟨0, -1, 1, -1⟩) := own_blk (k := 4) (n := 1) (cap := 1) hB4 (Nat.le_refl _) (by decide) rfl
 have hf4 : ∀ g, Value.ownBlock (.slice (some ⟨g4, 0, none⟩) 1 1) = some g → w.heap.size ≤ g := fun g hg => by
  obtain rfl : g4 = g := Option.some.inj hg
  have := hE3.size; omega
 refine Gs 7 rfl (G.ld rfl Tryz.isAgg24 (hBc.cells 2 _ rfl) (Gs 1 rfl (G.call rfl Tryz.call69 (lay_ok f.body _ D w4 0 1 (1 + widL f.body) (hf.body.ext stable_st hE4) hsz (by omega) (by omega)) ?_)))
 rintro r5 w5 ⟨hr5, hrf5, hk5⟩
 replace hBr := hk5.blk hBr (fun h => h)
 have hE5 := hE4.ext hk5
 have ho5 := own_keep ho4 hk5 (fun _ _ h => h)
 refine G.mem rfl rfl (M.appendO Tryz.underlying29 Tryz.el40 rfl (by decide) rfl rfl ho5 hr5 (encNs_one _) (by omega) (by omega)) ?_
 rintro v6 w6 ⟨ho6, hf6, hk6⟩
 obtain ⟨hE6, hfr6⟩ := app_ext hE5 hf4 hk6 hf6 ho5
 replace hBr := app_blk ho5 hk6 hBr (by decide)
 refine Gs 6 rfl (G.ops1 rfl rfl (R.build (v := .agg #[.int .i64 1, .int .i64 (-1), .int .i64 (-1), .int .i64 (-1)]) [(0, _), (1, _), (2, _), (3, _)] rfl (fun _ => by kernel_rfl)) (G.mem rfl rfl (M.buildSlice (cs := encN ⟨1, -1, -1, -1⟩) [(0, _)] Tryz.runUnderlying29 Tryz.sizeOf40 Tryz.zeroValue40 (by decide) rfl (by kernel_rfl)) ?_))
 rintro _ w7 ⟨g7, rfl, hg7, hs7, hB7, hk7⟩
 replace hBr := hk7.blk hBr (fun h => h)
 have hE7 := hE6.ext hk7
 have ho7 := own_keep ho6 hk7 (fun _ _ h => h)
 refine G.mem rfl rfl (M.append Tryz.underlying29 Tryz.el40 rfl (by decide) rfl rfl ho7 rfl (Cells.add hB7.cells) (encN_one _) (by omega) (by omega)) ?_
 rintro v8 w8 ⟨ho8, hf8, hk8, _⟩
 obtain ⟨hE8, hfr8⟩ := app_ext hE7 hfr6 hk8 hf8 ho7
 replace hBr := app_blk ho7 hk8 hBr (by decide)
 obtain ⟨av, cv, rfl⟩ := own_form ho8
 refine G.ops1 rfl rfl (R.build (v := .agg #[.slice av (1 + (layL f.body 0 1 (1 + widL f.body)).length + 1) cv]) [(0, _)] rfl (fun _ => by kernel_rfl)) (G.mem0 rfl (M.storeK Tryz.sizeOf31 rfl rfl rfl rfl (by simp [Value.oneCell']) hBr (by simp)) ?_)
 rintro wf ⟨_, hBf, hkf⟩
 have hown' := own_keep ho8 hkf (fun g hg h => by
  obtain ⟨cs', hb'⟩ := own_blkty ho8 hg
  exact hb'.ne hBr (by decide) h)
 refine Gs 3 rfl (G.retC Tryz.results20 rfl (run_loadK Tryz.isAgg31 Tryz.sizeOf31 rfl hBf.cells) ?_)
 refine ⟨_, rfl, ⟨_, rfl, ?_⟩, hE8.trans hkf (fun q hq h => by have h : q = r := h; have := hk1.size; omega)⟩
 refine SlR.ofRowK (by decide) encN encN_len (fun _ _ => rfl) (n := 1 + (layL f.body 0 1 (1 + widL f.body)).length + 1) (e := 40) ?_ hfr8
 unfold cfgN
 rw [List.flatMap_cons, List.flatMap_append, flatN1, ← List.append_assoc]
 exact hown'
theorem checked_ok (f : Fl) (g : List Nd) (v1 v2 v3 gv : Value) (D Dg : Nat → Prop) (w : World) (hf : RFl D w f v1 v2 v3) (hg : SlR 4 RNd Dg w gv g) (hsz : snodes f.body + hnodes f.hatches ≤ 1024) (hbk : sbulk f.body ≤ 1000000) :
  Calls Tryz.prog 21 #[.agg #[v1, v2, v3], .agg #[gv]] w (Ret fun r w' => r = .int .i64 (gcheckN f g) ∧ Ext w w') := by
 have hss := ssize_le_of hsz
 have hE := Keep.refl (fun _ => False) w
 obtain ⟨ag, cg, rfl⟩ := hg.form
 refine G.in2 Tryz.func21 rfl Tryz.ntmps21 rfl (Gs 2 rfl (G.mem rfl rfl (M.box rfl rfl) ?_))
 rintro _ w_b ⟨b, rfl, hg_b, hs_b, hB_b, hk_b⟩
 have hge_b : _ ≤ b := Nat.le_trans hE.size (Nat.le_of_eq hg_b.symm)
 obtain ⟨hE, hf, hg⟩ := Tr3 hk_b hE hf hg
 refine G.mem rfl rfl (M.box rfl rfl) ?_
 rintro _ w_b2 ⟨b2, rfl, hg_b2, hs_b2, hB_b2, hk_b2⟩
 have hn_b_b2 : b ≠ b2 := by have := hB_b.lt; omega
 have hge_b2 : _ ≤ b2 := Nat.le_trans hE.size (Nat.le_of_eq hg_b2.symm)
 obtain ⟨hE, hf, hg, hB_b⟩ := Tr4 hk_b2 hE hf hg hB_b
 refine Gs 6 rfl (G.ldK rfl Tryz.isAgg26 Tryz.sizeOf26 hB_b.cells rfl (G.call rfl Tryz.call17 (refCheck_ok f _ _ _ D _ hf hsz hbk) ?_))
 rintro _ wz1 ⟨rfl, hz1⟩
 obtain ⟨hE, hf, hg, hB_b, hB_b2⟩ := Tr5 hz1 hE hf hg hB_b hB_b2
 refine Gs 9 rfl (G.ite rfl (fun h0 => ?_) (fun h0 => ?_))
 · refine Gs 8 rfl (G.ret1 Tryz.results21 rfl ⟨_, rfl, by rw [gcheckN, if_pos h0], hE⟩)
 ·
  have h0' : checkN f = 0 := by omega
  refine Gs 4 rfl (Dw (fun q => Ext wz1 q) [] (fun wd2 hD _ => ?_))
  refine Ds [0] (by kernel_rfl) rfl (WD.take 1 rfl (by kernel_rfl) rfl rfl rfl hD (fun w1 hw1 => R.load Tryz.isAgg29 rfl ((hw1.blk hB_b2 (fun h => h)).cells 0 _ rfl)) (WD.take 2 rfl (by kernel_rfl) rfl rfl rfl hD (fun w1 hw1 => R.loadK Tryz.isAgg26 Tryz.sizeOf26 rfl (by rfl) (hw1.blk hB_b (fun h => h)).cells) (WD.call 3 rfl (by kernel_rfl) rfl rfl rfl (F.call (vs := [_]) Tryz.call20 rfl) (refBuild_ok f _ _ _ D _ (hf.ext hD) (by omega)) ?_)))
  rintro _ wz3 ⟨⟨nv, rfl, hnv⟩, hz3⟩
  replace hD := hD.ext hz3
  refine ⟨fun _ => hD, ?_⟩
  refine WD.takeW 4 rfl (by kernel_rfl) rfl rfl rfl (fun w1 => R.field Tryz.runUnderlying31 rfl Tryz.isAgg29 rfl rfl) (WD.call 5 rfl (by kernel_rfl) rfl rfl rfl (F.call (vs := [_, _]) Tryz.call19 rfl) (eqNodes_ok g (cfgN f) _ _ Dg _ _ (hg.ext stable_nd hD) hnv) ?_)
  rintro _ wz4 ⟨rfl, hz4⟩
  replace hD := hD.ext hz4
  refine ⟨fun _ => hD, ?_⟩
  refine WD.takeW 6 rfl (by kernel_rfl) rfl rfl rfl (fun w1 => R.notU rfl (by first | exact not_decide_eq | rfl)) (G.done (by kernel_rfl) ?_ _)
  obtain ⟨hE, hf, hg, hB_b, hB_b2⟩ := Tr5 hD hE hf hg hB_b hB_b2
  refine Gs 1 rfl (G.ite rfl (fun h1 => ?_) (fun h1 => ?_))
  · refine Gs 7 rfl (G.ret1 Tryz.results21 rfl ⟨_, rfl, by rw [gcheckN, if_neg (by omega), if_neg (fun h => h1 h.symm)], hE⟩)
  · refine Gs 8 rfl (G.ret1 Tryz.results21 rfl ⟨_, rfl, by rw [gcheckN, if_neg (by omega), if_pos (Decidable.not_not.1 h1).symm], hE⟩)
theorem few_size {f : Fl} (h : (f.vars.length : Int) ≤ 70 ∧ (f.hatches.length : Int) ≤ 70 ∧ ((sbulk f.body + hnodes f.hatches : Nat) : Int) ≤ 300) : snodes f.body + hnodes f.hatches ≤ 1024 ∧ sbulk f.body ≤ 1000000 ∧ ssize f.body ≤ 300 := by
 have h1 := sbulk_snodes f.body
 have h2 := ssize_snodes f.body
 omega
def InE (ns : List Nd) (n e1 e2 : Nat) : Prop := ∀ x ∈ ns, ∀ to, to = x.next ∨ to = x.other → to = -1 ∨ to = (e1 : Int) ∨ to = (e2 : Int) ∨ ((n : Int) ≤ to ∧ to < (n + ns.length : Nat))
structure LoopAt (ns : List Nd) (n j : Nat) (y : Nd) (E : Nat) : Prop where
 pos : 0 < j
 lt : n + j < E
 le : E ≤ n + ns.length
 out : y.other < ((n + j : Nat) : Int) ∨ (E : Int) ≤ y.other
 only : ∀ (i : Nat) x, ns[i]? = some x → ∀ to, to = x.next ∨ to = x.other → ((n + j : Nat) : Int) ≤ to → to < (E : Int) → (j ≤ i ∧ n + i < E) ∨ (i + 1 = j ∧ x.kind = 4 ∧ to = ((n + j : Nat) : Int))
def Loops (ns : List Nd) (n : Nat) : Prop := ∀ (j : Nat) y, ns[j]? = some y → y.kind = 5 → ∃ E, LoopAt ns n j y E
theorem InE.append {A B : List Nd} {n e1 e2 f1 f2 g1 g2 : Nat} (hA : InE A n e1 e2) (hB : InE B (n + A.length) f1 f2) (he : ∀ e, e = e1 ∨ e = e2 → e = g1 ∨ e = g2 ∨ n + A.length ≤ e ∧ e < n + A.length + B.length) (hf : ∀ e, e = f1 ∨ e = f2 → e = g1 ∨ e = g2 ∨ n ≤ e ∧ e < n + A.length) : InE (A ++ B) n g1 g2 := by
 intro x hx to h
 rw [List.length_append]
 have p1 := he e1 (.inl rfl)
 have p2 := he e2 (.inr rfl)
 have q1 := hf f1 (.inl rfl)
 have q2 := hf f2 (.inr rfl)
 rcases List.mem_append.1 hx with hx | hx
 ·
  have := hA x hx to h
  omega
 ·
  have := hB x hx to h
  omega
theorem Loops.append {A B : List Nd} {n e1 e2 f1 f2 : Nat} (lA : Loops A n) (lB : Loops B (n + A.length)) (hA : InE A n e1 e2) (hB : InE B (n + A.length) f1 f2) (h1 : ∀ e, e = e1 ∨ e = e2 → e ≤ n + A.length ∨ n + A.length + B.length ≤ e) (h2 : ∀ e, e = f1 ∨ e = f2 → e < n ∨ n + A.length + B.length ≤ e) : Loops (A ++ B) n := by
 have p1 := h1 e1 (.inl rfl)
 have p2 := h1 e2 (.inr rfl)
 have q1 := h2 f1 (.inl rfl)
 have q2 := h2 f2 (.inr rfl)
 intro j y hy hk
 by_cases hj : j < A.length
 ·
  rw [List.getElem?_append_left hj] at hy
  obtain ⟨E, p1, p2, p3, p4, p5⟩ := lA j y hy hk
  refine ⟨E, p1, p2, by rw [List.length_append]; omega, p4, fun i x hx to h hl hu => ?_⟩
  by_cases hi : i < A.length
  ·
   rw [List.getElem?_append_left hi] at hx
   exact p5 i x hx to h hl hu
  ·
   rw [List.getElem?_append_right (by omega)] at hx
   have := hB x (List.mem_of_getElem? hx) to h
   omega
 ·
  rw [List.getElem?_append_right (by omega)] at hy
  obtain ⟨E, p1, p2, p3, p4, p5⟩ := lB _ y hy hk
  refine ⟨E, by omega, by omega, by rw [List.length_append]; omega, by omega, fun i x hx to h hl hu => ?_⟩
  by_cases hi : i < A.length
  ·
   rw [List.getElem?_append_left hi] at hx
   have := hA x (List.mem_of_getElem? hx) to h
   omega
  ·
   rw [List.getElem?_append_right (by omega)] at hx
   rcases p5 _ x hx to h (by omega) hu with h | h
   · exact .inl (by omega)
   · exact .inr ⟨by omega, h.2.1, by omega⟩
theorem Loops.single {x : Nd} {n : Nat} (h : x.kind ≠ 5) : Loops [x] n := by
 intro j y hy hk
 cases j with
 | zero => simp at hy; subst hy; exact absurd hk h
 | succ j => simp at hy
theorem lay_pos {l : List St} (h : l.isEmpty = false) : 1 ≤ widL l := by
 cases l with
 | nil => simp at h
 | cons s t => have := s.wid_eq; simp only [widL]; omega
theorem lay_loops (l : List St) : plainL l = true → ∀ a n e : Nat, (e < n ∨ n + widL l ≤ e) → InE (layL l a n e) n e e ∧ Loops (layL l a n e) n := by
 induction l using Sts.ind with
 | h l ih =>
 intro hp
 have key : ∀ r : List St, (∀ x ∈ r, x ∈ l) → ∀ a n e : Nat, (e < n ∨ n + widL r ≤ e) → InE (layL r a n e) n e e ∧ Loops (layL r a n e) n := by
  intro r
  induction r with
  | nil => intro _ a n e _; exact ⟨fun x hx => by simp [layL] at hx, fun j y hy => by simp [layL] at hy⟩
  | cons s r ihr =>
   intro hm a n e hne
   have hs := plainL_mem hp s (hm s (List.mem_cons_self ..))
   have hr : plainL r = true := plainL_of fun y hy => plainL_mem hp y (hm y (List.mem_cons_of_mem _ hy))
   have hps := hs
   rw [s.plainB_eq, Bool.and_eq_true, Bool.and_eq_true] at hs
   have h1 := (ih s (hm s (List.mem_cons_self ..))).1 hs.1.2
   have h2 := (ih s (hm s (List.mem_cons_self ..))).2 hs.2
   have hw := s.wid_eq
   simp only [widL] at hne
   have hlr := layL_len r hr (a + s.size) (n + s.wid) e
   have hlen : (s.lay a n (if r.isEmpty then e else n + s.wid)).length = s.wid := by
    have h1 := layL_len [s] (by rw [plainL, hps]; rfl) a n (if r.isEmpty then e else n + s.wid)
    simpa [layL, widL] using h1
   obtain ⟨r1, r2⟩ := ihr (fun y hy => hm y (List.mem_cons_of_mem _ hy)) (a + s.size) (n + s.wid) e (by omega)
   rw [layL]
   have he' : (if r.isEmpty then e else n + s.wid) = e ∨ (if r.isEmpty then e else n + s.wid) = n + s.wid ∧ 1 ≤ widL r := by
    cases hre : r.isEmpty
    · exact .inr ⟨by simp, lay_pos hre⟩
    · exact .inl (by simp)
   generalize (if r.isEmpty then e else n + s.wid) = e' at hlen he'
   have hne' : e' < n ∨ n + s.wid ≤ e' := by omega
   have hS : InE (s.lay a n e') n e' e' ∧ Loops (s.lay a n e') n := by
    rw [s.lay_eq] at hlen ⊢
    split
    ·
     rename_i a3
     rw [if_pos a3] at hlen
     rw [if_neg (show ¬ s.act = 4 by omega)] at hw
     obtain ⟨t1, t2⟩ := h1 (a + 1) (n + 1) e' (by omega)
     obtain ⟨u1, u2⟩ := h2 (a + 1 + ssize s.thn) (n + 1 + widL s.thn) e' (by omega)
     have hl1 := layL_len s.thn hs.1.2 (a + 1) (n + 1) e'
     have hl2 := layL_len s.els hs.2 (a + 1 + ssize s.thn) (n + 1 + widL s.thn) e'
     generalize hb : layL s.thn (a + 1) (n + 1) e' = B at t1 t2 hl1 ⊢
     generalize hc : layL s.els (a + 1 + ssize s.thn) (n + 1 + widL s.thn) e' = C at u1 u2 hl2 ⊢
     have hT : ∀ m1 m2 : Nat, m1 = (if s.thn.isEmpty then e' else n + 1) → m2 = (if s.els.isEmpty then e' else n + 1 + widL s.thn) → InE [(⟨3, a, if s.thn.isEmpty then (e' : Int) else (n + 1 : Nat), if s.els.isEmpty then (e' : Int) else (n + 1 + widL s.thn : Nat)⟩ : Nd)] n m1 m2 ∧ (m1 = e' ∨ m1 = n + 1 ∧ 1 ≤ widL s.thn) ∧ (m2 = e' ∨ m2 = n + 1 + widL s.thn ∧ 1 ≤ widL s.els) := by
      rintro m1 m2 rfl rfl
      refine ⟨fun x hx to h => ?_, ?_, ?_⟩
      ·
       rw [List.mem_singleton] at hx
       subst hx
       dsimp only at h
       rcases h with rfl | rfl
       · exact .inr (.inl (by split <;> rfl))
       · exact .inr (.inr (.inl (by split <;> rfl)))
      ·
       cases ht : s.thn.isEmpty
       · exact .inr ⟨by simp, lay_pos ht⟩
       · exact .inl (by simp)
      ·
       cases ht : s.els.isEmpty
       · exact .inr ⟨by simp, lay_pos ht⟩
       · exact .inl (by simp)
     obtain ⟨k1, k2, k3⟩ := hT _ _ rfl rfl
     generalize (if s.thn.isEmpty then e' else n + 1) = m1 at k1 k2
     generalize (if s.els.isEmpty then e' else n + 1 + widL s.thn) = m2 at k1 k3
     generalize hx0 : (⟨3, a, if s.thn.isEmpty then (e' : Int) else (n + 1 : Nat), if s.els.isEmpty then (e' : Int) else (n + 1 + widL s.thn : Nat)⟩ : Nd) = x0 at k1 ⊢
     have k0 : x0.kind ≠ 5 := by rw [← hx0]; intro h; cases h
     have s1 : InE ([x0] ++ B) n e' m2 := InE.append k1 t1 (by simp only [List.length_singleton]; omega) (by omega)
     have s2 : Loops ([x0] ++ B) n := Loops.append (Loops.single k0) t2 k1 t1 (by simp only [List.length_singleton]; omega) (by simp only [List.length_singleton]; omega)
     have hl3 : ([x0] ++ B).length = 1 + widL s.thn := by rw [List.length_append, hl1]; rfl
     have u1' : InE C (n + ([x0] ++ B).length) e' e' := by rw [hl3, show n + (1 + widL s.thn) = n + 1 + widL s.thn by omega]; exact u1
     have u2' : Loops C (n + ([x0] ++ B).length) := by rw [hl3, show n + (1 + widL s.thn) = n + 1 + widL s.thn by omega]; exact u2
     exact ⟨InE.append s1 u1' (by rw [hl3]; omega) (by omega), Loops.append s2 u2' s1 u1' (by rw [hl3]; omega) (by rw [hl3]; omega)⟩
    ·
     rename_i a3
     split
     ·
      rename_i a4
      rw [if_neg a3, if_pos a4] at hlen
      rw [if_pos a4] at hw
      obtain ⟨t1, t2⟩ := h1 (a + 1) (n + 2) (n + 1) (by omega)
      have hl1 := layL_len s.thn hs.1.2 (a + 1) (n + 2) (n + 1)
      have hnx : (if s.thn.isEmpty then ((n + 1 : Nat) : Int) else (n + 2 : Nat)) = (n + 1 : Nat) ∨ (if s.thn.isEmpty then ((n + 1 : Nat) : Int) else (n + 2 : Nat)) = (n + 2 : Nat) ∧ 1 ≤ widL s.thn := by
       cases ht : s.thn.isEmpty
       · exact .inr ⟨by simp, lay_pos ht⟩
       · exact .inl (by simp)
      generalize layL s.thn (a + 1) (n + 2) (n + 1) = B at t1 t2 hl1 hlen ⊢
      generalize (if s.thn.isEmpty then ((n + 1 : Nat) : Int) else (n + 2 : Nat)) = m at hnx ⊢
      refine ⟨fun x hx to h => ?_, fun j y hy hk => ?_⟩
      ·
       rw [List.length_cons, List.length_cons, hl1]
       rcases List.mem_cons.1 hx with rfl | hx
       · dsimp only at h; omega
       rcases List.mem_cons.1 hx with rfl | hx
       · dsimp only at h; omega
       · have := t1 x hx to h; rw [hl1] at this; omega
      ·
       match j with
       | 0 => simp at hy; subst hy; cases hk
       | 1 =>
        simp at hy
        subst hy
        refine ⟨n + 2 + widL s.thn, by omega, by omega, by rw [List.length_cons, List.length_cons, hl1]; omega, by dsimp only; omega, fun i x hx to h hl hu => ?_⟩
        match i with
        | 0 => simp at hx; subst hx; dsimp only at h; exact .inr ⟨rfl, rfl, by omega⟩
        | i + 1 =>
         have := (List.getElem?_eq_some_iff.1 hx).1
         rw [List.length_cons, List.length_cons, hl1] at this
         exact .inl (by omega)
       | j + 2 =>
        rw [List.getElem?_cons_succ, List.getElem?_cons_succ] at hy
        obtain ⟨E, p1, p2, p3, p4, p5⟩ := t2 j y hy hk
        rw [hl1] at p3
        refine ⟨E, by omega, by omega, by rw [List.length_cons, List.length_cons, hl1]; omega, by omega, fun i x hx to h hl hu => ?_⟩
        match i with
        | 0 => simp at hx; subst hx; dsimp only at h; omega
        | 1 => simp at hx; subst hx; dsimp only at h; omega
        | i + 2 =>
         rw [List.getElem?_cons_succ, List.getElem?_cons_succ] at hx
         rcases p5 i x hx to h (by omega) hu with h | h
         · exact .inl (by omega)
         · exact .inr ⟨by omega, h.2.1, by omega⟩
     ·
      rename_i a4
      refine ⟨fun x hx to h => ?_, Loops.single (fun h => by cases h)⟩
      rw [List.mem_singleton] at hx
      subst hx
      dsimp only at h
      omega
   exact ⟨InE.append hS.1 (by rw [hlen]; exact r1) (by rw [hlen, hlr]; omega) (by omega), Loops.append hS.2 (by rw [hlen]; exact r2) hS.1 (by rw [hlen]; exact r1) (by rw [hlen, hlr]; omega) (by rw [hlen, hlr]; omega)⟩
 exact key l (fun x h => h)
structure LoopOf (f : Fl) (h : Nat) (y : Nd) (E : Nat) : Prop where
 lt : h < E
 le : E < (cfgN f).length
 out : y.other < (h : Int) ∨ (E : Int) ≤ y.other
 only : ∀ (i : Nat) x, (cfgN f)[i]? = some x → ∀ to, to = x.next ∨ to = x.other → (h : Int) ≤ to → to < (E : Int) → (h ≤ i ∧ i < E) ∨ (i + 1 = h ∧ x.kind = 4 ∧ to = (h : Int))
theorem Valid.loop {f : Fl} (V : Valid f) {h : Nat} {y : Nd} (hy : (cfgN f)[h]? = some y) (hk : y.kind = 5) : ∃ E, LoopOf f h y E := by
 have hlen := cfgN_len f V.plain
 obtain ⟨k1, k2⟩ := lay_loops f.body V.plain 0 1 (1 + widL f.body) (.inr (Nat.le_refl _))
 have hll := layL_len f.body V.plain 0 1 (1 + widL f.body)
 have hget : ∀ (i : Nat) x, (cfgN f)[i]? = some x → (i = 0 ∧ x = ⟨0, -1, 1, -1⟩) ∨ (∃ j, i = j + 1 ∧ (layL f.body 0 1 (1 + widL f.body))[j]? = some x) ∨ x = ⟨1, -1, -1, -1⟩ := by
  intro i x hx
  unfold cfgN at hx
  cases i with
  | zero => simp at hx; exact .inl ⟨rfl, hx.symm⟩
  | succ i =>
   rw [List.getElem?_cons_succ] at hx
   by_cases hi : i < widL f.body
   ·
    rw [List.getElem?_append_left (by omega)] at hx
    exact .inr (.inl ⟨i, rfl, hx⟩)
   ·
    rw [List.getElem?_append_right (by omega)] at hx
    have := (List.getElem?_eq_some_iff.1 hx).1
    rw [show i - (layL f.body 0 1 (1 + widL f.body)).length = 0 by simp at this; omega] at hx
    simp at hx
    exact .inr (.inr hx.symm)
 rcases hget h y hy with ⟨_, rfl⟩ | ⟨j, rfl, hj⟩ | rfl
 · cases hk
 ·
  obtain ⟨E, p1, p2, p3, p4, p5⟩ := k2 j y hj hk
  refine ⟨E, by omega, by omega, by omega, fun i x hx to ht hl hu => ?_⟩
  rcases hget i x hx with ⟨rfl, rfl⟩ | ⟨q, rfl, hq⟩ | rfl
  · dsimp only at ht; omega
  ·
   rcases p5 q x hq to ht (by omega) hu with h | h
   · exact .inl (by omega)
   · exact .inr ⟨by omega, h.2.1, by omega⟩
  · dsimp only at ht; omega
 · cases hk
theorem pass_to (f : Fl) (hs : List Int) (x : Nd) (s : St) (σ : Sg) (rd : Int → Int) : (passN f hs x s σ rd).1 = x.next ∨ (passN f hs x s σ rd).1 = x.other := by
 unfold passN
 split
 · exact .inl rfl
 split
 · exact .inl rfl
 split
 · exact .inl rfl
 split
 · exact .inr rfl
 ·
  dsimp only; split
  · exact .inl rfl
  · exact .inr rfl
structure OnWalk (f : Fl) (r : Ins) (K i : Nat) (n : Nat) (x : Nd) : Prop where
 at_ : (mcAt f r i).at_ = (n : Int)
 nd : (cfgN f)[n]? = some x
 go : i < K → mcAt f r (i + 1) = ⟨(passN f (hatsOf f r) x (stAt f x.at_) (mcAt f r i).σ (mcAt f r i).rd).1, (passN f (hatsOf f r) x (stAt f x.at_) (mcAt f r i).σ (mcAt f r i).rd).2.1, (passN f (hatsOf f r) x (stAt f x.at_) (mcAt f r i).σ (mcAt f r i).rd).2.2⟩ ∧ (x.kind = 0 ∨ x.kind = 2 ∨ x.kind = 3 ∨ x.kind = 4 ∨ x.kind = 5)
 fin : i = K → n + 1 = (cfgN f).length ∧ x.kind = 1
theorem onWalk {f : Fl} {r : Ins} (vd : Valid f) {K : Nat} (hg : GoesAll f r K) {i : Nat} (hi : i ≤ K) : ∃ n x, OnWalk f r K i n x := by
 have hlen := cfgN_len f vd.plain
 rcases Nat.lt_or_ge i K with h | h
 ·
  have h3 : 0 ≤ (mcAt f r i).at_ ∧ (mcAt f r i).at_ < ((cfgN f).length : Int) - 1 := by
   obtain ⟨_, _, h2⟩ := hg
   exact h2 i h
  obtain ⟨h4, h5⟩ := vd.node h3.1 h3.2
  refine ⟨(mcAt f r i).at_.toNat, _, by omega, h4, fun _ => ⟨?_, h5.kind⟩, fun h' => by omega⟩
  rw [show mcAt f r (i + 1) = stepM f (hatsOf f r) (cfgN f) (mcAt f r i) from iterM_succ _ _ _ _ _]
  rfl
 ·
  obtain rfl : i = K := by omega
  obtain ⟨_, h1, _⟩ := hg
  have h1' : mcAt f r i = _ := h1
  refine ⟨(cfgN f).length - 1, ⟨1, -1, -1, -1⟩, by rw [h1']; dsimp only; omega, ?_, fun h' => by omega, fun _ => ⟨by omega, rfl⟩⟩
  obtain ⟨x, hx⟩ : ∃ x, (cfgN f)[(cfgN f).length - 1]? = some x := ⟨_, List.getElem?_eq_getElem (by omega)⟩
  rw [hx, (ends_of vd hx).1 (by omega)]
structure RoInv (f : Fl) (r : Ins) (i : Nat) (ro : List Int) : Prop where
 len : ro.length = (cfgN f).length
 bd : ∀ (k : Nat) v, ro[k]? = some v → 0 ≤ v ∧ v ≤ i
 inn : ∀ (h : Nat) y E, (cfgN f)[h]? = some y → y.kind = 5 → LoopOf f h y E → (h : Int) ≤ (mcAt f r i).at_ → (mcAt f r i).at_ < (E : Int) → ro[h]? = some ((mcAt f r i).rd y.at_) ∧ (mcAt f r i).rd y.at_ ≤ (stAt f y.at_).n
theorem RoInv.start (f : Fl) (r : Ins) : RoInv f r 0 (List.replicate (cfgN f).length 0) :=
 ⟨by simp, fun k v h => by rw [List.getElem?_replicate] at h; split at h <;> cases h; omega, fun h y E hy hk hl h1 h2 => by
  have h0 : (mcAt f r 0).at_ = 0 := rfl
  rw [h0] at h1
  obtain rfl : h = 0 := by omega
  have : (cfgN f)[0]? = some (⟨0, -1, 1, -1⟩ : Nd) := rfl
  rw [hy] at this
  cases this
  cases hk⟩
theorem RoInv.keep {f : Fl} {r : Ins} {i K n : Nat} {x : Nd} {ro : List Int} (h : RoInv f r i ro) (hw : OnWalk f r K i n x) (hi : i < K) (k4 : x.kind ≠ 4) (k5 : x.kind ≠ 5) : RoInv f r (i + 1) ro := by
 obtain ⟨h1, h2⟩ := hw.go hi
 have hrd : (mcAt f r (i + 1)).rd = (mcAt f r i).rd := by
  rw [h1]
  dsimp only
  unfold passN
  rcases h2 with h2 | h2 | h2 | h2 | h2
  · rw [if_pos h2]
  · rw [if_neg (by omega), if_pos h2]
  · rw [if_neg (by omega), if_neg (by omega), if_neg (by omega), if_neg (fun h => k5 h.1), if_neg k5]
  · exact absurd h2 k4
  · exact absurd h2 k5
 have hto := pass_to f (hatsOf f r) x (stAt f x.at_) (mcAt f r i).σ (mcAt f r i).rd
 refine ⟨h.len, fun k v hv => by have := h.bd k v hv; omega, fun q y E hy hk hl h1' h2' => ?_⟩
 rw [hrd]
 have ha : (mcAt f r (i + 1)).at_ = (passN f (hatsOf f r) x (stAt f x.at_) (mcAt f r i).σ (mcAt f r i).rd).1 := by rw [h1]
 rw [ha] at h1' h2'
 rcases hl.only n x hw.nd _ hto h1' h2' with h3 | h3
 · exact h.inn q y E hy hk hl (by rw [hw.at_]; omega) (by rw [hw.at_]; omega)
 · exact absurd h3.2.1 k4
theorem RoInv.enter {f : Fl} {r : Ins} (vd : Valid f) {i K n : Nat} {x : Nd} {ro : List Int} (h : RoInv f r i ro) (hw : OnWalk f r K i n x) (hi : i < K) (k4 : x.kind = 4) : (mcAt f r (i + 1)).at_ = x.next ∧ 0 ≤ x.next ∧ x.next < (cfgN f).length ∧ RoInv f r (i + 1) (ro.set x.next.toNat 0) := by
 obtain ⟨h1, _⟩ := hw.go hi
 have hp : passN f (hatsOf f r) x (stAt f x.at_) (mcAt f r i).σ (mcAt f r i).rd = (x.next, (mcAt f r i).σ, updR (mcAt f r i).rd x.at_ 0) := by unfold passN; rw [if_neg (by omega), if_neg (by omega), if_pos k4]
 rw [hp] at h1
 obtain ⟨h0, y2, hy2, ky2, at2⟩ := (vd.part hw.nd).2.1 k4
 have hlt := (List.getElem?_eq_some_iff.1 hy2).1
 have hlen := h.len
 refine ⟨by rw [h1], h0, by omega, by rw [List.length_set, hlen], fun k v hv => ?_, fun q y E hy hk hl h1' h2' => ?_⟩
 ·
  rw [List.getElem?_set] at hv
  split at hv
  ·
   split at hv
   · cases hv; omega
   · cases hv
  · have := h.bd k v hv; omega
 ·
  rw [h1] at h1' h2' ⊢
  dsimp only at h1' h2' ⊢
  by_cases hq : q = x.next.toNat
  ·
   subst hq
   rw [hy2] at hy
   cases hy
   have hs := vd.step (stAt f y2.at_)
   have h3 := (vd.part hy2).2.2 ky2
   rw [List.getElem?_set_self (by omega)]
   unfold updR
   rw [if_pos at2]
   refine ⟨rfl, ?_⟩
   have h5 := vd.node (k := ((x.next.toNat : Nat) : Int)) (by omega) (by
    have := (ends_of vd hy2).1
    rcases Nat.lt_or_ge (x.next.toNat + 1) (cfgN f).length with h | h
    · omega
    ·
     have := this (by omega); rw [this] at ky2; cases ky2)
   rw [Int.toNat_natCast, hy2] at h5
   have h6 := Option.some.inj h5.1
   obtain ⟨h7, h8, _⟩ := h5.2.step (by rw [← h6]; omega)
   rw [← h6] at h8
   exact ((hs (List.mem_of_getElem? h8)).2.2 h3).1
  ·
   have hne : y.at_ ≠ x.at_ := fun e => hq (vd.heads hy hy2 hk ky2 (by rw [e, at2]))
   rw [List.getElem?_set_ne (fun e => hq e.symm)]
   unfold updR
   rw [if_neg hne]
   rcases hl.only n x hw.nd _ (.inl rfl) h1' h2' with h3 | h3
   · exact h.inn q y E hy hk hl (by rw [hw.at_]; omega) (by rw [hw.at_]; omega)
   · omega
theorem RoInv.head {f : Fl} {r : Ins} (vd : Valid f) {i K n : Nat} {x : Nd} {ro : List Int} (h : RoInv f r i ro) (hw : OnWalk f r K i n x) (k5 : x.kind = 5) : ∃ v : Int, ro[n]? = some v ∧ 0 ≤ v ∧ v ≤ i ∧ v ≤ (stAt f x.at_).n ∧ (i < K → RoInv f r (i + 1) (ro.set n (v + 1))) := by
 obtain ⟨E0, hE0⟩ := vd.loop hw.nd k5
 have hE0' := hE0.lt
 obtain ⟨h1, h2⟩ := h.inn n x E0 hw.nd k5 hE0 (by rw [hw.at_]; omega) (by rw [hw.at_]; omega)
 have hbd := h.bd n _ h1
 have hlt := (List.getElem?_eq_some_iff.1 h1).1
 refine ⟨_, h1, hbd.1, hbd.2, h2, fun hi => ⟨by rw [List.length_set, h.len], fun k v hv => ?_, fun q y E hy hk hl h1' h2' => ?_⟩⟩
 ·
  by_cases e : n = k
  ·
   subst e
   rw [List.getElem?_set_self (by omega)] at hv
   cases hv; omega
  ·
   rw [List.getElem?_set_ne e] at hv
   have := h.bd k v hv; omega
 ·
  obtain ⟨g1, _⟩ := hw.go hi
  have hto := pass_to f (hatsOf f r) x (stAt f x.at_) (mcAt f r i).σ (mcAt f r i).rd
  have ha : (mcAt f r (i + 1)).at_ = (passN f (hatsOf f r) x (stAt f x.at_) (mcAt f r i).σ (mcAt f r i).rd).1 := by rw [g1]
  have hr : (mcAt f r (i + 1)).rd = (passN f (hatsOf f r) x (stAt f x.at_) (mcAt f r i).σ (mcAt f r i).rd).2.2 := by rw [g1]
  rw [ha] at h1' h2'
  rw [hr]
  have hpo : (mcAt f r i).rd x.at_ = (stAt f x.at_).n → passN f (hatsOf f r) x (stAt f x.at_) (mcAt f r i).σ (mcAt f r i).rd = (x.other, (mcAt f r i).σ, (mcAt f r i).rd) := fun e => by
   unfold passN; rw [if_neg (by omega), if_neg (by omega), if_neg (by omega), if_pos ⟨k5, e⟩]
  have hpn : (mcAt f r i).rd x.at_ ≠ (stAt f x.at_).n → (passN f (hatsOf f r) x (stAt f x.at_) (mcAt f r i).σ (mcAt f r i).rd).2.2 = updR (mcAt f r i).rd x.at_ ((mcAt f r i).rd x.at_ + 1) := fun e => by
   unfold passN; rw [if_neg (by omega), if_neg (by omega), if_neg (by omega), if_neg (fun h => e h.2)]
   dsimp only
   rw [if_pos k5]
  by_cases hq : q = n
  ·
   subst hq
   rw [hw.nd] at hy
   cases hy
   by_cases e : (mcAt f r i).rd x.at_ = (stAt f x.at_).n
   ·
    rw [hpo e] at h1' h2'
    have := hl.out
    dsimp only at h1' h2'
    omega
   ·
    rw [hpn e, List.getElem?_set_self (by omega)]
    unfold updR
    rw [if_pos rfl]
    exact ⟨rfl, by omega⟩
  ·
   have hne : y.at_ ≠ x.at_ := fun e => hq (vd.heads hy hw.nd hk k5 e)
   have hrd : (passN f (hatsOf f r) x (stAt f x.at_) (mcAt f r i).σ (mcAt f r i).rd).2.2 y.at_ = (mcAt f r i).rd y.at_ := by
    by_cases e : (mcAt f r i).rd x.at_ = (stAt f x.at_).n
    · rw [hpo e]
    · rw [hpn e]; unfold updR; rw [if_neg hne]
   rw [hrd, List.getElem?_set_ne (fun e => hq e.symm)]
   rcases hl.only n x hw.nd _ hto h1' h2' with h3 | h3
   · exact h.inn q y E hy hk hl (by rw [hw.at_]; omega) (by rw [hw.at_]; omega)
   · omega
theorem Valid.away {f : Fl} (V : Valid f) {i : Nat} {x : Nd} (hx : (cfgN f)[i]? = some x) : (∀ to, to = x.next ∨ to = x.other → to = -1 ∨ 1 ≤ to) ∧ (x.kind = 0 → i = 0) := by
 obtain ⟨k1, _⟩ := lay_loops f.body V.plain 0 1 (1 + widL f.body) (.inr (Nat.le_refl _))
 unfold cfgN at hx
 cases i with
 | zero => simp at hx; subst hx; exact ⟨fun to h => by dsimp only at h; omega, fun _ => rfl⟩
 | succ i =>
  rw [List.getElem?_cons_succ] at hx
  rcases List.mem_append.1 (List.mem_of_getElem? hx) with hm | hm
  ·
   refine ⟨fun to h => by have := k1 x hm to h; omega, fun h => ?_⟩
   have := lay_kinds _ _ _ _ x hm
   omega
  ·
   rw [List.mem_singleton] at hm
   subst hm
   exact ⟨fun to h => by dsimp only at h; omega, fun h => by (cases h)⟩
theorem defN_var {f : Fl} (V : Valid f) {i : Nat} {x : Nd} (hx : (cfgN f)[i]? = some x) (h : asgB f x = true) : x.kind = 2 ∧ 0 ≤ x.at_ ∧ x.at_ < (preL f.body).length ∧ 0 ≤ (stAt f x.at_).var ∧ (stAt f x.at_).var < f.vars.length ∧ defN f x = (stAt f x.at_).var := by
 have h0 := h
 unfold asgB at h
 simp only [Bool.and_eq_true, Bool.or_eq_true, decide_eq_true_eq] at h
 obtain ⟨k2, ha⟩ := h
 obtain ⟨a1, a2⟩ := (V.edge hx).2 k2
 obtain ⟨s, hs⟩ : ∃ s, (preL f.body)[x.at_.toNat]? = some s := ⟨_, List.getElem?_eq_getElem (by omega)⟩
 have e : stAt f x.at_ = s := by unfold stAt; rw [hs]; rfl
 have hv := (V.step s (List.mem_of_getElem? hs)).1.var (e ▸ ha)
 rw [← e] at hv
 exact ⟨k2, a1, a2, hv.1, hv.2, by unfold defN; rw [if_pos h0]⟩
def defL (f : Fl) (la : List Int) (x : Nd) : List Int := if 0 ≤ defN f x then la.set (defN f x).toNat x.at_ else la
structure LaInv (f : Fl) (r : Ins) (i : Nat) (la : List Int) : Prop where
 len : la.length = f.vars.length
 ok : ∀ (v : Nat) d, la[v]? = some d → (i = 0 → d = ((preL f.body).length : Int) + v) ∧ (0 < i → Rch f (cfgN f) (mcAt f r i).at_ d ∧ varD f d = v)
theorem LaInv.next {f : Fl} {r : Ins} (V : Valid f) {K i n : Nat} {x : Nd} {la : List Int} (hg : GoesAll f r K) (h : LaInv f r i la) (hw : OnWalk f r K i n x) (hi : i < K) : LaInv f r (i + 1) (defL f la x) := by
 obtain ⟨n', x', hw'⟩ := onWalk V hg (show i + 1 ≤ K by omega)
 have hto := pass_to f (hatsOf f r) x (stAt f x.at_) (mcAt f r i).σ (mcAt f r i).rd
 have ha : (mcAt f r (i + 1)).at_ = (passN f (hatsOf f r) x (stAt f x.at_) (mcAt f r i).σ (mcAt f r i).rd).1 := by rw [(hw.go hi).1]
 rw [← ha] at hto
 have h0 : 0 ≤ (mcAt f r (i + 1)).at_ := by rw [hw'.at_]; omega
 have hstep : ∀ d, GenD f x d ∨ (Rch f (cfgN f) (n : Int) d ∧ ThruD f x d) → Rch f (cfgN f) (mcAt f r (i + 1)).at_ d := fun d hd => Rch.step hw.nd hto h0 hd
 have hlen := h.len
 by_cases i0 : i = 0
 ·
  subst i0
  have hn : n = 0 := by
   have h1 : (mcAt f r 0).at_ = 0 := rfl
   have := hw.at_
   omega
  subst hn
  have hx0 : x = ⟨0, -1, 1, -1⟩ := by
   have : (cfgN f)[0]? = some (⟨0, -1, 1, -1⟩ : Nd) := rfl
   rw [hw.nd] at this
   exact Option.some.inj this
  subst hx0
  have hd : defL f la ⟨0, -1, 1, -1⟩ = la := by
   unfold defL
   rw [if_neg]
   show ¬ 0 ≤ (if asgB f ⟨0, -1, 1, -1⟩ = true then _ else (-1 : Int))
   rw [if_neg (by simp [asgB])]
   decide
  rw [hd]
  refine ⟨hlen, fun v d hv => ⟨fun h => by omega, fun _ => ?_⟩⟩
  have h1 := (h.ok v d hv).1 rfl
  have hvl := (List.getElem?_eq_some_iff.1 hv).1
  subst h1
  exact ⟨hstep _ (.inl (.inl ⟨rfl, by omega, by omega⟩)), by unfold varD; rw [if_pos (by omega)]; omega⟩
 ·
  have hk0 : x.kind ≠ 0 := by
   intro hk
   have hn := (V.away hw.nd).2 hk
   obtain ⟨m, y, hy⟩ := onWalk V hg (show i - 1 ≤ K by omega)
   have hto' := pass_to f (hatsOf f r) y (stAt f y.at_) (mcAt f r (i - 1)).σ (mcAt f r (i - 1)).rd
   have ha' : (mcAt f r (i - 1 + 1)).at_ = (passN f (hatsOf f r) y (stAt f y.at_) (mcAt f r (i - 1)).σ (mcAt f r (i - 1)).rd).1 := by rw [(hy.go (by omega)).1]
   rw [← ha', show i - 1 + 1 = i by omega] at hto'
   have := (V.away hy.nd).1 _ hto'
   have := hw.at_
   omega
  by_cases hb : asgB f x = true
  ·
   obtain ⟨k2, a1, a2, v1, v2, hd⟩ := defN_var V hw.nd hb
   have hdl : defL f la x = la.set (stAt f x.at_).var.toNat x.at_ := by unfold defL; rw [hd, if_pos v1]
   rw [hdl]
   refine ⟨by rw [List.length_set, hlen], fun v d hv => ⟨fun h => by omega, fun _ => ?_⟩⟩
   by_cases hvv : (stAt f x.at_).var.toNat = v
   ·
    subst hvv
    rw [List.getElem?_set_self (by omega)] at hv
    cases hv
    exact ⟨hstep _ (.inl (.inr ⟨hk0, hb, rfl⟩)), by unfold varD; rw [if_neg (by omega)]; omega⟩
   ·
    rw [List.getElem?_set_ne hvv] at hv
    obtain ⟨h1, h2⟩ := (h.ok v d hv).2 (by omega)
    rw [hw.at_] at h1
    exact ⟨hstep _ (.inr ⟨h1, hk0, fun _ => by omega⟩), h2⟩
  ·
   have hdl : defL f la x = la := by
    unfold defL
    rw [if_neg]
    unfold defN
    rw [if_neg hb]
    decide
   rw [hdl]
   refine ⟨hlen, fun v d hv => ⟨fun h => by omega, fun _ => ?_⟩⟩
   obtain ⟨h1, h2⟩ := (h.ok v d hv).2 (by omega)
   rw [hw.at_] at h1
   exact ⟨hstep _ (.inr ⟨h1, hk0, fun h => absurd h hb⟩), h2⟩
def fillL (S n i : Nat) : List Int := (List.range n).map fun v => if v < i then (S : Int) + v else 0
theorem LaInv.start (f : Fl) (r : Ins) : LaInv f r 0 (fillL (preL f.body).length f.vars.length f.vars.length) := by
 refine ⟨by simp [fillL], fun v d hv => ⟨fun _ => ?_, fun h => by omega⟩⟩
 have hl := (List.getElem?_eq_some_iff.1 hv).1
 simp only [fillL, List.length_map, List.length_range] at hl
 unfold fillL at hv
 rw [List.getElem?_map, List.getElem?_range hl] at hv
 simp only [Option.map_some, Option.some.injEq] at hv
 rw [if_pos hl] at hv
 exact hv.symm
inductive Fld (f : Fl) (g : List Nd) (a : Nat) (v : Int) : Int → Prop
 | start {x : Nd} {to : Int} : g[a]? = some x → (to = x.next ∨ to = x.other) → 0 ≤ to → Fld f g a v to
 | step {i : Nat} {x : Nd} {to : Int} : Fld f g a v i → g[i]? = some x → defN f x ≠ v → (to = x.next ∨ to = x.other) → 0 ≤ to → Fld f g a v to
def SrcD (f : Fl) (g : List Nd) (a : Nat) (v d : Int) : Prop := (a = 0 ∧ 0 ≤ v ∧ v < f.vars.length ∧ d = (preL f.body).length + v) ∨ ∃ x, g[a]? = some x ∧ 0 ≤ defN f x ∧ v = defN f x ∧ d = x.at_
theorem asgB_of {f : Fl} {x : Nd} (h : 0 ≤ defN f x) : asgB f x = true := by
 by_cases hb : asgB f x = true
 · exact hb
 · exfalso; unfold defN at h; rw [if_neg hb] at h; exact absurd h (by decide)
theorem SrcD.varD {f : Fl} (V : Valid f) {a : Nat} {v d : Int} (h : SrcD f (cfgN f) a v d) : varD f d = v ∧ 0 ≤ v := by
 unfold Go.Proofs.YtldhllpogdikdaaGreat.varD
 rcases h with ⟨_, h1, _, h3⟩ | ⟨x, hx, h1, h2, h3⟩
 · rw [if_pos (by omega)]; omega
 ·
  obtain ⟨_, _, g2, _, _, g5⟩ := defN_var V hx (asgB_of h1)
  rw [if_neg (by omega)]
  subst h3
  omega
theorem rch_iff {f : Fl} (V : Valid f) {to d : Int} : Rch f (cfgN f) to d ↔ ∃ a v, SrcD f (cfgN f) a v d ∧ Fld f (cfgN f) a v to := by
 constructor
 ·
  intro h
  induction h with
  | @gen i x to d hx ht h0 hg =>
   rcases hg with ⟨k0, h1, h2⟩ | ⟨_, hb, h2⟩
   ·
    obtain rfl := (V.away hx).2 k0
    exact ⟨0, d - (preL f.body).length, .inl ⟨rfl, by omega, by omega, by omega⟩, .start hx ht h0⟩
   ·
    obtain ⟨_, _, _, g3, _, g5⟩ := defN_var V hx hb
    exact ⟨i, defN f x, .inr ⟨x, hx, by omega, rfl, h2⟩, .start hx ht h0⟩
  | @thru i x to d hx ht h0 _ hk ih =>
   obtain ⟨a, v, hs, hf⟩ := ih
   obtain ⟨h1, h2⟩ := hs.varD V
   refine ⟨a, v, hs, .step hf hx (fun he => ?_) ht h0⟩
   have hb := asgB_of (f := f) (x := x) (by omega)
   have := hk.2 hb
   have := (defN_var V hx hb).2.2.2.2.2
   omega
 ·
  rintro ⟨a, v, hs, hf⟩
  induction hf with
  | @start x to hx ht h0 =>
   refine .gen hx ht h0 ?_
   rcases hs with ⟨rfl, h1, h2, h3⟩ | ⟨y, hy, h1, h2, h3⟩
   ·
    have : x = ⟨0, -1, 1, -1⟩ := (Option.some.inj hx).symm
    subst this
    exact .inl ⟨rfl, by omega, by omega⟩
   ·
    rw [hx] at hy
    cases hy
    have hb := asgB_of h1
    exact .inr ⟨by have := (defN_var V hx hb).1; omega, hb, h3⟩
  | @step i x to hf hx hne ht h0 ih =>
   have hi : (i : Int) = 0 → False := by
    intro h
    have : ∀ {z : Int}, Fld f (cfgN f) a v z → z ≠ 0 := by
     intro z hz
     cases hz with
     | start hx ht h0 => have := (V.away hx).1 _ ht; omega
     | step _ hx _ ht h0 => have := (V.away hx).1 _ ht; omega
    exact this hf h
   refine .thru hx ht h0 ih ⟨fun h => hi (by have := (V.away hx).2 h; omega), fun hb he => hne ?_⟩
   have := (hs.varD V).1
   have := (defN_var V hx hb).2.2.2.2.2
   omega
theorem SrcD.uniq {f : Fl} (V : Valid f) {a b : Nat} {v u d : Int} (h : SrcD f (cfgN f) a v d) (h' : SrcD f (cfgN f) b u d) : a = b ∧ v = u := by
 have h1 := (h.varD V).1
 have h2 := (h'.varD V).1
 refine ⟨?_, by omega⟩
 have key : ∀ {a : Nat} {v d : Int} {x : Nd}, (cfgN f)[a]? = some x → 0 ≤ defN f x → d = x.at_ → x.kind = 2 ∧ 0 ≤ d ∧ d < (preL f.body).length := by
  intro a v d x hx h1 h3
  have := defN_var V hx (asgB_of h1)
  omega
 rcases h with ⟨rfl, g1, g2, g3⟩ | ⟨x, hx, g1, g2, g3⟩
 ·
  rcases h' with ⟨rfl, k1, k2, k3⟩ | ⟨y, hy, k1, k2, k3⟩
  · rfl
  · have := key (v := v) hy k1 k3; omega
 ·
  have p1 := key (v := v) hx g1 g3
  rcases h' with ⟨rfl, k1, k2, k3⟩ | ⟨y, hy, k1, k2, k3⟩
  · omega
  ·
   have p2 := key (v := v) hy k1 k3
   exact V.same hx hy (by omega) (by omega)
structure FldI (f : Fl) (g : List Nd) (a : Nat) (v : Int) (seen : List Bool) (op : List Int) : Prop where
 len : seen.length = g.length
 ok : ∀ (i : Nat), seen[i]? = some true → Fld f g a v i
 opn : ∀ q ∈ op, ∃ i : Nat, q = (i : Int) ∧ i < g.length ∧ (i = a ∨ seen[i]? = some true ∧ ∀ x, g[i]? = some x → defN f x ≠ v)
 cl : ∀ (i : Nat) x, g[i]? = some x → (i = a ∨ seen[i]? = some true ∧ defN f x ≠ v) → (i : Int) ∈ op ∨ ∀ to, to = x.next ∨ to = x.other → 0 ≤ to → seen[to.toNat]? = some true
theorem FldI.start (f : Fl) (g : List Nd) (a : Nat) (v : Int) (ha : a < g.length) : FldI f g a v (List.replicate g.length false) [(a : Int)] := by
 refine ⟨by simp, fun i h => ?_, fun q hq => ?_, fun i x hx h => ?_⟩
 ·
  rw [List.getElem?_replicate] at h
  split at h <;> cases h
 ·
  rw [List.mem_singleton] at hq
  exact ⟨a, hq, ha, .inl rfl⟩
 ·
  rcases h with rfl | ⟨h, _⟩
  · exact .inl (by simp)
  ·
   rw [List.getElem?_replicate] at h
   split at h <;> cases h
theorem FldI.done {f : Fl} {g : List Nd} {a : Nat} {v : Int} {seen : List Bool} (h : FldI f g a v seen []) (_ : ∀ (i : Nat) x, g[i]? = some x → ∀ to, to = x.next ∨ to = x.other → -1 ≤ to ∧ to < g.length) (i : Nat) : seen[i]? = some true ↔ Fld f g a v i := by
 refine ⟨h.ok i, fun hf => ?_⟩
 have key : ∀ {z : Int}, Fld f g a v z → seen[z.toNat]? = some true := by
  intro z hz
  induction hz with
  | @start x to hx ht h0 => exact ((h.cl a x hx (.inl rfl)).resolve_left (by simp)) to ht h0
  | @step i x to hf hx hne ht h0 ih =>
   rw [Int.toNat_natCast] at ih
   exact ((h.cl i x hx (.inr ⟨ih, hne⟩)).resolve_left (by simp)) to ht h0
 simpa using key hf
structure FldE (f : Fl) (g : List Nd) (a : Nat) (v : Int) (n : Nat) (x : Nd) (k : Nat) (seen : List Bool) (op : List Int) : Prop where
 len : seen.length = g.length
 ok : ∀ (i : Nat), seen[i]? = some true → Fld f g a v i
 opn : ∀ q ∈ op, ∃ i : Nat, q = (i : Int) ∧ i < g.length ∧ (i = a ∨ seen[i]? = some true ∧ ∀ x, g[i]? = some x → defN f x ≠ v)
 cl : ∀ (i : Nat) y, g[i]? = some y → (i = a ∨ seen[i]? = some true ∧ defN f y ≠ v) → i = n ∨ (i : Int) ∈ op ∨ ∀ to, to = y.next ∨ to = y.other → 0 ≤ to → seen[to.toNat]? = some true
 nd : g[n]? = some x
 at_ : n = a ∨ Fld f g a v n ∧ defN f x ≠ v
 part : ∀ to, (0 < k ∧ to = x.next ∨ 1 < k ∧ to = x.other) → 0 ≤ to → seen[to.toNat]? = some true
def edk (x : Nd) (k : Nat) : Int := if k = 0 then x.next else x.other
section
variable {f : Fl} {g : List Nd} {a n : Nat} {v : Int} {x : Nd} {k : Nat} {seen : List Bool} {op : List Int}
theorem FldI.pop {q : Int} (h : FldI f g a v seen (q :: op)) : ∃ n x, q = ((n : Nat) : Int) ∧ FldE f g a v n x 0 seen op := by
 obtain ⟨n, rfl, hn, h1⟩ := h.opn q (List.mem_cons_self ..)
 have hx : g[n]? = some g[n] := List.getElem?_eq_getElem hn
 refine ⟨n, g[n], rfl, h.len, h.ok, fun q hq => h.opn q (List.mem_cons_of_mem _ hq), fun i y hy hi => ?_, hx, h1.imp id fun h2 => ⟨h.ok n h2.1, h2.2 _ hx⟩, fun to ht => by omega⟩
 rcases h.cl i y hy hi with h2 | h2
 ·
  rcases List.mem_cons.1 h2 with h2 | h2
  · exact .inl (by omega)
  · exact .inr (.inl h2)
 · exact .inr (.inr h2)
theorem FldE.skip (h : FldE f g a v n x k seen op) (hk : k < 2) (hs : edk x k < 0 ∨ seen[(edk x k).toNat]? = some true) : FldE f g a v n x (k + 1) seen op :=
 ⟨h.len, h.ok, h.opn, h.cl, h.nd, h.at_, fun to ht h0 => by
  unfold edk at hs
  by_cases hk0 : k = 0
  ·
   subst hk0
   rw [if_pos rfl] at hs
   rcases ht with ht | ht
   ·
    obtain ⟨_, rfl⟩ := ht
    exact hs.resolve_left (by omega)
   · omega
  ·
   rw [if_neg hk0] at hs
   rcases ht with ht | ht
   · exact h.part to (.inl ⟨by omega, ht.2⟩) h0
   ·
    obtain ⟨_, rfl⟩ := ht
    exact hs.resolve_left (by omega)⟩
theorem FldE.add {i : Nat} {y : Nd} (h : FldE f g a v n x k seen op) (hk : k < 2) (he : edk x k = (i : Int)) (hy : g[i]? = some y) : FldE f g a v n x (k + 1) (seen.set i true) (if defN f y ≠ v then op ++ [(i : Int)] else op) := by
 have hi : i < seen.length := by rw [h.len]; exact (List.getElem?_eq_some_iff.1 hy).1
 have hmono : ∀ {j : Nat}, seen[j]? = some true → (seen.set i true)[j]? = some true := by
  intro j hj
  by_cases e : i = j
  · subst e; exact List.getElem?_set_self hi
  · rw [List.getElem?_set_ne e]; exact hj
 have hto : edk x k = x.next ∨ edk x k = x.other := by unfold edk; split <;> simp
 have hfl : Fld f g a v (i : Int) := by
  rcases h.at_ with rfl | ⟨h1, h2⟩
  · rw [he] at hto; exact .start h.nd hto (by omega)
  · rw [he] at hto; exact .step h1 h.nd h2 hto (by omega)
 have hmem : ∀ {q : Int}, q ∈ op → q ∈ (if defN f y ≠ v then op ++ [(i : Int)] else op) := by
  intro q hq
  split
  · exact List.mem_append_left _ hq
  · exact hq
 refine ⟨by rw [List.length_set, h.len], fun j hj => ?_, fun q hq => ?_, fun j z hz hj => ?_, h.nd, h.at_, fun to ht h0 => ?_⟩
 ·
  by_cases e : i = j
  · subst e; exact hfl
  · rw [List.getElem?_set_ne e] at hj; exact h.ok j hj
 ·
  have old : ∀ q ∈ op, ∃ j : Nat, q = (j : Int) ∧ j < g.length ∧ (j = a ∨ (seen.set i true)[j]? = some true ∧ ∀ x, g[j]? = some x → defN f x ≠ v) := fun q hq => by
   obtain ⟨j, h1, h2, h3⟩ := h.opn q hq
   exact ⟨j, h1, h2, h3.imp id fun h3 => ⟨hmono h3.1, h3.2⟩⟩
  split at hq
  ·
   rename_i hd
   rcases List.mem_append.1 hq with hq | hq
   · exact old q hq
   ·
    rw [List.mem_singleton] at hq
    exact ⟨i, hq, (List.getElem?_eq_some_iff.1 hy).1, .inr ⟨List.getElem?_set_self hi, fun z hz => by rw [hy] at hz; cases hz; exact hd⟩⟩
  · exact old q hq
 ·
  by_cases e : i = j
  ·
   subst e
   rw [hy] at hz
   cases hz
   rcases hj with hj | ⟨_, hj⟩
   ·
    rcases h.cl i y hy (.inl hj) with h1 | h1 | h1
    · exact .inl h1
    · exact .inr (.inl (hmem h1))
    · exact .inr (.inr fun to h2 h3 => hmono (h1 to h2 h3))
   · exact .inr (.inl (by rw [if_pos hj]; simp))
  ·
   rw [List.getElem?_set_ne e] at hj
   rcases h.cl j z hz hj with h1 | h1 | h1
   · exact .inl h1
   · exact .inr (.inl (hmem h1))
   · exact .inr (.inr fun to h2 h3 => hmono (h1 to h2 h3))
 ·
  unfold edk at he
  by_cases hk0 : k = 0
  ·
   subst hk0
   rw [if_pos rfl] at he
   rcases ht with ht | ht
   · rw [ht.2, he, Int.toNat_natCast]; exact List.getElem?_set_self hi
   · omega
  ·
   rw [if_neg hk0] at he
   rcases ht with ht | ht
   · exact hmono (h.part to (.inl ⟨by omega, ht.2⟩) h0)
   · rw [ht.2, he, Int.toNat_natCast]; exact List.getElem?_set_self hi
theorem FldE.to (_h : FldE f g a v n x k seen op) (_hk : k < 2) : edk x k = x.next ∨ edk x k = x.other := by unfold edk; split <;> simp
theorem FldE.fin (h : FldE f g a v n x 2 seen op) : FldI f g a v seen op := by
 refine ⟨h.len, h.ok, h.opn, fun i y hy hi => ?_⟩
 rcases h.cl i y hy hi with rfl | h1
 ·
  rw [h.nd] at hy
  cases hy
  exact .inr fun to ht h0 => h.part to (by omega) h0
 · exact h1
end
def rowsIn (rows0 : List (List Int)) (seen : List Bool) (d : Int) (rows : List (List Int)) : Prop := rows.length = rows0.length ∧ ∀ (i : Nat) r b, rows0[i]? = some r → seen[i]? = some b → rows[i]? = some (if b then r ++ [d] else r)
theorem rowsIn.start (rows0 : List (List Int)) (n : Nat) (d : Int) : rowsIn rows0 (List.replicate n false) d rows0 := ⟨rfl, fun i r b hr hb => by
 rw [List.getElem?_replicate] at hb
 split at hb <;> cases hb
 exact hr⟩
theorem rowsIn.set {rows0 rows : List (List Int)} {seen : List Bool} {d : Int} {i : Nat} {r : List Int} (h : rowsIn rows0 seen d rows) (hs : seen[i]? = some false) (hr : rows[i]? = some r) : rowsIn rows0 (seen.set i true) d (rows.set i (r ++ [d])) := by
 refine ⟨by rw [List.length_set, h.1], fun j r' b hr' hb => ?_⟩
 by_cases e : i = j
 ·
  subst e
  rw [List.getElem?_set_self (List.getElem?_eq_some_iff.1 hs).1] at hb
  cases hb
  have := h.2 i r' false hr' hs
  rw [hr] at this
  cases this
  rw [List.getElem?_set_self (List.getElem?_eq_some_iff.1 hr).1]
  rfl
 ·
  rw [List.getElem?_set_ne e] at hb ⊢
  exact h.2 j r' b hr' hb
def FldR (f : Fl) (g : List Nd) (a : Nat) (v d : Int) (rows0 rows : List (List Int)) : Prop := rows.length = rows0.length ∧ ∀ (i : Nat) r, rows0[i]? = some r → Fld f g a v i ∧ rows[i]? = some (r ++ [d]) ∨ ¬ Fld f g a v i ∧ rows[i]? = some r
theorem FldR.of {f : Fl} {g : List Nd} {a : Nat} {v d : Int} {rows0 rows : List (List Int)} {seen : List Bool} (h : rowsIn rows0 seen d rows) (hl : rows0.length = seen.length) (hs : ∀ (i : Nat), seen[i]? = some true ↔ Fld f g a v i) : FldR f g a v d rows0 rows := by
 refine ⟨h.1, fun i r hr => ?_⟩
 obtain ⟨b, hb⟩ : ∃ b, seen[i]? = some b := ⟨_, List.getElem?_eq_getElem (by rw [← hl]; exact (List.getElem?_eq_some_iff.1 hr).1)⟩
 have h1 := h.2 i r b hr hb
 cases b with
 | true => exact .inl ⟨(hs i).1 hb, h1⟩
 | false =>
  refine .inr ⟨fun hf => ?_, h1⟩
  have := (hs i).2 hf
  rw [hb] at this
  cases this
def unseen (seen : List Bool) : Nat := (seen.filter (fun b => !b)).length
theorem unseen_le (seen : List Bool) : unseen seen ≤ seen.length := List.length_filter_le _ _
theorem unseen_set {seen : List Bool} {i : Nat} (h : seen[i]? = some false) : unseen (seen.set i true) + 1 = unseen seen := by
 unfold unseen
 induction seen generalizing i with
 | nil => simp at h
 | cons b r ih =>
  cases i with
  | zero => simp at h; subst h; simp
  | succ i =>
   have := ih (i := i) (by simpa using h)
   cases b <;> simp_all <;> omega
end Go.Proofs.YtldhllpogdikdaaGreat
namespace Go.GL
theorem Mat.put {α : Type} {enc : α → Value} {e eo : TypeId} {B : Nat} {w w1 w2 : World} {bo : Nat} {rv : List Value} {rows : List (List α)} (h : Mat enc e eo B w bo rv rows) (hB : B ≤ w.heap.size) {i : Nat} {v v' : Value} {r' : List α} (hv : rv[i]? = some v)
  (hown : w1.ownsRow 0 e 1 v' r'.length (r'.map enc)) (hfr : v'.ownBlock = v.ownBlock ∨ ∃ g, v'.ownBlock = some g ∧ w.heap.size ≤ g) (hk : Keep (fun q => v.ownBlock = some q) w w1)
  (hst : Wrote w1 bo (rv.set i v') eo w2) : Mat enc e eo B w2 bo (rv.set i v') (rows.set i r') := by
 obtain ⟨hs2, hB2, hk2⟩ := hst
 have hbo := h.out.lt
 have hnew : ∀ g, v'.ownBlock = some g → B ≤ g ∧ g ≠ bo ∧ (v.ownBlock = some g ∨ w.heap.size ≤ g) := by
  intro g hg
  rcases hfr with h1 | ⟨g', h1, h2⟩
  ·
   rw [h1] at hg
   have := h.far i v g hv hg
   exact ⟨this.1, this.2, .inl hg⟩
  ·
   rw [h1] at hg
   cases hg
   exact ⟨by omega, by omega, .inr h2⟩
 have hi : i < rv.length := (List.getElem?_eq_some_iff.1 hv).1
 refine ⟨hB2, by simp [h.len], ?_, ?_, ?_⟩
 ·
  intro j u s hu hs
  by_cases hij : i = j
  ·
   subst hij
   rw [List.getElem?_set_self hi] at hu
   rw [List.getElem?_set_self (by rw [← h.len]; exact hi)] at hs
   cases hu; cases hs
   exact own_keep hown hk2 (fun g hg h => by have := (hnew g hg).2.1; exact this h)
  ·
   rw [List.getElem?_set_ne hij] at hu hs
   have h1 := h.row j u s hu hs
   have h2 := own_keep h1 hk (fun g hg hv' => h.apart i j v u g hij hv hu hv' hg)
   exact own_keep h2 hk2 (fun g hg h' => (h.far j u g hu hg).2 h')
 ·
  intro j u g hu hg
  by_cases hij : i = j
  ·
   subst hij
   rw [List.getElem?_set_self hi] at hu
   cases hu
   exact ⟨(hnew g hg).1, (hnew g hg).2.1⟩
  ·
   rw [List.getElem?_set_ne hij] at hu
   exact h.far j u g hu hg
 ·
  intro j k u s g hjk hu hs hg hg'
  by_cases hij : i = j
  ·
   subst hij
   rw [List.getElem?_set_self hi] at hu
   rw [List.getElem?_set_ne hjk] at hs
   cases hu
   rcases (hnew g hg).2.2 with h1 | h1
   · exact h.apart i k v s g hjk hv hs h1 hg'
   · have := h.blk hs hg'; omega
  ·
   rw [List.getElem?_set_ne hij] at hu
   by_cases hik : i = k
   ·
    subst hik
    rw [List.getElem?_set_self hi] at hs
    cases hs
    rcases (hnew g hg').2.2 with h1 | h1
    · exact h.apart i j v u g hij hv hu h1 hg
    · have := h.blk hu hg; omega
   ·
    rw [List.getElem?_set_ne hik] at hs
    exact h.apart j k u s g hjk hu hs hg hg'
end Go.GL
