/-
  The reference's definitions and the program's: they mean the same. Nothing here is a claim.
-/
import Derived.Test.YteilalejfphkgaaT18
namespace Go.Proofs.Yteilalejfphkgaa
open Go.GL Go.GL.Dom Go.GL.Dfs

section
variable {m root : Nat} {es : List (Int × Int)} {Rw : List (List Int)} {order : List Nat} {pl T : List Int} {M : List (List Bool)}

theorem Known.edge (h : Known m root es Rw order pl T) (hall : es.all (Gr.okE m) = true) (a b : Nat) : Dfs.Edge Rw a b ↔ ((a : Int), (b : Int)) ∈ es := by
  constructor
  · rintro ⟨r, h1, h2⟩
    exact (h.succ.mem a r h1 _).1 h2
  · intro h1
    have h2 := List.all_eq_true.1 hall _ h1
    simp [Gr.okE] at h2
    obtain ⟨r, hr⟩ : ∃ r, Rw[a]? = some r := ⟨_, List.getElem?_eq_getElem (by rw [h.succ.len]; omega)⟩
    exact ⟨r, hr, (h.succ.mem a r hr _).2 h1⟩
theorem Known.re (h : Known m root es Rw order pl T) (hall : es.all (Gr.okE m) = true) (b : Nat) : RE es root (-1) b ↔ Dfs.Reach Rw root b := by
  constructor
  · intro hb
    induction hb with
    | start _ => exact .refl
    | step _ he _ ih => exact .step ih ((h.edge hall _ _).2 he)
  · intro hb
    induction hb with
    | refl => exact .start (by omega)
    | step _ he ih => exact .step ih ((h.edge hall _ _).1 he) (by omega)
theorem Known.av (h : Known m root es Rw order pl T) (hall : es.all (Gr.okE m) = true) (x b : Nat) : RE es root (x : Int) b ↔ ∃ k, AvN Rw root x k b := by
  constructor
  · intro hb
    induction hb with
    | start h1 => exact ⟨0, .start (fun e => h1 (by rw [e]))⟩
    | step _ he hx ih =>
      obtain ⟨k, hk⟩ := ih
      exact ⟨k + 1, .step hk ((h.edge hall _ _).2 he) (fun e => hx (by rw [e]))⟩
  · rintro ⟨k, hk⟩
    induction hk with
    | start h1 => exact .start (fun e => h1 (Int.ofNat.inj e))
    | step _ he hx ih => exact .step ih ((h.edge hall _ _).1 he) (fun e => hx (Int.ofNat.inj e))
theorem Known.dm (h : Known m root es Rw order pl T) (hall : es.all (Gr.okE m) = true) (hM : DomMat es root m M) {a b : Nat} (ha : a < m) : Go.Proofs.Yteilalejfphkgaa.dm M a b ↔ Dfs.Reach Rw root b ∧ Dom Rw root a b := by
  obtain ⟨r, hr⟩ : ∃ r, M[a]? = some r := ⟨_, List.getElem?_eq_getElem (by rw [hM.len]; exact ha)⟩
  have h1 := (hM.row a r hr).2 b
  unfold Go.Proofs.Yteilalejfphkgaa.dm Dom
  rw [← h.re hall b]
  constructor
  · rintro ⟨r', h2, h3⟩
    rw [hr] at h2; cases h2
    have h4 := h1.1 h3
    exact ⟨h4.1, fun k hk => h4.2 ((h.av hall a b).2 ⟨k, hk⟩)⟩
  · rintro ⟨h2, h3⟩
    refine ⟨r, hr, h1.2 ⟨h2, fun h4 => ?_⟩⟩
    obtain ⟨k, hk⟩ := (h.av hall a b).1 h4
    exact h3 k hk
theorem Known.lt (h : Known m root es Rw order pl T) {b : Nat} (hb : Dfs.Reach Rw root b) : b < m := by
  rw [← h.succ.len]
  exact hb.lt h.rows (by rw [h.succ.len]; exact h.hroot)
theorem Known.anti (h : Known m root es Rw order pl T) {x y : Nat} (h1 : Dom Rw root x y) (h2 : Dom Rw root y x) (hy : Dfs.Reach Rw root y) : x = y := by
  have hx := Dom.reach h1 hy
  by_cases e : x = y
  · exact e
  · have h3 := h.sol.lt h.ord h.place hy h1 e
    have h4 := h.sol.lt h.ord h.place hx h2 (fun e' => e e'.symm)
    omega

/-- Both trees are the same. -/
theorem tree_unique (h : Known m root es Rw order pl T) (hall : es.all (Gr.okE m) = true) (hM : DomMat es root m M) {T' : List Int} (hT : RefTree M m T') : T = T' := by
  have hlen := h.sol.len
  apply List.ext_getElem?
  intro b
  by_cases hb : b < m
  · by_cases hr : ¬ Dfs.Reach Rw root b ∨ b = root
    · rw [h.sol.out b hb hr]
      rcases hT.at' b hb with ⟨a, h1, ⟨h2, h3, _⟩, _⟩ | ⟨_, h1⟩
      · obtain ⟨h4, h5⟩ := (h.dm hall hM h1).1 h3
        rcases hr with hr | rfl
        · exact absurd h4 hr
        · exact absurd (Dom.atRoot h5) h2
      · exact h1.symm
    · have hrb : Dfs.Reach Rw root b := Classical.byContradiction (fun h1 => hr (.inl h1))
      have hbr : b ≠ root := fun h1 => hr (.inr h1)
      obtain ⟨p, h1, h2, h3, h4, h5, h6⟩ := h.sol.idom b hrb hbr
      have hpm := h.lt h6
      have hnear : Near M m b p := by
        refine ⟨h2, (h.dm hall hM hpm).2 ⟨hrb, h3⟩, fun c hc hcb hd => ?_⟩
        exact (h.dm hall hM hc).2 ⟨h6, h4 c hcb ((h.dm hall hM hc).1 hd).2⟩
      rw [h1]
      rcases hT.at' b hb with ⟨a, h7, ⟨h8, h9, h10⟩, h11⟩ | ⟨h7, _⟩
      · have h12 := ((h.dm hall hM h7).1 h9).2
        have h13 := (h.dm hall hM hpm).1 (h10 p hpm h2 ((h.dm hall hM hpm).2 ⟨hrb, h3⟩))
        have h14 := h4 a h8 h12
        rw [h11, h.anti h13.2 h14 h13.1]
      · exact absurd hnear (h7 p hpm)
  · rw [List.getElem?_eq_none (by omega), List.getElem?_eq_none (by rw [hT.len]; omega)]

/-- The frontier, by the matrix. -/
theorem front_dm (h : Known m root es Rw order pl T) (hall : es.all (Gr.okE m) = true) (hM : DomMat es root m M) (x b : Nat) : Front Rw root x b ↔ x < m ∧ b < m ∧ (∃ a : Nat, ((a : Int), (b : Int)) ∈ es ∧ dm M x a) ∧ ¬ (x ≠ b ∧ dm M x b) := by
  constructor
  · rintro ⟨a, h1, h2, h3, h4⟩
    have hx := h.lt (Dom.reach h3 h1)
    have hb := h.lt (.step h1 h2)
    exact ⟨hx, hb, ⟨a, (h.edge hall a b).1 h2, (h.dm hall hM hx).2 ⟨h1, h3⟩⟩, fun h5 => h4 ⟨h5.1, ((h.dm hall hM hx).1 h5.2).2⟩⟩
  · rintro ⟨hx, hb, ⟨a, h1, h2⟩, h3⟩
    obtain ⟨h4, h5⟩ := (h.dm hall hM hx).1 h2
    have h6 := (h.edge hall a b).2 h1
    exact ⟨a, h4, h6, h5, fun h7 => h3 ⟨h7.1, (h.dm hall hM hx).2 ⟨.step h4 h6, h7.2⟩⟩⟩
end

/-! computed: for the example of the chapter -/
def stepX (x : Int) (bs : List Bool) (e : Nat × Nat) : List Bool := if bs[e.1]? = some true ∧ (e.2 : Int) ≠ x then bs.set e.2 true else bs
def roundsX (es : List (Nat × Nat)) (x : Int) : Nat → List Bool → List Bool
  | 0, bs => bs
  | t + 1, bs => roundsX es x t (es.foldl (stepX x) bs)
def reachX (es : List (Nat × Nat)) (m root : Nat) (x : Int) : List Bool := roundsX es x m (if (root : Int) = x then List.replicate m false else (List.replicate m false).set root true)
def toI (es : List (Nat × Nat)) : List (Int × Int) := es.map fun e => ((e.1 : Int), (e.2 : Int))

theorem foldX {es : List (Nat × Nat)} {root m : Nat} {x : Int} {bs0 : List Bool} (hok : ∀ e ∈ es, e.2 < m) : ∀ (l : List (Nat × Nat)) (j : Nat) (bs : List Bool), es.drop j = l → Mk (toI es) root m x bs0 j bs → Mk (toI es) root m x bs0 (toI es).length (l.foldl (stepX x) bs)
  | [], j, bs, hl, h => by
    have hj : es.length ≤ j := List.drop_eq_nil_iff.1 hl
    refine ⟨h.len, h.sound, h.more, fun a b hab => h.took a b ?_⟩
    rw [List.take_of_length_le (by simpa [toI] using hj)]
    simpa using hab
  | e :: l, j, bs, hl, h => by
    have he : es[j]? = some e := by
      have := congrArg (fun l => l[0]?) hl
      simpa using this
    have hI : (toI es)[j]? = some ((e.1 : Int), (e.2 : Int)) := by simp [toI, he]
    have hl' : es.drop (j + 1) = l := by
      have := congrArg (List.drop 1) hl
      simpa using this
    simp only [List.foldl_cons]
    refine foldX hok l (j + 1) _ hl' ?_
    unfold stepX
    split
    · rename_i h1
      exact h.mark hI h1.1 h1.2 (hok e (List.mem_of_getElem? he))
    · rename_i h1
      exact h.same hI h1
theorem roundsX_mo {es : List (Nat × Nat)} {root m : Nat} {x : Int} (hok : ∀ e ∈ es, e.2 < m) : ∀ (k t : Nat) (bs : List Bool), Mo (toI es) root m x t bs → Mo (toI es) root m x (t + k) (roundsX es x k bs)
  | 0, t, bs, h => h
  | k + 1, t, bs, h => by
    have h1 := Mk.done h (foldX hok es 0 bs rfl (Mk.start h))
    have h2 := roundsX_mo hok k (t + 1) _ h1
    rw [show t + 1 + k = t + (k + 1) from by omega] at h2
    exact h2
theorem reachX_ok {es : List (Nat × Nat)} {root m : Nat} {x : Int} (hok : ∀ e ∈ es, e.2 < m) (hr : root < m) : (reachX es m root x).length = m ∧ ∀ b : Nat, (reachX es m root x)[b]? = some true ↔ RE (toI es) root x b := by
  have h0 : Mo (toI es) root m x 0 (if (root : Int) = x then List.replicate m false else (List.replicate m false).set root true) := by
    split
    · rename_i h; exact Mo.start0 h
    · rename_i h; exact Mo.start hr h
  have h1 := roundsX_mo hok m 0 _ h0
  rw [Nat.zero_add] at h1
  exact ⟨h1.len, h1.done⟩
def domX (es : List (Nat × Nat)) (m root : Nat) : List (List Bool) := (List.range m).map fun (a : Nat) => List.zipWith (fun s t => s && !t) (reachX es m root (-1)) (reachX es m root (a : Int))
theorem domX_ok {es : List (Nat × Nat)} {root m : Nat} (hok : ∀ e ∈ es, e.2 < m) (hr : root < m) : DomMat (toI es) root m (domX es m root) := by
  obtain ⟨l0, r0⟩ := reachX_ok (x := -1) hok hr
  refine ⟨by simp [domX], fun a r h => ?_⟩
  have ha : a < m := by simpa [domX] using (List.getElem?_eq_some_iff.1 h).1
  obtain ⟨l1, r1⟩ := reachX_ok (x := (a : Int)) hok hr
  have hr' : r = List.zipWith (fun s t => s && !t) (reachX es m root (-1)) (reachX es m root (a : Int)) := by
    simp [domX, ha] at h
    exact h.symm
  subst hr'
  refine ⟨by simp [l0, l1], fun b => ?_⟩
  rw [← r0 b, ← r1 b]
  by_cases hb : b < m
  · obtain ⟨s, hs⟩ : ∃ s, (reachX es m root (-1))[b]? = some s := ⟨_, List.getElem?_eq_getElem (by omega)⟩
    obtain ⟨t, ht⟩ : ∃ t, (reachX es m root (a : Int))[b]? = some t := ⟨_, List.getElem?_eq_getElem (by omega)⟩
    rw [List.getElem?_zipWith, hs, ht]
    simp
  · rw [List.getElem?_eq_none (by simp; omega), List.getElem?_eq_none (by omega)]
    simp
end Go.Proofs.Yteilalejfphkgaa
