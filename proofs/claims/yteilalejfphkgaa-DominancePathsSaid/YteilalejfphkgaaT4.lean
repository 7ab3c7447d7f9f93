/-
  slices.SortFunc at [][2]int, met by the shelf's contract.
-/
import Derived.Test.YteilalejfphkgaaT3
import Derived.Test.YteilalejfphkgaaSort
import Derived.Test.YteilalejfphkgaaShelf
namespace Go.Proofs.Yteilalejfphkgaa
open Go.GL

/-- What the sort's callers hand in. -/
def bd (p : Int × Int) : Prop := -4611686018427387904 ≤ p.1 ∧ p.1 ≤ 4611686018427387903 ∧ -4611686018427387904 ≤ p.2 ∧ p.2 ≤ 4611686018427387903
def lexLt (x y : Int × Int) : Prop := x.1 < y.1 ∨ x.1 = y.1 ∧ x.2 < y.2
theorem sortP_ok (f : FuncId) (hf : ∀ args w, (callFunc f args).run Try.prog w = .ok (.enter f args) w) (cf : Int × Int → Int × Int → Int)
    (hcf : ∀ x y W, bd x → bd y → Calls Try.prog f #[.agg #[.int .i64 x.1, .int .i64 x.2], .agg #[.int .i64 y.1, .int .i64 y.2]] W (Ret fun v w' => v = .int .i64 (cf x y) ∧ Ext W w'))
    (hlt : ∀ x y, bd x → bd y → (cf x y < 0 ↔ lexLt x y)) (es : List (Int × Int)) (hb : ∀ e ∈ es, bd e) (hlen : es.length ≤ 1048576) (v : Value) (n : Nat) (w : World) (hown : w.ownsRow 0 49 2 v n (es.flatMap encP)) :
    Calls Try.prog 33 #[v, .func (.func f) #[] #[]] w (Ret fun u w' => u = .tuple #[] ∧ ∃ es' : List (Int × Int), es'.Perm es ∧ es'.Pairwise (fun a b => ¬ lexLt b a) ∧ w'.ownsRow 0 49 2 v n (es'.flatMap encP) ∧ Keep (fun q => v.ownBlock = some q) w w') := by
  have hn : n = es.length := by
    have := hown.1
    rw [flatP_len] at this
    omega
  subst hn
  by_cases h0 : es = []
  · subst h0
    obtain ⟨ao, c, rfl⟩ := own_form hown
    refine (AnyF.slices_SortFunc_none Try.laysSlF06_f33 ao c (.func (.func f) #[] #[]) w).mono ?_
    rintro e w' ⟨rfl, rfl⟩
    exact ⟨_, rfl, rfl, [], List.Perm.refl _, List.Pairwise.nil, hown, Keep.refl _ _⟩
  obtain ⟨g, cap, sp, rfl, _, hnc, hcm, hB, hcl⟩ := own_open encP_len (by omega) hown h0
  obtain ⟨m, hm⟩ := sub_list hb
  have hlen' : m.length = es.length := by rw [← hm, List.length_map]
  haveI : Inhabited { x // bd x } := ⟨⟨(0, 0), by unfold bd; omega⟩⟩
  have hlt' : ∀ x y : { x // bd x }, Go.Proofs.ltOf (fun x y : { x // bd x } => cf x.1 y.1) x y = true ↔ lexLt x.1 y.1 := by
    intro x y
    unfold Go.Proofs.ltOf
    rw [decide_eq_true_eq]
    exact hlt x.1 y.1 x.2 y.2
  have hlf : ∀ x y : { x // bd x }, Go.Proofs.ltOf (fun x y : { x // bd x } => cf x.1 y.1) x y = false ↔ ¬ lexLt x.1 y.1 := by
    intro x y
    rw [← hlt', Bool.not_eq_true]
  have hswo : Go.Sort.SWO (Go.Proofs.ltOf fun x y : { x // bd x } => cf x.1 y.1) := by
    refine ⟨?_, ?_, ?_⟩
    · intro x; rw [hlf]; unfold lexLt; omega
    · intro x y z; rw [hlt', hlt', hlt']; unfold lexLt; omega
    · intro x y z; rw [hlf, hlf, hlf]; unfold lexLt; omega
  have hflat : ∀ l : List { x // bd x }, l.flatMap (fun x => encP x.1) = (l.map Subtype.val).flatMap encP := fun l => by rw [List.flatMap_map]
  have hB' : Blk w g (m.flatMap (fun x => encP x.1) ++ sp) 49 := by rw [hflat, hm]; exact hB
  have hcon := Try.slices_SortFunc (α := { x // bd x }) 2 Try.isAgg49 Try.sizeOf49 (fun x => encP x.1) (fun _ => rfl) (fun x v hv => encP_one x.1 v hv) (fun x y => cf x.1 y.1) hswo f #[] g 0 cap m.toArray w hf
    (fun q os dk _ x y => by
      refine (hcf x.1 y.1 _ x.2 y.2).mono ?_
      rintro e w' ⟨v, rfl, rfl, hk⟩
      exact ⟨rfl, ext_grow hk⟩)
    (holdsK_blk (enc := fun x : { x // bd x } => encP x.1) (k := 2) (fun _ => rfl) hB') hB.lt (by simp only [List.size_toArray]; omega)
  rw [show m.toArray.size = es.length from by simpa using hlen'] at hcon
  refine hcon.mono ?_
  rintro e w' ⟨rfl, d', q, os, hp, hs, rfl⟩
  have hds : d'.size = m.length := by have := hp.1; simpa using this
  have hw := sorted_world (enc := fun x : { x // bd x } => encP x.1) (k := 2) (fun _ => rfl) hB' d' hds q os
  have hperm : (d'.toList.map Subtype.val).Perm es := by
    have h1 : d'.toList.Perm m := permIn_list (by rw [show m.toArray.size = es.length from by simpa using hlen']; exact hp)
    have h2 := h1.map Subtype.val
    rwa [hm] at h2
  refine ⟨_, rfl, rfl, d'.toList.map Subtype.val, hperm, ?_, ?_, hw.2.mono (fun q _ h => by rw [h]; rfl)⟩
  · rw [List.pairwise_map]
    refine (sortedIn_list (by omega) hs).imp ?_
    intro a b h
    exact (hlf _ _).1 h
  · have h3 := hw.1
    rw [hflat] at h3
    have h4 := own_shut (enc := encP) (cap := cap) encP_len h3 (by rw [← hcl, List.length_append, List.length_append, flatP_len, flatP_len, hperm.length_eq]) (k := es.length) (by rw [hperm.length_eq]; exact Nat.le_refl _) hnc hcm
    rw [List.take_of_length_le (by rw [hperm.length_eq]; exact Nat.le_refl _)] at h4
    exact h4
end Go.Proofs.Yteilalejfphkgaa
