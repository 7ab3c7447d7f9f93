/-
  A row's arguments laid open in this layer's words, and its conclusion behind a run that writes nothing old. It speaks of no law. Nothing here is a claim.
-/
import Derived.Test.YteilalejfphkgaaRows
import Derived.Test.YteilalejfphkgaaOps2
import Derived.WalkKit
import Derived.ProofKit
import Derived.OpenShut
import Derived.ReadAgain
import Derived.ChangeBears
namespace Go.GL
open Go.ChangeShapes Go.WideShapes Go.ChangeAt Go.RowKit
section
variable {H : Type} {enc : TypeId × Value → H} {P : Program} {w w' W W' : World} {base : Nat} {sp : Nat → Bool} {held : Bool}

theorem Ext.kept (h : Ext W W') (may : MemPlace → Prop) : W.keptBut W' may := by
  refine ⟨h.os, h.output, fun i hi => ?_⟩
  rw [h.block i hi (fun h => h)]
  cases hx : W.heap[i]? with
  | none => rfl
  | some o => cases o <;> simp
theorem Ext.same (h : Ext W W') {p : MemPlace} (hp : p.block < W.heap.size) : W.sameAt W' p := by
  cases p with
  | cell b off => exact World.cell?_of_block (w := W) (w' := W') (a := ⟨b, off, none⟩) (h.block b hp (fun h => h))
  | map b => exact h.block b hp (fun h => h)
theorem Ext.frozen (h : Ext W W') {b off : Nat} (hb : b < W.heap.size) : W'.frozen? ⟨b, off, none⟩ = W.frozen? ⟨b, off, none⟩ := by
  unfold World.frozen?
  rw [h.block b hb (fun h => h)]

theorem TrodAll.carry : ∀ {ts : List TypeId} {vs : List Value} {ds : List (DataW H)} {ps : List MemPlace}, DataW.TrodAll enc P w base sp held ts vs ds ps → (∀ p ∈ ps, w.sameAt w' p) → DataW.TrodAll enc P w' base sp held ts vs ds ps
  | [], [], [], _, h, _ => h
  | _ :: _, _ :: _, _ :: _, _, ⟨p, q, ⟨n, h1⟩, h2, e⟩, hs =>
    ⟨p, q, ⟨n, DataW.trod_carry n _ _ _ h1 (fun x hx => hs x (by rw [e]; exact List.mem_append_left _ hx))⟩, TrodAll.carry h2 (fun x hx => hs x (by rw [e]; exact List.mem_append_right _ hx)), e⟩

/-- True is returned, and the arguments read as they did. -/
theorem post_ext {f : Func} {s : ChangeSpec} {apart fresh handsOn again : Bool} {args : Array Value} {ds gs : List (DataW H)} {before : List MemPlace} {tb : TypeId}
    (hl : laidOutB P = true) (hm : mapsRowed P = true) (hz : ((List.range P.types.size).all fun t => match P.underlying t with | some (.slice e) => decide (0 < P.cellsOf e) | _ => true) = true)
    (hts : ∀ t ∈ f.params.toList, t < P.types.size) (hv : s.vars = []) (hr : f.resultTypes = #[tb]) (htb : P.underlying tb = some .bool)
    (hW : DataW.Whole enc P f.params.toList s.vars apart W args.toList ds gs before) (hs : (s.fn H (ds ++ gs)).results = [.lit (.bool true)] ∧ (s.fn H (ds ++ gs)).args = ds ∧ (s.fn H (ds ++ gs)).vars = []) (hk : Ext W W') :
    s.post enc P f apart fresh handsOn again W args (.bool true) W' := by
  have hlt := hW.lt
  have hW' := hW
  obtain ⟨p, q, hA, hV, rfl, hz', hn⟩ := hW'
  rw [hv] at hV
  obtain ⟨rfl, rfl⟩ := trodVars_none hV
  rw [List.append_nil] at hlt hz' hn
  simp only [List.append_nil] at hs
  have hsame : ∀ x ∈ p, W.sameAt W' x := fun x hx => Ext.same hk (hlt x hx)
  have hargs : ∀ sp : Nat → Bool, (∀ x ∈ p, sp x.block = true) → DataW.TrodAll enc P W' 0 sp true f.params.toList args.toList ds p := fun sp hsp =>
    TrodAll.carry (DataW.TrodAll.respare (kids_rows hl hm) (slices_full_of P hz) hts hA hsp) hsame
  have hres : ∀ (b : Nat) (sp : Nat → Bool) (hd : Bool), DataW.TrodAll enc P W' b sp hd f.resultTypes.toList ((Value.bool true).resultList f.resultTypes.size) [.lit (.bool true)] [] := by
    intro b sp hd
    rw [hr]
    exact trodAll_cons_mk (shut_bool htb _) trodAll_mk0
  have hvs : ∀ sp : Nat → Bool, DataW.TrodVars enc P W' sp s.vars [] [] := fun sp => by rw [hv]; rfl
  have hok : ∀ (j : Nat) (t : TypeId) (r : Value), f.resultTypes[j]? = some t → ((Value.bool true).resultList f.resultTypes.size)[j]? = some r → Value.okWide P W' .any 0 t r :=
    ok_one hr rfl (okWide_bool_mk htb _)
  have hold : ∀ x ∈ p, (fun b => decide (b < W.heap.size)) x.block = true := fun x hx => by simpa using hlt x hx
  refine ⟨ds, [], p ++ [], [], p, [], hW, ?_, ?_, ?_, Ext.kept hk _, fun _ => ?_⟩
  · rw [List.append_nil, hs.1]; exact hres _ _ _
  · rw [List.append_nil, hs.2.1]; exact hargs _ hold
  · rw [List.append_nil, hs.2.2]; exact hvs _
  · refine ⟨hok, _, _, ([] ++ p) ++ [], ⟨[] ++ p, [], trodAll_append (hargs _ (fun _ _ => rfl)) (hres _ _ _), hvs _, rfl, ?_, ?_⟩, ?_⟩
    · intro b off hp
      have hp' : MemPlace.cell b off ∈ p := by simpa using hp
      exact (Ext.frozen hk (show b < W.heap.size from hlt _ hp')).trans (hz' b off hp')
    · intro ha
      simpa using hn ha
    · intro x hx _
      simpa using hx

theorem cells_at {b o n : Nat} {cs : List Value} (h : w.cells? base ⟨b, o, none⟩ n = some cs) : cs.length = n ∧ Cells w b o cs := by
  obtain ⟨_, h1, h2⟩ := World.cells?_some h
  refine ⟨h1, fun j v hv => ?_⟩
  have hj : j < n := by rw [← h1]; exact (List.getElem?_eq_some_iff.1 hv).1
  have := h2 j hj
  rw [hv] at this
  rw [← this, addr_add]

/-- A slice, laid open by what its elements are. -/
theorem slR_of {α : Type} {R : Rel α} {t e : TypeId} {c fuel : Nat} {cs : List Value} {x : DataW H × List MemPlace} (ht : P.underlying t = some (.slice e)) (hc : P.cellsOf e = c) (hc0 : 0 < c)
    (hR : ∀ (n : Nat) (cs : List Value) (y : DataW H × List MemPlace), DataW.trod enc P w base sp held n e cs = some y → ∃ z, R (fun _ => True) w z cs) (h : DataW.trod enc P w base sp held fuel t cs = some x) : ∃ v l, cs = [v] ∧ SlR c R (fun _ => True) w v l := by
  rcases DataW.trod_slice ht h with ⟨rfl, _⟩ | ⟨a, len, cap, elems, rest, n, _, rfl, _, _, hlc, hcm, hel, hat, _⟩
  · exact ⟨_, [], rfl, SlR.nil⟩
  · rw [hc] at hat
    have hget : ∀ i : Nat, i < len → ∃ z cs', w.cells? base (a.add (i * c)) c = some cs' ∧ R (fun _ => True) w z cs' := by
      intro i hi
      have h1 := hat i hi
      obtain ⟨y, hy⟩ : ∃ y, elems[i]? = some y := ⟨_, List.getElem?_eq_getElem (by omega)⟩
      rw [hy, Option.bind_eq_some_iff] at h1
      obtain ⟨cs', h2, h3⟩ := h1
      obtain ⟨z, hz⟩ := hR n cs' y h3
      exact ⟨z, cs', h2, hz⟩
    have hlist : ∀ k, k ≤ len → ∃ l : List α, l.length = k ∧ ∀ (i : Nat) z, l[i]? = some z → ∃ cs', w.cells? base (a.add (i * c)) c = some cs' ∧ R (fun _ => True) w z cs' := by
      intro k
      induction k with
      | zero => intro _; exact ⟨[], rfl, fun i z h => by simp at h⟩
      | succ k ih =>
        intro hk
        obtain ⟨l, h1, h2⟩ := ih (by omega)
        obtain ⟨z, cs', h3, h4⟩ := hget k (by omega)
        refine ⟨l ++ [z], by simp [h1], fun i y hy => ?_⟩
        by_cases e : i < l.length
        · rw [List.getElem?_append_left e] at hy; exact h2 i y hy
        · rw [List.getElem?_append_right (by omega)] at hy
          have hi : i = k := by
            have := (List.getElem?_eq_some_iff.1 hy).1
            simp at this; omega
          subst hi
          rw [h1, Nat.sub_self] at hy
          simp at hy
          subst hy
          exact ⟨cs', h3, h4⟩
    obtain ⟨l, hl, hle⟩ := hlist len (Nat.le_refl _)
    subst hl
    refine ⟨_, l, rfl, some a, cap, rfl, hlc, by simpa [maxLen] using hcm, fun i z hz => ?_⟩
    obtain ⟨cs', h3, h4⟩ := hle i z hz
    obtain ⟨_, h5, h6⟩ := World.cells?_some h3
    have hspot : a.spot = none := by
      have hi : 0 < l.length := by have := (List.getElem?_eq_some_iff.1 hz).1; omega
      obtain ⟨_, cs0, h7, _⟩ := hget 0 hi
      obtain ⟨_, h8, h9⟩ := World.cells?_some h7
      have h10 := h9 0 hc0
      obtain ⟨u, hu⟩ : ∃ u, cs0[0]? = some u := ⟨_, List.getElem?_eq_getElem (by omega)⟩
      rw [hu] at h10
      have h11 := World.cell?_spot h10
      simpa [Addr.add] using h11
    obtain ⟨b, o, s⟩ := a
    simp at hspot
    subst hspot
    exact ⟨b, o, cs', rfl, trivial, h5, (cells_at (by rw [addr_add] at h3; exact h3)).2, h4⟩
theorem rint_of {e : TypeId} {n : Nat} {cs : List Value} {y : DataW H × List MemPlace} (he : P.underlying e = some (.int .i64)) (h : DataW.trod enc P w base sp held n e cs = some y) : ∃ z, RInt (fun _ => True) w z cs := by
  obtain ⟨z, h1, _⟩ := DataW.trod_int he h
  exact ⟨z, h1⟩
theorem rpair_of {e e' : TypeId} {n : Nat} {cs : List Value} {y : DataW H × List MemPlace} (he : P.underlying e = some (.array 2 e')) (he' : P.underlying e' = some (.int .i64)) (hc' : P.cellsOf e' = 1) (hc : P.cellsOf e = 2) (h : DataW.trod enc P w base sp held n e cs = some y) : ∃ z, RPair (fun _ => True) w z cs := by
  obtain ⟨xs, m, _, _, hl, hx, hat⟩ := DataW.trod_array he h
  rw [hc] at hl
  match cs, hl with
  | [u, v], _ =>
    have h0 := hat 0 (by decide)
    have h1 := hat 1 (by decide)
    obtain ⟨y0, hy0⟩ : ∃ y, xs[0]? = some y := ⟨_, List.getElem?_eq_getElem (by omega)⟩
    obtain ⟨y1, hy1⟩ : ∃ y, xs[1]? = some y := ⟨_, List.getElem?_eq_getElem (by omega)⟩
    rw [hy0, hc'] at h0
    rw [hy1, hc'] at h1
    obtain ⟨a, ha, _⟩ := DataW.trod_int he' h0
    obtain ⟨b, hb, _⟩ := DataW.trod_int he' h1
    simp at ha hb
    subst ha; subst hb
    exact ⟨(a, b), rfl⟩
end
end Go.GL
