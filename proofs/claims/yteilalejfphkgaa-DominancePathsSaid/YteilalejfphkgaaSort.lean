/-
  The library's sort met in this layer's words: a row of elements of k cells. It speaks of no program. Nothing here is a claim.
-/
import Derived.Test.YteilalejfphkgaaRep
import Derived.Shelf.SlSortCmp.WholeK
namespace Go.GL
open Go.Sort Go.Proofs

theorem ext_grow {w w' : World} (h : Ext w w') : ∃ q os, w' = grow (w.drewN q) os := by
  refine ⟨w'.drawn - w.drawn, w'.heap.extract w.heap.size w'.heap.size, ?_⟩
  have hd := h.drawn
  have hh : w'.heap = w.heap ++ w'.heap.extract w.heap.size w'.heap.size := by
    apply Array.ext_getElem?
    intro i
    by_cases hi : i < w.heap.size
    · rw [Array.getElem?_append_left hi]
      exact h.block i hi (fun h => h)
    · rw [Array.getElem?_append_right (by omega), Array.getElem?_extract]
      by_cases hi2 : i < w'.heap.size
      · rw [if_pos (by omega), show w.heap.size + (i - w.heap.size) = i from by omega]
      · rw [if_neg (by omega), Array.getElem?_eq_none (by omega)]
  have : ∀ (a b : World), a.heap = b.heap → a.tape = b.tape → a.drawn = b.drawn → a.os = b.os → a.output = b.output → a = b := by
    intro a b h1 h2 h3 h4 h5
    cases a; cases b
    simp at h1 h2 h3 h4 h5
    subst h1 h2 h3 h4 h5
    rfl
  refine this _ _ hh h.tape ?_ h.os h.output
  show w'.drawn = w.drawn + (w'.drawn - w.drawn)
  omega

section
variable {α : Type} [Inhabited α] {enc : α → List Value} {k : Nat}

theorem flatK_list (hk : ∀ x, (enc x).length = k) (d : Array α) : (flatK enc k d).toList = d.toList.flatMap enc := by
  apply List.ext_getElem?
  intro t
  have hl : (d.toList.flatMap enc).length = d.size * k := by rw [flat_len hk, Array.length_toList]
  by_cases ht : t < d.size * k
  · have hk0 : 0 < k := by
      rcases Nat.eq_zero_or_pos k with h | h
      · rw [h] at ht; omega
      · exact h
    have hd : t / k < d.size := Nat.div_lt_of_lt_mul (by rw [Nat.mul_comm]; exact ht)
    have hm : t % k < k := Nat.mod_lt _ hk0
    have h1 := get_flatK enc k d t ht
    have h2 : (flatK enc k d).toList[t]? = some ((flatK enc k d)[t]!) := by
      rw [Array.getElem?_toList, getElem!_pos _ t (by simpa using ht)]
      exact Array.getElem?_eq_getElem (by simpa using ht)
    rw [h2, h1]
    have h3 : d.toList[t / k]? = some d[t / k]! := by
      rw [Array.getElem?_toList, getElem!_pos _ (t / k) hd]
      exact Array.getElem?_eq_getElem hd
    have h4 : (enc d[t / k]!)[t % k]? = some ((enc d[t / k]!)[t % k]!) := by
      rw [getElem!_pos _ (t % k) (by rw [hk]; exact hm)]
      exact List.getElem?_eq_getElem (by rw [hk]; exact hm)
    have h5 := flat_at hk h3 [] (t % k) _ h4
    rw [List.append_nil, Nat.mul_comm, Nat.div_add_mod] at h5
    rw [h5]
  · rw [List.getElem?_eq_none (by rw [Array.length_toList, size_flatK]; omega), List.getElem?_eq_none (by rw [hl]; omega)]

theorem putCells_flat (hk : ∀ x, (enc x).length = k) (l : List α) (d : Array α) (sp : List Value) (hs : d.size = l.length) : putCells id 0 (flatK enc k d) (l.flatMap enc ++ sp).toArray = (d.toList.flatMap enc ++ sp).toArray := by
  have hl := flat_len hk l
  have hl' : (d.toList.flatMap enc).length = d.size * k := by rw [flat_len hk, Array.length_toList]
  have hsz := size_flatK enc k d
  apply Array.ext_getElem?
  intro j
  rw [← flatK_list hk d]
  simp only [putCells, Array.getElem?_mapIdx, List.getElem?_toArray]
  by_cases hj : j < d.size * k
  · rw [List.getElem?_append_left (by rw [hl, ← hs]; exact hj), List.getElem?_append_left (by simpa using hj)]
    rw [List.getElem?_eq_getElem (by rw [hl, ← hs]; exact hj)]
    simp only [Option.map_some, Nat.zero_le, Nat.zero_add, hsz, hj, and_self, if_true, Nat.sub_zero, id]
    rw [Array.getElem?_toList, getElem!_pos _ j (by rw [hsz]; exact hj)]
    exact (Array.getElem?_eq_getElem (by rw [hsz]; exact hj)).symm
  · rw [List.getElem?_append_right (by rw [hl, ← hs]; omega), List.getElem?_append_right (by simp; omega)]
    simp only [hl, ← hs, Array.length_toList, hsz, Nat.zero_add, hj, and_false, if_false, Option.map_id']

theorem holdsK_blk (hk : ∀ x, (enc x).length = k) {w : World} {b : Nat} {l : List α} {sp : List Value} {e : TypeId} (hb : Blk w b (l.flatMap enc ++ sp) e) : HoldsK enc k w b 0 l.toArray := by
  intro j hj
  rw [size_flatK] at hj
  refine ⟨?_, hb.frozen⟩
  have h1 : (flatK enc k l.toArray).toList[j]? = some ((flatK enc k l.toArray)[j]!) := by
    rw [Array.getElem?_toList, getElem!_pos _ j (by simpa using hj)]
    exact Array.getElem?_eq_getElem (by simpa using hj)
  rw [flatK_list hk] at h1
  refine hb.cells j _ ?_
  rw [List.getElem?_append_left (List.getElem?_eq_some_iff.1 h1).1]
  exact h1

theorem sorted_world (hk : ∀ x, (enc x).length = k) {w : World} {b : Nat} {l : List α} {sp : List Value} {e : TypeId} (hb : Blk w b (l.flatMap enc ++ sp) e) (d : Array α) (hs : d.size = l.length) (m : Nat) (os : Array Obj) :
    Blk (sortWorldK enc k w b 0 m d os) b (d.toList.flatMap enc ++ sp) e ∧ Keep (fun q => q = b) w (sortWorldK enc k w b 0 m d os) := by
  have hblk := hb.lt
  have hsz : (putRow id (Sort.ahead w m) b 0 (flatK enc k d)).heap.size = w.heap.size := by simp [Sort.ahead]
  have hat : ∀ i, i < w.heap.size → (sortWorldK enc k w b 0 m d os).heap[i]? = (putRow id (Sort.ahead w m) b 0 (flatK enc k d)).heap[i]? := by
    intro i hi
    show ((putRow id (Sort.ahead w m) b 0 (flatK enc k d)).heap ++ os)[i]? = _
    rw [Array.getElem?_append_left (by rw [hsz]; exact hi)]
  refine ⟨?_, rfl, rfl, rfl, Nat.le_add_right _ _, ?_, ?_⟩
  · unfold Blk at *
    rw [hat b hblk]
    show (w.heap.modify b _)[b]? = _
    rw [Array.getElem?_modify, if_pos rfl, hb]
    simp only [Option.map_some, onCells]
    rw [putCells_flat hk l d sp hs]
  · show w.heap.size ≤ ((putRow id (Sort.ahead w m) b 0 (flatK enc k d)).heap ++ os).size
    rw [Array.size_append, hsz]; omega
  · intro i hi hne
    rw [hat i hi]
    show (w.heap.modify b _)[i]? = _
    rw [Array.getElem?_modify, if_neg (fun h => hne h.symm)]

theorem permIn_list {l : List α} {d : Array α} (h : PermIn 0 l.toArray.size l.toArray d) : d.toList.Perm l := by
  obtain ⟨h1, _, h3⟩ := h
  have e1 : l.toArray.extract 0 l.toArray.size = l.toArray := by simp
  have e2 : d.extract 0 l.toArray.size = d := by rw [← h1]; simp
  rw [e1, e2] at h3
  exact h3

theorem sortedIn_list {lt : α → α → Bool} {d : Array α} {n : Nat} (hn : d.size = n) (h : SortedIn lt 0 n d) : d.toList.Pairwise (fun a b => lt b a = false) := by
  subst hn
  rw [List.pairwise_iff_getElem]
  intro i j hi hj hij
  have := h i j (Nat.zero_le _) hij (by simpa using hj)
  rw [getElem!_pos _ i (by simpa using hi), getElem!_pos _ j (by simpa using hj)] at this
  simpa using this
end

theorem sub_list {α : Type} {p : α → Prop} : ∀ {l : List α}, (∀ x ∈ l, p x) → ∃ m : List { x // p x }, m.map Subtype.val = l
  | [], _ => ⟨[], rfl⟩
  | x :: r, h => by
    obtain ⟨m, hm⟩ := sub_list (l := r) (fun y hy => h y (List.mem_cons_of_mem _ hy))
    exact ⟨⟨x, h x (List.mem_cons_self ..)⟩ :: m, by simp [hm]⟩

end Go.GL
