/-
  A depth-first search with a stack of nodes and edges, as plain mathematics. Nothing here is a claim.
-/
namespace Go.GL.Dfs

/-- The rows of successors: their entries are nodes. -/
structure Rows (R : List (List Int)) : Prop where
  ok : ∀ (a : Nat) r, R[a]? = some r → ∀ y ∈ r, ∃ b : Nat, y = (b : Int) ∧ b < R.length

/-- There is an edge. -/
def Edge (R : List (List Int)) (a b : Nat) : Prop := ∃ r, R[a]? = some r ∧ (b : Int) ∈ r
inductive Reach (R : List (List Int)) (root : Nat) : Nat → Prop
  | refl : Reach R root root
  | step {a b : Nat} : Reach R root a → Edge R a b → Reach R root b

theorem Reach.lt {R : List (List Int)} (hR : Rows R) {root x : Nat} (hr : root < R.length) (h : Reach R root x) : x < R.length := by
  cases h with
  | refl => exact hr
  | step _ h =>
    obtain ⟨r, h1, h2⟩ := h
    obtain ⟨b, h3, h4⟩ := hR.ok _ r h1 _ h2
    have := Int.ofNat.inj h3
    omega

/-- The search under way. -/
structure Inv (R : List (List Int)) (root : Nat) (seen : List Bool) (st : List (Nat × Nat)) (out : List Nat) : Prop where
  len : seen.length = R.length
  mark : ∀ x : Nat, seen[x]? = some true ↔ x ∈ st.map Prod.fst ∨ x ∈ out
  nodup : (st.map Prod.fst ++ out).Nodup
  done : ∀ x ∈ out, ∀ y : Nat, Edge R x y → seen[y]? = some true
  part : ∀ x e, (x, e) ∈ st → ∃ r, R[x]? = some r ∧ e ≤ r.length ∧ ∀ (i b : Nat), i < e → r[i]? = some (b : Int) → seen[b]? = some true
  reach : ∀ x : Nat, seen[x]? = some true → Reach R root x
  par : ∀ l c e m, st = l ++ (c, e) :: m → c = root ∨ ∃ p e', (p, e') ∈ l ∧ Edge R p c
  opar : ∀ l c m, out = l ++ c :: m → c = root ∨ ∃ p, Edge R p c ∧ (p ∈ st.map Prod.fst ∨ p ∈ m)
  top : (st = [] ∧ ∃ l, out = l ++ [root]) ∨ ∃ e m, st = (root, e) :: m

section
variable {R : List (List Int)} {root : Nat} {seen : List Bool} {st : List (Nat × Nat)} {out : List Nat}

theorem Inv.start (hr : root < R.length) : Inv R root ((List.replicate R.length false).set root true) [(root, 0)] [] := by
  have hs : ∀ x, ((List.replicate R.length false).set root true)[x]? = some true ↔ x = root := by
    intro x
    by_cases h : root = x
    · subst h; simp [hr]
    · rw [List.getElem?_set_ne h]
      constructor
      · intro h1
        have := List.eq_of_mem_replicate (List.mem_of_getElem? h1)
        cases this
      · intro h1; exact absurd h1.symm h
  refine ⟨by simp, ?_, by simp, by simp, ?_, ?_, ?_, ?_, .inr ⟨0, [], rfl⟩⟩
  · intro x; rw [hs]; simp
  · intro x e h
    simp at h
    obtain ⟨rfl, rfl⟩ := h
    exact ⟨_, List.getElem?_eq_getElem hr, Nat.zero_le _, fun i b h => by omega⟩
  · intro x h
    rw [hs] at h
    subst h; exact .refl
  · intro l c e m h
    cases l with
    | nil => simp at h; exact .inl h.1.1.symm
    | cons a l => simp at h
  · intro l c m h
    simp at h

/-- The top has no edge left: it goes to the list. -/
theorem Inv.pop {x e : Nat} {r : List Int} (h : Inv R root seen (st ++ [(x, e)]) out) (hr : R[x]? = some r) (he : e = r.length) : Inv R root seen st (out ++ [x]) := by
  refine ⟨h.len, ?_, ?_, ?_, ?_, h.reach, ?_, ?_, ?_⟩
  · intro y
    rw [h.mark]
    simp only [List.map_append, List.map_cons, List.map_nil, List.mem_append, List.mem_singleton]
    constructor
    · rintro ((h1 | h1) | h1)
      · exact .inl h1
      · exact .inr (.inr h1)
      · exact .inr (.inl h1)
    · rintro (h1 | h1 | h1)
      · exact .inl (.inl h1)
      · exact .inr h1
      · exact .inl (.inr h1)
  · have h1 := h.nodup
    simp only [List.map_append, List.map_cons, List.map_nil] at h1
    refine (List.Perm.nodup_iff ?_).1 h1
    rw [List.append_assoc]
    exact List.Perm.append_left _ (List.perm_append_comm)
  · intro y hy z hz
    rw [List.mem_append, List.mem_singleton] at hy
    rcases hy with hy | rfl
    · exact h.done y hy z hz
    · obtain ⟨r', h1, h2, h3⟩ := h.part y e (by simp)
      rw [hr] at h1; cases h1
      obtain ⟨r', h4, h5⟩ := hz
      rw [hr] at h4; cases h4
      obtain ⟨i, hi, hi'⟩ := List.mem_iff_getElem.1 h5
      exact h3 i z (by omega) (by rw [List.getElem?_eq_getElem hi, hi'])
  · intro y e' hy
    exact h.part y e' (by simp [hy])
  · intro l c e' m hl
    rcases h.par l c e' (m ++ [(x, e)]) (by simp [hl]) with h1 | ⟨p, e'', h1, h2⟩
    · exact .inl h1
    · exact .inr ⟨p, e'', h1, h2⟩
  · intro l c m hl
    rcases List.eq_nil_or_concat m with rfl | ⟨m', z, rfl⟩
    · have h1 : out = l ∧ x = c := by
        have h2 := hl
        rw [← List.concat_eq_append, ← List.concat_eq_append] at h2
        have h3 := congrArg List.getLast? hl
        have h4 := congrArg List.dropLast hl
        simp at h3 h4
        exact ⟨h4, h3⟩
      obtain ⟨rfl, rfl⟩ := h1
      rcases h.par st x e [] rfl with h1 | ⟨p, e', h1, h2⟩
      · exact .inl h1
      · exact .inr ⟨p, h2, .inl (List.mem_map.2 ⟨_, h1, rfl⟩)⟩
    · have h1 : out = l ++ c :: m' ∧ x = z := by
        have h3 := congrArg List.getLast? hl
        have h4 := congrArg List.dropLast hl
        rw [show l ++ c :: m'.concat z = (l ++ c :: m') ++ [z] from by simp] at h3 h4
        rw [List.dropLast_concat, List.dropLast_concat] at h4
        simp only [List.getLast?_append, List.getLast?_singleton, Option.some_or, Option.some.injEq] at h3
        exact ⟨h4, h3⟩
      obtain ⟨h1, rfl⟩ := h1
      rcases h.opar l c m' h1 with h2 | ⟨p, h2, h3⟩
      · exact .inl h2
      · refine .inr ⟨p, h2, ?_⟩
        simp only [List.map_append, List.map_cons, List.map_nil, List.mem_append, List.mem_singleton, List.concat_eq_append] at h3 ⊢
        rcases h3 with (h3 | h3) | h3
        · exact .inl h3
        · exact .inr (.inr h3)
        · exact .inr (.inl h3)
  · rcases h.top with ⟨h1, _⟩ | ⟨e', m, h1⟩
    · simp at h1
    · cases st with
      | nil =>
        simp at h1
        exact .inl ⟨rfl, out, by rw [h1.1.1]⟩
      | cons a s =>
        simp at h1
        exact .inr ⟨e', s, by rw [h1.1]⟩

/-- The edge leads to a node that has been seen. -/
theorem Inv.skip {x e : Nat} {r : List Int} {b : Nat} (h : Inv R root seen (st ++ [(x, e)]) out) (hr : R[x]? = some r) (hb : r[e]? = some (b : Int)) (hs : seen[b]? = some true) : Inv R root seen (st ++ [(x, e + 1)]) out := by
  have hm : (st ++ [(x, e + 1)]).map Prod.fst = (st ++ [(x, e)]).map Prod.fst := by simp
  have hlt : e < r.length := (List.getElem?_eq_some_iff.1 hb).1
  refine ⟨h.len, by rw [hm]; exact h.mark, by rw [hm]; exact h.nodup, h.done, ?_, h.reach, ?_, by rw [hm]; exact h.opar, ?_⟩
  · intro y e' hy
    rw [List.mem_append, List.mem_singleton] at hy
    rcases hy with hy | hy
    · exact h.part y e' (by simp [hy])
    · cases hy
      obtain ⟨r', h1, h2, h3⟩ := h.part x e (by simp)
      rw [hr] at h1; cases h1
      refine ⟨r, hr, by omega, fun i c hi hc => ?_⟩
      by_cases hie : i < e
      · exact h3 i c hie hc
      · have : i = e := by omega
        subst this
        rw [hb] at hc
        have := Int.ofNat.inj (Option.some.inj hc)
        subst this
        exact hs
  · intro l c e' m hl
    rcases List.eq_nil_or_concat m with rfl | ⟨m', z, rfl⟩
    · have h3 := congrArg List.getLast? hl
      have h4 := congrArg List.dropLast hl
      simp at h3 h4
      obtain ⟨rfl, rfl⟩ := h3
      subst h4
      exact h.par st x e [] rfl
    · have h3 := congrArg List.getLast? hl
      have h4 := congrArg List.dropLast hl
      rw [show l ++ (c, e') :: m'.concat z = (l ++ (c, e') :: m') ++ [z] from by simp] at h3 h4
      rw [List.dropLast_concat, List.dropLast_concat] at h4
      exact h.par l c e' (m' ++ [(x, e)]) (by rw [h4]; simp)
  · rcases h.top with ⟨h1, _⟩ | ⟨e', m, h1⟩
    · simp at h1
    · cases st with
      | nil =>
        simp at h1
        exact .inr ⟨e + 1, [], by simp [h1.1.1]⟩
      | cons a s =>
        simp at h1
        exact .inr ⟨e', s ++ [(x, e + 1)], by rw [h1.1]; simp⟩

/-- The edge leads to a new node. -/
theorem Inv.push {x e : Nat} {r : List Int} {b : Nat} (h : Inv R root seen (st ++ [(x, e)]) out) (hr : R[x]? = some r) (hb : r[e]? = some (b : Int)) (hs : seen[b]? = some false) : Inv R root (seen.set b true) (st ++ [(x, e + 1)] ++ [(b, 0)]) out := by
  have hbl : b < seen.length := (List.getElem?_eq_some_iff.1 hs).1
  have hse : ∀ y, (seen.set b true)[y]? = some true ↔ seen[y]? = some true ∨ y = b := by
    intro y
    by_cases hy : b = y
    · subst hy; simp [hbl]
    · rw [List.getElem?_set_ne hy]
      constructor
      · exact .inl
      · rintro (h1 | h1)
        · exact h1
        · exact absurd h1.symm hy
  have hm : (st ++ [(x, e + 1)] ++ [(b, 0)]).map Prod.fst = (st ++ [(x, e)]).map Prod.fst ++ [b] := by simp
  have hlt : e < r.length := (List.getElem?_eq_some_iff.1 hb).1
  have hedge : Edge R x b := ⟨r, hr, List.mem_of_getElem? hb⟩
  have hxs : seen[x]? = some true := (h.mark x).2 (.inl (by simp))
  have hbn : ¬ (b ∈ (st ++ [(x, e)]).map Prod.fst ∨ b ∈ out) := by
    intro h1
    have := (h.mark b).2 h1
    rw [hs] at this; cases this
  refine ⟨by simp [h.len], ?_, ?_, ?_, ?_, ?_, ?_, ?_, ?_⟩
  · intro y
    rw [hse, h.mark, hm]
    simp only [List.mem_append, List.mem_singleton]
    constructor
    · rintro ((h1 | h1) | h1)
      · exact .inl (.inl h1)
      · exact .inr h1
      · exact .inl (.inr h1)
    · rintro ((h1 | h1) | h1)
      · exact .inl (.inl h1)
      · exact .inr h1
      · exact .inl (.inr h1)
  · rw [hm, List.append_assoc]
    have h1 : ((st ++ [(x, e)]).map Prod.fst ++ ([b] ++ out)).Perm (b :: ((st ++ [(x, e)]).map Prod.fst ++ out)) := by
      exact List.perm_middle
    rw [h1.nodup_iff, List.nodup_cons]
    exact ⟨by rw [List.mem_append]; exact hbn, h.nodup⟩
  · intro y hy z hz
    rw [hse]
    exact .inl (h.done y hy z hz)
  · intro y e' hy
    simp only [List.mem_append, List.mem_singleton] at hy
    rcases hy with (hy | hy) | hy
    · obtain ⟨r', h1, h2, h3⟩ := h.part y e' (by simp [hy])
      exact ⟨r', h1, h2, fun i c hi hc => (hse c).2 (.inl (h3 i c hi hc))⟩
    · cases hy
      obtain ⟨r', h1, h2, h3⟩ := h.part x e (by simp)
      rw [hr] at h1; cases h1
      refine ⟨r, hr, by omega, fun i c hi hc => ?_⟩
      rw [hse]
      by_cases hie : i < e
      · exact .inl (h3 i c hie hc)
      · have : i = e := by omega
        subst this
        rw [hb] at hc
        exact .inr (Int.ofNat.inj (Option.some.inj hc)).symm
    · cases hy
      exact ⟨_, List.getElem?_eq_getElem (by rw [← h.len]; exact hbl), Nat.zero_le _, fun i c hi => by omega⟩
  · intro y hy
    rw [hse] at hy
    rcases hy with hy | rfl
    · exact h.reach y hy
    · exact .step (h.reach x hxs) hedge
  · intro l c e' m hl
    rcases List.eq_nil_or_concat m with rfl | ⟨m', z, rfl⟩
    · have h3 := congrArg List.getLast? hl
      have h4 := congrArg List.dropLast hl
      simp at h3
      rw [List.dropLast_concat, List.dropLast_concat] at h4
      obtain ⟨rfl, rfl⟩ := h3
      subst h4
      exact .inr ⟨x, e + 1, by simp, hedge⟩
    · have h4 := congrArg List.dropLast hl
      rw [show l ++ (c, e') :: m'.concat z = (l ++ (c, e') :: m') ++ [z] from by simp] at h4
      rw [List.dropLast_concat, List.dropLast_concat] at h4
      -- within st ++ [(x, e+1)]
      rcases List.eq_nil_or_concat m' with rfl | ⟨m'', z', rfl⟩
      · have h5 := congrArg List.getLast? h4
        have h6 := congrArg List.dropLast h4
        simp at h5
        rw [List.dropLast_concat, List.dropLast_concat] at h6
        obtain ⟨rfl, rfl⟩ := h5
        subst h6
        exact h.par st x e [] rfl
      · have h6 := congrArg List.dropLast h4
        rw [show l ++ (c, e') :: m''.concat z' = (l ++ (c, e') :: m'') ++ [z'] from by simp] at h6
        rw [List.dropLast_concat, List.dropLast_concat] at h6
        exact h.par l c e' (m'' ++ [(x, e)]) (by rw [h6]; simp)
  · intro l c m hl
    rcases h.opar l c m hl with h1 | ⟨p, h1, h2⟩
    · exact .inl h1
    · refine .inr ⟨p, h1, ?_⟩
      rw [hm, List.mem_append]
      rcases h2 with h2 | h2
      · exact .inl (.inl h2)
      · exact .inr h2
  · rcases h.top with ⟨h1, _⟩ | ⟨e', m, h1⟩
    · simp at h1
    · cases st with
      | nil =>
        simp at h1
        exact .inr ⟨e + 1, [(b, 0)], by simp [h1.1.1]⟩
      | cons a s =>
        simp at h1
        exact .inr ⟨e', s ++ [(x, e + 1)] ++ [(b, 0)], by rw [h1.1]; simp⟩

/-- The nodes in reverse postorder. -/
structure Order (R : List (List Int)) (root : Nat) (order : List Nat) : Prop where
  head : order[0]? = some root
  nodup : order.Nodup
  mem : ∀ x, x ∈ order ↔ Reach R root x
  par : ∀ (i c : Nat), order[i]? = some c → c ≠ root → ∃ j p : Nat, j < i ∧ order[j]? = some p ∧ Edge R p c

theorem Inv.finish (h : Inv R root seen [] out) : Order R root out.reverse := by
  obtain ⟨l, hl⟩ : ∃ l, out = l ++ [root] := by
    rcases h.top with ⟨_, h1⟩ | ⟨e, m, h1⟩
    · exact h1
    · cases h1
  refine ⟨by rw [hl]; simp, ?_, ?_, ?_⟩
  · have := h.nodup
    rw [(List.reverse_perm out).nodup_iff]
    simpa using this
  · intro x
    rw [List.mem_reverse]
    have hs : ∀ y, seen[y]? = some true ↔ y ∈ out := fun y => by rw [h.mark]; simp
    constructor
    · intro hx; exact h.reach x ((hs x).2 hx)
    · intro hx
      induction hx with
      | refl => rw [hl]; simp
      | step _ he ih => exact (hs _).1 (h.done _ ih _ he)
  · intro i c hc hne
    have hi : i < out.length := by
      have := (List.getElem?_eq_some_iff.1 hc).1
      simpa using this
    rw [List.getElem?_reverse hi] at hc
    obtain ⟨hk, hc'⟩ := List.getElem?_eq_some_iff.1 hc
    have hsplit : out = out.take (out.length - 1 - i) ++ c :: out.drop (out.length - 1 - i + 1) := by
      rw [← hc', ← List.drop_eq_getElem_cons hk, List.take_append_drop]
    rcases h.opar _ c _ hsplit with h1 | ⟨p, h1, h2⟩
    · exact absurd h1 hne
    · simp at h2
      obtain ⟨j, hj, hj'⟩ := List.mem_iff_getElem.1 h2
      rw [List.length_drop] at hj
      refine ⟨i - 1 - j, p, by omega, ?_, h1⟩
      rw [List.getElem?_reverse (by omega)]
      rw [List.getElem_drop] at hj'
      rw [← hj']
      rw [show out.length - 1 - (i - 1 - j) = out.length - 1 - i + 1 + j from by omega]
      exact List.getElem?_eq_getElem _
end

/-! how long it can go on -/
def deg (R : List (List Int)) (x : Nat) : Nat := (R[x]?.getD []).length
def dsum (R : List (List Int)) (seen : List Bool) : Nat := ((List.range R.length).map fun x => if seen[x]? = some false then deg R x + 2 else 0).sum
def ssum (R : List (List Int)) (st : List (Nat × Nat)) : Nat := (st.map fun f => deg R f.1 - f.2 + 1).sum

theorem sum_one (f g : Nat → Nat) (b c : Nat) : ∀ n, b < n → (∀ i, i ≠ b → f i = g i) → f b = g b + c → ((List.range n).map f).sum = ((List.range n).map g).sum + c
  | 0, h, _, _ => by omega
  | n + 1, h, h1, h2 => by
    rw [List.range_succ]
    simp only [List.map_append, List.map_cons, List.map_nil, List.sum_append, List.sum_cons, List.sum_nil]
    by_cases e : b = n
    · subst e
      have : (List.range b).map f = (List.range b).map g := List.map_congr_left (fun i hi => h1 i (by have := List.mem_range.1 hi; omega))
      rw [this]; omega
    · have := sum_one f g b c n (by omega) h1 h2
      have := h1 n (fun h => e h.symm)
      omega
theorem dsum_set {R : List (List Int)} {seen : List Bool} {b : Nat} (hl : seen.length = R.length) (hb : seen[b]? = some false) : dsum R seen = dsum R (seen.set b true) + (deg R b + 2) := by
  have hbl : b < seen.length := (List.getElem?_eq_some_iff.1 hb).1
  refine sum_one _ _ b _ _ (by omega) ?_ ?_
  · intro i hi
    rw [List.getElem?_set_ne (fun h => hi h.symm)]
  · rw [if_pos hb, List.getElem?_set_self hbl, if_neg (by simp)]
    omega
theorem ssum_snoc (R : List (List Int)) (st : List (Nat × Nat)) (x e : Nat) : ssum R (st ++ [(x, e)]) = ssum R st + (deg R x - e + 1) := by simp [ssum]
theorem deg_of {R : List (List Int)} {x : Nat} {r : List Int} (h : R[x]? = some r) : deg R x = r.length := by simp [deg, h]

theorem nodup_le : ∀ (n : Nat) (l : List Nat), l.Nodup → (∀ x ∈ l, x < n) → l.length ≤ n
  | 0, [], _, _ => Nat.le_refl _
  | 0, x :: _, _, h => absurd (h x (List.mem_cons_self ..)) (by omega)
  | n + 1, l, hn, h => by
    have h1 := nodup_le n (l.erase n) (hn.erase n) (fun x hx => by
      have h2 := (hn.mem_erase_iff).1 hx
      have := h x h2.2
      omega)
    have h2 : l.length ≤ (l.erase n).length + 1 := by rw [List.length_erase]; split <;> omega
    omega

/-- The places: of each node of the order its number, of the others -1. -/
structure Place (n : Nat) (order : List Nat) (pl : List Int) : Prop where
  len : pl.length = n
  inn : ∀ (i x : Nat), order[i]? = some x → pl[x]? = some (i : Int)
  out : ∀ x : Nat, x < n → x ∉ order → pl[x]? = some (-1)

theorem Place.start (n : Nat) : Place n [] (List.replicate n (-1)) := ⟨by simp, fun i x h => by simp at h, fun x hx _ => by simp [hx]⟩
theorem Place.step {n : Nat} {order : List Nat} {pl : List Int} {k x : Nat} (h : Place n (order.take k) pl) (hn : order.Nodup) (hx : order[k]? = some x) (hlt : x < n) : Place n (order.take (k + 1)) (pl.set x (k : Int)) := by
  obtain ⟨hk, rfl⟩ := List.getElem?_eq_some_iff.1 hx
  have hnk : order[k] ∉ order.take k := by
    intro hm
    obtain ⟨j, hj, hj'⟩ := List.mem_iff_getElem.1 hm
    rw [List.length_take] at hj
    rw [List.getElem_take] at hj'
    have := (List.getElem_inj hn).1 hj'
    omega
  refine ⟨by simp [h.len], ?_, ?_⟩
  · intro i y hy
    rw [List.getElem?_take] at hy
    split at hy
    · rename_i hik
      by_cases hi : i = k
      · subst hi
        rw [hx] at hy; cases hy
        rw [List.getElem?_set_self (by rw [h.len]; exact hlt)]
      · have hy' : (order.take k)[i]? = some y := by rw [List.getElem?_take, if_pos (by omega)]; exact hy
        have hne : order[k] ≠ y := fun e => hnk (e ▸ List.mem_of_getElem? hy')
        rw [List.getElem?_set_ne hne]
        exact h.inn i y hy'
    · cases hy
  · intro y hy hm
    rw [List.take_succ_eq_append_getElem hk, List.mem_append, List.mem_singleton] at hm
    rw [List.getElem?_set_ne (fun e => hm (.inr e.symm))]
    exact h.out y hy (fun h' => hm (.inl h'))
end Go.GL.Dfs
