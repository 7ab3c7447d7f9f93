/-
  Contracts and the mathematics that the proof needs. Nothing here is a claim.
-/
import Derived.Test.YtldhllpogdikdaaGreatKP5
namespace Go.GL
open Go.RowKit
def OwnsQ (w : World) (e : TypeId) (k : Nat) (v : Value) (n : Nat) (xs : List Value) : Prop :=
 xs.length = n * k ∧ ∃ g off cap cs, v = .slice (some ⟨g, off, none⟩) n cap ∧ Blk w g cs e ∧ n ≤ cap ∧ cap ≤ 9223372036854775807 ∧ off + cap * k ≤ cs.length ∧ (cs.drop off).take (n * k) = xs
theorem OwnsQ.keep {S : Nat → Prop} {w w' : World} {e : TypeId} {k : Nat} {v : Value} {n : Nat} {xs : List Value} (h : OwnsQ w e k v n xs) (hk : Keep S w w') (hn : ∀ q, v.ownBlock = some q → ¬ S q) : OwnsQ w' e k v n xs := by
 obtain ⟨h0, g, off, cap, cs, rfl, h1, h2⟩ := h
 exact ⟨h0, g, off, cap, cs, rfl, hk.blk h1 (hn g rfl), h2⟩
theorem OwnsQ.lt {w : World} {e : TypeId} {k : Nat} {v : Value} {n : Nat} {xs : List Value} (h : OwnsQ w e k v n xs) {q : Nat} (hq : v.ownBlock = some q) : q < w.heap.size := by
 obtain ⟨h0, g, off, cap, cs, rfl, h1, h2⟩ := h
 cases hq
 exact h1.lt
theorem OwnsQ.form {w : World} {e : TypeId} {k : Nat} {v : Value} {n : Nat} {xs : List Value} (h : OwnsQ w e k v n xs) : ∃ g off cap, v = .slice (some ⟨g, off, none⟩) n cap ∧ n ≤ cap ∧ cap ≤ 9223372036854775807 ∧ Cells w g off xs := by
 obtain ⟨h0, g, off, cap, cs, rfl, h1, h2, h3, h4, h5⟩ := h
 refine ⟨g, off, cap, rfl, h2, h3, fun j u hu => ?_⟩
 rw [← h5, List.getElem?_take] at hu
 split at hu
 ·
  rw [List.getElem?_drop] at hu
  have := Blk.cells h1 (off + j) u hu
  simpa using this
 · cases hu
theorem storeCells_ok {P : Program} {b o : Nat} {e : TypeId} : ∀ (us : List Value) (i : Nat) (w : World) (cs : List Value), (∀ u ∈ us, u.oneCell' = true) → Blk w b cs e → o + i + us.length ≤ cs.length →
   ∃ w', (storeCells ⟨b, o, none⟩ us i).run P w = .ok () w' ∧ Wrote w b (cs.take (o + i) ++ us ++ cs.drop (o + i + us.length)) e w' := by
 intro us
 induction us with
 | nil =>
  intro i w cs _ hb _
  refine ⟨w, by simp [storeCells], rfl, ?_, Keep.refl _ _⟩
  simpa using hb
 | cons u r ih =>
  intro i w cs h1 hb hl
  simp only [List.length_cons] at hl
  have hcell : w.cell? ⟨b, o + i, none⟩ = some cs[o + i] := by
   have := hb.cells (o + i) cs[o + i] (List.getElem?_eq_getElem (by omega))
   simpa using this
  have hst : ∀ m, (Go.store ⟨b, o + i, none⟩ u m).run P w = .ok () (w.setCell ⟨b, o + i, none⟩ u) := by
   intro m
   rw [run_store P w _ u m (h1 u (by simp))]
   simp [hcell, hb.frozen]
  obtain ⟨w', hr, hsz, hB, hK⟩ := ih (i + 1) (w.setCell ⟨b, o + i, none⟩ u) (cs.set (o + i) u) (fun x hx => h1 x (by simp [hx])) (hb.set u) (by simp; omega)
  refine ⟨w', ?_, by rw [hsz]; simp, ?_, (Keep.setCell w b (o + i) u).trans hK (fun _ _ h => h)⟩
  · simp [storeCells, addr_add, hst, hr]
  ·
   have e1 : (cs.set (o + i) u).take (o + (i + 1)) = cs.take (o + i) ++ [u] := by
    rw [show o + (i + 1) = (o + i) + 1 from by omega, List.take_succ_eq_append_getElem (by simp; omega)]
    simp [List.take_set_of_le]
   have e2 : (cs.set (o + i) u).drop (o + (i + 1) + r.length) = cs.drop (o + i + (u :: r).length) := by
    rw [List.drop_set_of_lt (by omega)]
    simp only [List.length_cons, Nat.add_assoc, Nat.add_comm 1]
   rw [e1, e2] at hB
   simpa using hB
section
variable {P : Program} {env : Env} {w : World} {dst : Option Tmp} {ty : TypeId} {pos : String} {aft : Array Edge} {g : Option (Nat × Bool)}
theorem M.appendQ {t e : TypeId} {k by' : Nat} {z : Value} {x y : Operand} {v : Value} {m : Nat} {xs : List Value} {a0 : Addr} {j c : Nat} {news : List Value} (hu : P.underlying t = some (.slice e)) (he : (P.info? e).map (fun i => (i.zero, i.size, i.bytes)) = some (some z, k, by')) (hzs : z.cells.size = k) (hk : 0 < k)
  (hx : ev env x = some v) (hy : ev env y = some (.slice (some a0) j c)) (hown : OwnsQ w e k v m xs) (hl : news.length = j * k) (hnews : ∀ q u, news[q]? = some u → w.cell? (a0.add q) = some u) (h1 : ∀ u ∈ news, u.oneCell' = true) (hmax : m + j ≤ 9223372036854775807) (hby : (m + j) * by' ≤ 140737488355328) :
  Makes P ⟨dst, .call ⟨.builtin .append, #[x, y], #[t, t]⟩, ty, pos, aft, g⟩ env w (fun u w' => OwnsQ w' e k u (m + j) (xs ++ news) ∧ (u.ownBlock = v.ownBlock ∨ ∃ g, u.ownBlock = some g ∧ w.heap.size ≤ g) ∧ Keep (fun k => v.ownBlock = some k) w w') := by
 obtain ⟨i, hi, hz0, hz1, hz2⟩ := info_parts he
 subst hz1
 subst hz2
 have hform := hown.form
 obtain ⟨hx0, g0, off, cap, cs, rfl, hB, hnc, hcm, hfit, htake⟩ := hown
 have holds : Cells w g0 off xs := by
  obtain ⟨_, _, _, he, _, _, hc⟩ := hform
  cases he
  exact hc
 have hlen : (xs ++ news).length = (m + j) * i.size := by rw [List.length_append, hx0, hl, Nat.add_mul]
 have hmx : m + j ≤ maxLen := by simpa [maxLen] using hmax
 suffices H : ∃ v' w', (Builtin.append_ #[t, t] ty #[.slice (some ⟨g0, off, none⟩) m cap, .slice (some a0) j c]).run P w = .ok v' w' ∧ (OwnsQ w' e i.size v' (m + j) (xs ++ news) ∧ (v'.ownBlock = some g0 ∨ ∃ g, v'.ownBlock = some g ∧ w.heap.size ≤ g) ∧ Keep (fun k => some g0 = some k) w w') by
  obtain ⟨v', w', hr, h⟩ := H
  refine ⟨v', w', ?_, h⟩
  intro n a ha
  simp [execOp, resolve, invoke, builtin, ha.eval hx, ha.eval hy, hr]
 by_cases hroom : m + j ≤ cap
 ·
  have hmj : (m + j) * i.size ≤ cap * i.size := Nat.mul_le_mul_right _ hroom
  rw [Nat.add_mul] at hmj
  obtain ⟨w', hr, hsz, hB', hK⟩ := storeCells_ok (P := P) (o := off + m * i.size) news 0 w cs h1 hB (by rw [hl]; omega)
  have hfc := run_firstCells_some (P := P) w i.size j a0 j c news hl hnews
  refine ⟨.slice (some ⟨g0, off, none⟩) (m + j) cap, w', ?_, ⟨hlen, g0, off, cap, _, rfl, hB', hroom, hcm, ?_, ?_⟩, .inl rfl, hK.mono fun q _ h => congrArg some h.symm⟩
  · simp [Builtin.append_, run_underlying hu, sizeOf, typeInfo, hi, Builtin.lenOf, hroom, hfc, Addr.add_lit, hr]
  ·
   simp only [List.length_append, List.length_take, List.length_drop]
   omega
  ·
   have e1 : cs.take (off + m * i.size + 0) = cs.take off ++ xs := by
    rw [Nat.add_zero, ← htake, ← List.take_add]
   rw [e1, List.append_assoc, List.append_assoc, List.drop_left' (by rw [List.length_take]; omega), ← hlen, ← List.append_assoc]
   exact List.take_left
 ·
  have hr := run_append_grow (P := P) w t ty e i z hu hi hz0 ⟨g0, off, none⟩ m cap xs hx0 (Cells.add holds) a0 j c news hl hnews (by omega) (by omega) (growslice_fits (by omega) hby)
  have hge := grownCap_ge w (m + j) cap e
  have hcm2 : grownCap w (m + j) cap e ≤ maxLen := grownCap_le_maxLen w (m + j) cap e hmx
  generalize harr : xs.toArray ++ news.toArray ++ Builtin.zeroCells z.cells (grownCap w (m + j) cap e - (m + j)) = arr at hr
  have hB' : Blk (w.drew.alloc (.cells arr e)) w.heap.size arr.toList e := by
   unfold Blk
   rw [Array.toArray_toList]
   exact heap_alloc_new w.drew _
  refine ⟨_, _, hr, ⟨hlen, w.heap.size, 0, _, _, rfl, hB', hge, by simpa [maxLen] using hcm2, ?_, ?_⟩, .inr ⟨_, rfl, Nat.le_refl _⟩, ((Keep.refl _ w).ext (Keep.drew w)).ext (Keep.alloc _ _)⟩
  ·
   have h3 : arr.size = grownCap w (m + j) cap e * i.size := by
    rw [← harr]
    simp only [Array.size_append, List.size_toArray, size_zeroCells, hzs, hx0, hl, ← Nat.add_mul]
    congr 1
    omega
   rw [Array.length_toList]
   omega
  ·
   rw [← harr]
   simp only [Array.toList_append, List.append_assoc, List.drop_zero]
   rw [← List.append_assoc, ← hlen]
   exact List.take_left
end
abbrev Qu (e : TypeId) (kk : Nat) (v : Value) (m : Nat) (xs : List Value) : HE := .res (fun q => v.ownBlock = some q) (fun w => OwnsQ w e kk v m xs)
theorem Qu.loc {e : TypeId} {kk : Nat} {v : Value} {m : Nat} {xs : List Value} : (Qu e kk v m xs).loc := fun _ _ _ h hk hT => h.keep hk fun q hq => hT q (h.lt hq) hq
abbrev MatP {α : Type} (enc : α → Value) (e eo : TypeId) (B : Nat) (bo : Nat) (rv : List Value) (rows : List (List α)) : HE := .res (fun q => q = bo ∨ ∃ (i : Nat) (v : Value), rv[i]? = some v ∧ v.ownBlock = some q) (fun w => Mat enc e eo B w bo rv rows)
theorem MatP.loc {α : Type} {enc : α → Value} {e eo : TypeId} {B bo : Nat} {rv : List Value} {rows : List (List α)} : (MatP enc e eo B bo rv rows).loc := fun _ _ _ h hk hT => h.keep hk (hT bo h.out.lt (.inl rfl)) fun i v g hv hg => hT g (h.blk hv hg) (.inr ⟨i, v, hv, hg⟩)
theorem VI.nilS (w : World) (S : Nat → Prop) : VI [(w, S)] [] w where
 holds := fun _ h => by cases h
 loc := fun _ h => by cases h
 apart := List.Pairwise.nil
 froz := fun _ h => by cases h
 low := fun _ h => by cases h
 base := fun p hp => by
  rw [List.mem_singleton] at hp
  subst hp
  exact ⟨Keep.refl _ _, fun _ h => by cases h⟩
theorem VI.add {Bs : Bases} {H : Hp} {w : World} {e : HE} (h : VI Bs H w) (k : Nat) (he : e.holds w) (hl : e.loc) (hz : ∀ b, ¬ e.fz b) (hS : ∀ q, e.S q → q < w.heap.size ∧ (∀ p ∈ Bs, p.2 q ∨ p.1.heap.size ≤ q) ∧ ∀ x ∈ H, ¬ x.2.S q ∧ ¬ x.2.fz q) : VI Bs ((k, e) :: H) w := by
 refine ⟨?_, ?_, ?_, ?_, ?_, ?_⟩
 ·
  intro x hx
  rcases List.mem_cons.1 hx with rfl | hx
  · exact he
  · exact h.holds x hx
 ·
  intro x hx
  rcases List.mem_cons.1 hx with rfl | hx
  · exact hl
  · exact h.loc x hx
 · exact List.pairwise_cons.2 ⟨fun x hx q hq hs => ((hS q hq).2.2 x hx).1 hs, h.apart⟩
 ·
  intro x hx y hy b hb
  rcases List.mem_cons.1 hx with rfl | hx
  · exact absurd hb (hz b)
  ·
   rcases List.mem_cons.1 hy with rfl | hy
   · exact fun hs => ((hS b hs).2.2 x hx).2 hb
   · exact h.froz x hx y hy b hb
 ·
  intro x hx q hq
  rcases List.mem_cons.1 hx with rfl | hx
  · exact (hS q hq).1
  · exact h.low x hx q hq
 ·
  intro p hp
  refine ⟨(h.base p hp).1, fun x hx q hq => ?_⟩
  rcases List.mem_cons.1 hx with rfl | hx
  · exact (hS q hq).2.1 p hp
  · exact (h.base p hp).2 x hx q hq
structure RowsOk {α : Type} (enc : α → Value) (e : TypeId) (w : World) (rv : List Value) (rows : List (List α)) : Prop where
 len : rv.length = rows.length
 row : ∀ (i : Nat) (v : Value) (r : List α), rv[i]? = some v → rows[i]? = some r → w.ownsRow 0 e 1 v r.length (r.map enc)
 apart : ∀ (i j : Nat) (vi vj : Value) (g : Nat), i ≠ j → rv[i]? = some vi → rv[j]? = some vj → vi.ownBlock = some g → vj.ownBlock ≠ some g
theorem Mat.rows {α : Type} {enc : α → Value} {e eo : TypeId} {B : Nat} {w : World} {bo : Nat} {rv : List Value} {rows : List (List α)} (h : Mat enc e eo B w bo rv rows) : RowsOk enc e w rv rows := ⟨h.len, h.row, h.apart⟩
section
variable {α : Type} {enc : α → Value} {e : TypeId} {w w1 : World} {rv : List Value} {rows : List (List α)}
theorem RowsOk.blk (h : RowsOk enc e w rv rows) {i : Nat} {v : Value} {g : Nat} (hv : rv[i]? = some v) (hg : v.ownBlock = some g) : g < w.heap.size := by
 have hi : i < rows.length := by rw [← h.len]; exact (List.getElem?_eq_some_iff.1 hv).1
 exact own_lt (h.row i v _ hv (List.getElem?_eq_getElem hi)) hg
theorem RowsOk.keep {S : Nat → Prop} (h : RowsOk enc e w rv rows) (hk : Keep S w w1) (hS : ∀ (i : Nat) v g, rv[i]? = some v → v.ownBlock = some g → ¬ S g) : RowsOk enc e w1 rv rows :=
 ⟨h.len, fun i v r hv hr => own_keep (h.row i v r hv hr) hk (fun g hg => hS i v g hv hg), h.apart⟩
theorem RowsOk.put (h : RowsOk enc e w rv rows) {i : Nat} {v v' : Value} {r' : List α} (hv : rv[i]? = some v) (hown : w1.ownsRow 0 e 1 v' r'.length (r'.map enc)) (hfr : v'.ownBlock = v.ownBlock ∨ ∃ g, v'.ownBlock = some g ∧ w.heap.size ≤ g) (hk : Keep (fun q => v.ownBlock = some q) w w1) : RowsOk enc e w1 (rv.set i v') (rows.set i r') := by
 have hil := (List.getElem?_eq_some_iff.1 hv).1
 have hne : ∀ (j : Nat) u g, i ≠ j → rv[j]? = some u → v'.ownBlock = some g → u.ownBlock ≠ some g := by
  intro j u g hij hu hg hug
  rcases hfr with hf | ⟨g', hf, hg'⟩
  · exact h.apart i j v u g hij hv hu (hf ▸ hg) hug
  ·
   rw [hf] at hg; cases hg
   have := h.blk hu hug
   omega
 refine ⟨by simp [h.len], fun j u r hu hr => ?_, fun a b va vb g hab ha hb hg => ?_⟩
 ·
  by_cases hij : i = j
  ·
   subst hij
   rw [List.getElem?_set_self hil] at hu
   rw [List.getElem?_set_self (by rw [← h.len]; exact hil)] at hr
   cases hu; cases hr
   exact hown
  ·
   rw [List.getElem?_set_ne hij] at hu hr
   exact own_keep (h.row j u r hu hr) hk fun g hg hq => h.apart i j v u g hij hv hu hq hg
 ·
  by_cases hia : i = a
  ·
   subst hia
   rw [List.getElem?_set_self hil] at ha
   rw [List.getElem?_set_ne hab] at hb
   cases ha
   exact hne b vb g hab hb hg
  ·
   rw [List.getElem?_set_ne hia] at ha
   by_cases hib : i = b
   ·
    subst hib
    rw [List.getElem?_set_self hil] at hb
    cases hb
    exact fun hg' => hne a va g hia ha hg' hg
   ·
    rw [List.getElem?_set_ne hib] at hb
    exact h.apart a b va vb g hab ha hb hg
end
abbrev RowsP {α : Type} (enc : α → Value) (e : TypeId) (rv : List Value) (rows : List (List α)) : HE := .res (fun q => ∃ (i : Nat) (v : Value), rv[i]? = some v ∧ v.ownBlock = some q) (fun w => RowsOk enc e w rv rows)
theorem RowsP.loc {α : Type} {enc : α → Value} {e : TypeId} {rv : List Value} {rows : List (List α)} : (RowsP enc e rv rows).loc := fun _ _ _ h hk hT => h.keep hk fun i v g hv hg => hT g (h.blk hv hg) ⟨i, v, hv, hg⟩
theorem Blk.ix {w : World} {b : Nat} {cs : List Value} {e : TypeId} {i : Nat} {v : Value} (h : Blk w b cs e) (hv : cs[i]? = some v) : w.cell? ⟨b, 0 + (i : Int).toNat * 1, none⟩ = some v := by
 have := Blk.cells h i v hv
 simpa using this
theorem MatP.cell {α : Type} {enc : α → Value} {e eo : TypeId} {B bo : Nat} {rv : List Value} {rows : List (List α)} {w : World} {i : Nat} {v : Value} (h : (MatP enc e eo B bo rv rows).holds w) (hv : rv[i]? = some v) : w.cell? ⟨bo, 0 + (i : Int).toNat * 1, none⟩ = some v := by
 have := Blk.cells (Mat.out (show Mat enc e eo B w bo rv rows from h)) i v hv
 simpa using this
theorem Qu.cell0 {w : World} {e : TypeId} {gb off m c : Nat} {u : Value} {xs : List Value} (h : (Qu e 1 (.slice (some ⟨gb, off, none⟩) m c) m (u :: xs)).holds w) : w.cell? ⟨gb, off, none⟩ = some u := by
 obtain ⟨g, o, c', he, _, _, hc⟩ := OwnsQ.form (show OwnsQ w e 1 _ m (u :: xs) from h)
 cases he
 exact hc 0 u rfl
section
variable {P : Program} {T : Tab} {Z : Szs} {n : Nat} {Q : Exit → Act → World → Prop} {ks : List Fr} {pos : Pos} {env : Env} {A : Tgs} {H Hs : Hp} {Bs B0 : Bases} {ops : Array Oper} {rest : List Oper} {v : Value} {L : List Nat} {fuel : Nat} {listed : Array Bool}
variable {d : Nat} {op : Op} {ty : TypeId} {ps : String} {aft : Array Edge} {g : Option (Nat × Bool)}
theorem V.inM {w : World} (k : Nat) (e : HE) (he : e.holds w) (hl : e.loc) (hz : ∀ b, ¬ e.fz b) (hS : ∀ q, e.S q → q < w.heap.size) (h : V P n Q ks pos env [] [(k, e)] [(w, e.S)]) : G P n Q ks pos env w :=
 h TgOk.nil w ((VI.nilS w e.S).add k he hl hz fun q hq => ⟨hS q hq, fun p hp => by rw [List.mem_singleton] at hp; subst hp; exact .inl hq, fun x hx => by cases hx⟩)
theorem V.chg (k : Nat) {e e' : HE} (hn : (hget H k, hadr H k) = (some e, none)) (he : ∀ w, VI Bs H w → e'.holds w) (hl : e'.loc) (hz : ∀ b, ¬ e'.fz b) (hS : ∀ q, e'.S q → e.S q) (h : V P n Q ks pos env A (hset H k e') Bs) : V P n Q ks pos env A H Bs := by
 simp only [Prod.mk.injEq] at hn
 exact fun hA w hI => h (hA.res hn.1 hn.2) w (hI.set hn.1 (Keep.refl _ _) (he w hI) hl hz fun q hq => ⟨.inl (hS q hq), hI.low _ (hget_mem hn.1) q (hS q hq)⟩)
theorem V.as (k : Nat) {b : Nat} {cs : List Value} {t : TypeId} {e' : HE} (hn : hget H k = some (.own b cs t)) (hA : A.all (fun p => match p.2 with | some (j, _) => !Nat.beq k j | none => true) = true) (he : ∀ w, Blk w b cs t → e'.holds w) (hl : e'.loc) (hz : ∀ b, ¬ e'.fz b) (hS : ∀ q, e'.S q → q = b) (h : V P n Q ks pos env A (hset H k e') Bs) : V P n Q ks pos env A H Bs := by
 refine fun hA0 w hI => h ?_ w (hI.set hn (Keep.refl _ _) (he w (hI.at k hn)) hl hz fun q hq => ⟨.inl (hS q hq), hI.low _ (hget_mem hn) q (hS q hq)⟩)
 intro s j off hs
 obtain ⟨b', o, h1, h2⟩ := hA0 s j off hs
 have hkj : Nat.beq k j = false := by
  have : ∀ (A : Tgs), A.all (fun p => match p.2 with | some (j, _) => !Nat.beq k j | none => true) = true → tgt A s = some (j, off) → Nat.beq k j = false := by
   intro A
   induction A with
   | nil => intro _ h; cases h
   | cons p r ih =>
    obtain ⟨s0, gg⟩ := p
    intro h3 h4
    rw [List.all_cons, Bool.and_eq_true] at h3
    simp only [tgt] at h4
    cases hb : Nat.beq s0 s with
    | true =>
     rw [hb] at h4
     simp only [cond_true] at h4
     subst h4
     simpa using h3.1
    | false => rw [hb] at h4; exact ih h3.2 h4
  exact this A hA hs
 refine ⟨b', o, ?_, h2⟩
 unfold hadr at h1 ⊢
 rw [hget_set hn, hkj]
 exact h1
theorem V.que (k : Nat) {b m c : Nat} {cs : List Value} {t : TypeId} {kk : Nat} (hn : hget H k = some (.own b cs t)) (hA : A.all (fun p => match p.2 with | some (j, _) => !Nat.beq k j | none => true) = true) (hc : cs.length = m * kk ∧ m = c ∧ c ≤ 9223372036854775807)
  (h : V P n Q ks pos env A (hset H k (Qu t kk (.slice (some ⟨b, 0, none⟩) m c) m cs)) Bs) : V P n Q ks pos env A H Bs := by
 obtain ⟨h1, rfl, h3⟩ := hc
 exact V.as (e' := Qu t kk (.slice (some ⟨b, 0, none⟩) m m) m cs) k hn hA (fun w hB => ⟨h1, b, 0, m, cs, rfl, hB, Nat.le_refl _, h3, by omega, by rw [List.drop_zero, ← h1, List.take_length]⟩) Qu.loc (fun _ h => h) (fun q hq => by have hq : some b = some q := hq; cases hq; rfl) h
theorem V.formQ (k : Nat) {e : TypeId} {kk m : Nat} {xs : List Value} (hn : hget H k = some (Qu e kk v m xs)) (h : ∀ gb off c, v = .slice (some ⟨gb, off, none⟩) m c → m ≤ c → V P n Q ks pos env A H Bs) : V P n Q ks pos env A H Bs := by
 intro hA w hI
 obtain ⟨gb, off, c, h1, h2, _⟩ := OwnsQ.form (show OwnsQ w e kk v m xs from hI.at k hn)
 exact h gb off c h1 h2 hA w hI
theorem V.apQ (k kb : Nat) {t e : TypeId} {kk by' : Nat} {z : Value} {x y : Operand} {m b j c : Nat} {xs cs : List Value} {tb : TypeId} (hu : P.underlying t = some (.slice e)) (he : (P.info? e).map (fun i => (i.zero, i.size, i.bytes)) = some (some z, kk, by')) (hzs : z.cells.size = kk) (hk0 : 0 < kk)
  (hn : (Nat.blt d n, gd ops env g, hget H k, ev env x, hget H kb, ev env y, ones cs) = (true, some true, some (Qu e kk v m xs), some v, some (.own b cs tb), some (.slice (some ⟨b, 0, none⟩) j c), true)) (hl : cs.length = j * kk) (hmax : m + j ≤ 9223372036854775807) (hby : (m + j) * by' ≤ 140737488355328)
  (h : ∀ u, V P n Q ks (.o ops rest) ((d, u) :: env) ((d, none) :: A) (hset H k (Qu e kk u (m + j) (xs ++ cs))) Bs) : V P n Q ks (.o ops (⟨some d, .call ⟨.builtin .append, #[x, y], #[t, t]⟩, ty, ps, aft, g⟩ :: rest)) env A H Bs := by
 simp only [Prod.mk.injEq] at hn
 obtain ⟨h1, h2, h3, h4, h5, h6, h7⟩ := hn
 refine fun hA w hI => G.mem h1 h2 (M.appendQ hu he hzs hk0 h4 h6 (hI.at k h3) hl (Cells.add (Blk.cells (hI.at kb h5))) (ones_ok h7) hmax hby) ?_
 rintro u w' ⟨ho, hf, hk⟩
 refine h u (TgOk.none (hA.res h3 ?_)) w' (hI.set h3 hk ho Qu.loc (fun _ h => h) (fun q hq => ⟨?_, ho.lt hq⟩))
 · simp [hadr, h3]
 ·
  rcases hf with hf | ⟨g', hf, hg'⟩
  · exact .inl (by show v.ownBlock = some q; rw [← hf]; exact hq)
  ·
   have hq : u.ownBlock = some q := hq
   rw [hf] at hq; cases hq; exact .inr hg'
theorem V.tailQ (k : Nat) {t e : TypeId} {kk m : Nat} {kd : IntKind} {x lo : Operand} {xs : List Value} (hu : ∀ w, (underlying t).run P w = .ok (.slice e) w) (hs : ∀ w, (sizeOf e).run P w = .ok kk w)
  (hn : (Nat.blt d n, gd ops env g, hget H k, ev env x, ev env lo) = (true, some true, some (Qu e kk v (m + 1) xs), some v, some (.int kd 1)))
  (h : ∀ u, V P n Q ks (.o ops rest) ((d, u) :: env) ((d, none) :: A) (hset H k (Qu e kk u m (xs.drop kk))) Bs) : V P n Q ks (.o ops (⟨some d, .slice t x (some lo) none none, ty, ps, aft, g⟩ :: rest)) env A H Bs := by
 simp only [Prod.mk.injEq] at hn
 obtain ⟨h1, h2, h3, h4, h5⟩ := hn
 intro hA w hI
 obtain ⟨hx0, g0, off, cap, cs, rfl, hB, hnc, hcm, hfit, htake⟩ := (show OwnsQ w e kk v (m + 1) xs from hI.at k h3)
 have hr := R.sliceLo (dst := some d) (ty := ty) (pos := ps) (aft := aft) (g := g) (w := w) hu hs h4 h5 (by omega)
 refine G.ops1 h1 h2 hr ?_
 have key : ∀ off' : Nat, off' = off + kk ∨ cap = 1 ∧ off' = off → OwnsQ w e kk (.slice (some ⟨g0, off', none⟩) m (cap - 1)) m (xs.drop kk) := by
  intro off' ho
  have hmk : (m + 1) * kk = m * kk + kk := Nat.succ_mul ..
  refine ⟨by rw [List.length_drop, hx0]; omega, g0, off', cap - 1, cs, rfl, hB, by omega, by omega, ?_, ?_⟩
  ·
   obtain ⟨c', rfl⟩ : ∃ c', cap = c' + 1 := ⟨cap - 1, by omega⟩
   rw [Nat.succ_mul] at hfit
   simp only [Nat.add_sub_cancel]
   omega
  ·
   rw [← htake]
   rcases ho with rfl | ⟨rfl, rfl⟩
   · rw [List.drop_take, List.drop_drop, hmk, Nat.add_sub_cancel]
   ·
    obtain rfl : m = 0 := by omega
    simp
 have key2 : ∀ u, (∃ off', u = .slice (some ⟨g0, off', none⟩) m (cap - 1) ∧ (off' = off + kk ∨ cap = 1 ∧ off' = off)) → G P n Q ks (.o ops rest) ((d, u) :: env) w := by
  rintro u ⟨off', rfl, ho⟩
  exact h _ (TgOk.none (hA.res h3 (by simp [hadr, h3]))) w (hI.set h3 (Keep.refl _ _) (key off' ho) Qu.loc (fun _ h => h) (fun q hq => ⟨.inl hq, (key off' ho).lt hq⟩))
 refine key2 _ ?_
 by_cases hc1 : cap = 1
 · exact ⟨off, by simp [hc1], .inr ⟨hc1, rfl⟩⟩
 · exact ⟨off + kk, by rw [if_neg (by omega)]; simp [addr_add], .inl rfl⟩
theorem VD.ldH (i : Nat) (hi : ops[i]? = some ⟨some d, op, ty, ps, aft, g⟩) (hc : (Region.noSelect ops && Region.free .any ops listed i && (Region.ready .any ops listed).contains i && L.all (waitsFor .any ops i) && !L.contains i) = true) (hn : (Nat.blt d n, gd ops env g) = (true, some true)) (j : Nat) (hB : Bs.drop j = B0) (hu : uniq (Hs.map (·.1)) = true) (hr : ∀ w, VI B0 Hs w → Runs P ⟨some d, op, ty, ps, aft, g⟩ env w v w)
  (h : VD P n Q ks ops Hs B0 L fuel (listed.setIfInBounds i true) ((d, v) :: env) ((d, none) :: A) H Bs) : VD P n Q ks ops Hs B0 L (fuel + 1) listed env A H Bs := by
 simp only [Prod.mk.injEq] at hn
 subst hB
 exact fun hH hA w hI => WD.takeG i hi hc rfl hn.1 ((hI.drop j).pick hH hu) (.inl ⟨gd_ok hn.2, hr⟩) (h hH hA.none w hI)
theorem WD.eff0L (i : Nat) {S : World → Prop} {Q : Exit → Act → World → Prop} {op : Op} {w : World} {R : World → Prop} (hi : ops[i]? = some ⟨none, op, ty, ps, aft, g⟩) (hr : Region.ready .any ops listed = [i]) (hg : gd ops env g = some true) (hL : L.contains i = true) (hm : Makes0 P ⟨none, op, ty, ps, aft, g⟩ env w R)
  (h : ∀ w', R w' → WD P n ops Q S L fuel (listed.setIfInBounds i true) env w') : WD P n ops Q S L (fuel + 1) listed env w := by
 intro a ha
 refine ⟨fun h0 => (by rw [hr] at h0; cases h0), fun k hk => ?_⟩
 rw [hr] at hk
 have : k = i := by simpa using hk
 subst this
 unfold wpOp
 simp only [hi]
 rw [if_pos (gd_ok hg a ha)]
 refine .inl ?_
 obtain ⟨w', hrun, hR⟩ := hm
 unfold Oper.wp
 rw [hrun n a ha, Oper.upon_skip]
 exact ⟨fun hc _ => absurd (by simpa using hL) hc, h w' hR _ ha.put0⟩
theorem V.split (k k2 : Nat) {α : Type} {enc : α → Value} {e eo : TypeId} {B bo : Nat} {rv : List Value} {rows : List (List α)} (hn : (hget H k, hadr H k, (hget H k2).isNone) = (some (MatP enc e eo B bo rv rows), none, true)) (h : V P n Q ks pos env A ((k2, RowsP enc e rv rows) :: hset H k (.own bo rv eo)) Bs) : V P n Q ks pos env A H Bs := by
 simp only [Prod.mk.injEq, Option.isNone_iff_eq_none] at hn
 obtain ⟨h1, h2, h3⟩ := hn
 intro hA w hI
 have hM : Mat enc e eo B w bo rv rows := hI.at k h1
 have hm := hget_mem h1
 have hI2 := hI.set (e' := .own bo rv eo) h1 (Keep.refl _ _) hM.out trivial (fun _ h => h) fun q hq => ⟨.inl (.inl hq), by have hq : q = bo := hq; rw [hq]; exact hM.out.lt⟩
 have hkk : Nat.beq k k2 = false := by
  cases hb : Nat.beq k k2 with
  | true => rw [← Nat.eq_of_beq_eq_true hb, h1] at h3; cases h3
  | false => rfl
 refine h ((hA.res h1 h2).new ?_) w (hI2.add k2 hM.rows RowsP.loc (fun _ h => h) ?_)
 · rw [hget_set h1, hkk]; exact h3
 rintro q ⟨i, v, hv, hq⟩
 have hS : (MatP enc e eo B bo rv rows).S q := .inr ⟨i, v, hv, hq⟩
 refine ⟨hM.blk hv hq, fun p hp => (hI.base p hp).2 _ hm q hS, ?_⟩
 exact (hset_apart (e' := .own bo rv eo) (B := w.heap.size) h1 hI.apart (fun q hq => .inl (.inl hq)) hI.low).2 (fun x => ¬ x.2.S q ∧ ¬ x.2.fz q) ⟨fun hh => (hM.far i v q hv hq).2 hh, fun h => h⟩ fun x hx hap => ⟨fun hs => hap q hs hS, fun hf => hI.froz x hx _ hm q hf hS⟩
theorem VI.mat {α : Type} {enc : α → Value} {e eo : TypeId} {bo : Nat} {rv : List Value} {rows : List (List α)} {w : World} (hI : VI Bs H w) (k k2 : Nat) (h1 : hget H k = some (.own bo rv eo)) (h2 : hget H k2 = some (RowsP enc e rv rows)) (h3 : Nat.beq k k2 = false) : (MatP enc e eo 0 bo rv rows).holds w := by
 have hB : Blk w bo rv eo := hI.at k h1
 have hR : RowsOk enc e w rv rows := hI.at k2 h2
 have hap := hget_apart hI.apart h1 h2 h3
 exact ⟨hB, hR.len, hR.row, fun i v g hv hg => ⟨Nat.zero_le _, fun he => hap g he ⟨i, v, hv, hg⟩⟩, hR.apart⟩
theorem VI.matS {α : Type} {enc : α → Value} {e eo : TypeId} {bo : Nat} {rv : List Value} {rows : List (List α)} {w w0 : World} {S : Nat → Prop} (hI : VI ((w0, S) :: Bs) H w) (k k2 : Nat) (h1 : hget H k = some (.own bo rv eo)) (h2 : hget H k2 = some (RowsP enc e rv rows)) : ∀ q, (MatP enc e eo 0 bo rv rows).S q → (S q ∨ w0.heap.size ≤ q) ∧ q < w.heap.size := by
 have hb := (hI.base _ (List.mem_cons_self ..)).2
 rintro q (hq | hq)
 · exact ⟨hb _ (hget_mem h1) q hq, hI.low _ (hget_mem h1) q hq⟩
 · exact ⟨hb _ (hget_mem h2) q hq, hI.low _ (hget_mem h2) q hq⟩
theorem VD.apR {α : Type} {enc : α → Value} (ia k kb j i : Nat) {t e : TypeId} {by' : Nat} {z : Value} {x y : Operand} {b c : Nat} {rv : List Value} {rows : List (List α)} {r : List α} {xx : α} {tb : TypeId}
  (hu : P.underlying t = some (.slice e)) (he : (P.info? e).map (fun i => (i.zero, i.size, i.bytes)) = some (some z, 1, by')) (hzs : z.cells.size = 1)
  (hi : ops[ia]? = some ⟨some d, .call ⟨.builtin .append, #[x, y], #[t, t]⟩, ty, ps, aft, g⟩) (hr : Region.ready .any ops listed = [ia]) (hB : Bs.drop j = B0)
  (hn : (Nat.blt d n, gd ops env g, hget H k, hadr H k, hget H kb, ev env x, ev env y, Go.GL.one (enc xx), uniq (Hs.map (·.1)), fresh1 k (Hs.map (·.1))) = (true, some true, some (RowsP enc e rv rows), none, some (.own b [enc xx] tb), some v, some (.slice (some ⟨b, 0, none⟩) 1 c), true, true, true))
  (hv : rv[i]? = some v) (hrow : rows[i]? = some r) (hb : r.length + 1 ≤ 9223372036854775807 ∧ (r.length + 1) * by' ≤ 140737488355328)
  (h : ∀ u, Go.GL.one u = true → VD P n Q ks ops Hs B0 L fuel (listed.setIfInBounds ia true) ((d, u) :: env) ((d, none) :: A) (hset H k (RowsP enc e (rv.set i u) (rows.set i (r ++ [xx])))) Bs) : VD P n Q ks ops Hs B0 L (fuel + 1) listed env A H Bs := by
 simp only [Prod.mk.injEq] at hn
 subst hB
 obtain ⟨h1, h2, h3, h4, h5, h6, h7, h8, h9, h10⟩ := hn
 intro hH hA w hI
 have hM : RowsOk enc e w rv rows := hI.at k h3
 have hil := (List.getElem?_eq_some_iff.1 hv).1
 refine VD.eff ia hi hr h1 h2 (.inl (M.append (news := [enc xx]) hu he hzs Nat.one_pos h6 h7 (hM.row i v r hv hrow) rfl (Cells.add (Blk.cells (hI.at kb h5))) (fun u hu => by rw [List.mem_singleton] at hu; rw [hu]; exact (cell1_ok h8).1) hb.1 hb.2)) ?_
 rintro u w1 ⟨ho, hf, hkp, _⟩
 have hM2 := hM.put hv (r' := r ++ [xx]) (by simpa using ho) hf hkp
 have hI' : VI Bs (hset H k (RowsP enc e (rv.set i u) (rows.set i (r ++ [xx])))) w1 := hI.set h3 (hkp.mono fun q _ hq => ⟨i, v, hv, hq⟩) hM2 RowsP.loc (fun _ h => h) fun q hq => by
  refine ⟨?_, ?_⟩
  ·
   obtain ⟨j, vj, hj, hq⟩ := hq
   by_cases hij : i = j
   ·
    subst hij
    rw [List.getElem?_set_self hil] at hj
    cases hj
    rcases hf with hf | ⟨g', hf, hg'⟩
    · exact .inl ⟨i, v, hv, hf ▸ hq⟩
    · rw [hf] at hq; cases hq; exact .inr hg'
   ·
    rw [List.getElem?_set_ne hij] at hj
    exact .inl ⟨j, vj, hj, hq⟩
  ·
   obtain ⟨j, vj, hj, hq⟩ := hq
   exact hM2.blk hj hq
 have hH' : Has Hs (hset H k (RowsP enc e (rv.set i u) (rows.set i (r ++ [xx])))) := hH.set h3 h10
 obtain ⟨au, cu, rfl, _, _⟩ := own_slice ho
 exact ⟨(hI'.drop j).pick hH' h9, h _ rfl hH' (TgOk.none (hA.res h3 h4)) w1 hI'⟩
theorem VD.stO (is k j : Nat) {ts : TypeId} {x y : Operand} {b o : Nat} {cs : List Value} {e : TypeId} (hss : ∀ w, (sizeOf ts).run P w = .ok 1 w) (hi : ops[is]? = some ⟨none, .store ts x y, ty, ps, aft, g⟩) (hr : Region.ready .any ops listed = [is])
  (hn : (gd ops env g, hget H k, ev env x, ev env y, L.contains is) = (some true, some (.own b cs e), some (.pointer (some ⟨b, o, none⟩)), some v, true)) (h1 : Go.GL.one v = true) (hj : o = j) (hl : j < cs.length)
  (h : VDx P n Q ks ops (VI B0 Hs) L fuel (listed.setIfInBounds is true) env A (hset H k (.own b (cs.set j v) e)) Bs) : VD P n Q ks ops Hs B0 L (fuel + 1) listed env A H Bs := by
 simp only [Prod.mk.injEq] at hn
 subst hj
 obtain ⟨h2, h3, h4, h5, h6⟩ := hn
 intro hH hA w hI
 have hB : Blk w b cs e := hI.at k h3
 obtain ⟨c1, c2⟩ := cell1_ok h1
 refine WD.eff0L is hi hr h2 h6 (M.store hss h4 h5 c1 c2 hB hl) ?_
 rintro w2 ⟨_, hB2, hk2⟩
 exact h (hA.set h3) w2 (hI.set h3 hk2 hB2 trivial (fun _ h => h) fun q hq => ⟨.inl hq, by have hq : q = b := hq; rw [hq]; exact hB2.lt⟩)
theorem V.call1V {f : FuncId} {x : Operand} {fs cs : List Value} {xs : Array Operand} {ts : Array TypeId} {vs : List Value} (hf : ∀ args w, (callFunc f args).run P w = .ok (.enter f args) w) (hn : (Nat.blt d n, gd ops env g, evAll env xs.toList, ev env x) = (true, some true, some vs, some (.func (.func f) fs.toArray cs.toArray)))
  (hc : ∀ w, VI Bs H w → Calls P f (fs ++ vs ++ cs).toArray w (Ret fun r w' => r = v ∧ Ext w w')) (h : V P n Q ks (.o ops rest) ((d, v) :: env) ((d, none) :: A) H Bs) : V P n Q ks (.o ops (⟨some d, .call ⟨.value x, xs, ts⟩, ty, ps, aft, g⟩ :: rest)) env A H Bs := by
 refine fun hA w hI => G.callV hn hf (hc w hI) ?_
 rintro _ w' ⟨rfl, hk⟩
 exact h hA.none w' (hI.ext hk)
theorem V.callMV (k : Nat) {f : FuncId} {x : Operand} {fs cs : List Value} {xs : Array Operand} {ts : Array TypeId} {vs : List Value} {e : HE} {α : Type} {E : α → HE} {Φ : Value → α → Prop} (hf : ∀ args w, (callFunc f args).run P w = .ok (.enter f args) w) (hn : (Nat.blt d n, gd ops env g, evAll env xs.toList, ev env x, hget H k, hadr H k) = (true, some true, some vs, some (.func (.func f) fs.toArray cs.toArray), some e, none))
  (hE : ∀ x, (E x).loc ∧ ∀ b, ¬ (E x).fz b) (hc : ∀ w, VI Bs H w → Calls P f (fs ++ vs ++ cs).toArray w (Ret fun r w' => ∃ x, Φ r x ∧ (E x).holds w' ∧ Keep e.S w w' ∧ ∀ q, (E x).S q → (e.S q ∨ w.heap.size ≤ q) ∧ q < w'.heap.size))
  (h : ∀ r x, Φ r x → V P n Q ks (.o ops rest) ((d, r) :: env) ((d, none) :: A) (hset H k (E x)) Bs) : V P n Q ks (.o ops (⟨some d, .call ⟨.value x, xs, ts⟩, ty, ps, aft, g⟩ :: rest)) env A H Bs := by
 simp only [Prod.mk.injEq] at hn
 refine fun hA w hI => G.callV (by rw [hn.1, hn.2.1, hn.2.2.1, hn.2.2.2.1]) hf (hc w hI) ?_
 rintro r w' ⟨x, hP, hh, hk, hS⟩
 exact h r x hP (TgOk.none (hA.res hn.2.2.2.2.1 hn.2.2.2.2.2)) w' (hI.set hn.2.2.2.2.1 hk hh (hE x).1 (hE x).2 hS)
end
theorem RFl.keep {D S : Nat → Prop} {w w' : World} {f : Fl} {v1 v2 v3 : Value} (h : RFl D w f v1 v2 v3) (hk : Keep S w w') (hD : ∀ q, D q → q < w.heap.size → ¬ S q) : RFl D w' f v1 v2 v3 := ⟨h.vars.keep stable_vr hk hD, h.hatches.keep stable_ht hk hD, h.body.keep stable_st hk hD⟩
end Go.GL
namespace Go.Proofs.YtldhllpogdikdaaGreat
open Go.GL
theorem ed_cell {w : World} {b : Nat} {x : Nd} {e : TypeId} {k : Nat} (h : Blk w b [.int .i64 x.next, .int .i64 x.other] e) (hk : k < 2) : w.cell? ⟨b, 0 + (k : Int).toNat * 1, none⟩ = some (.int .i64 (edk x k)) := by
 have h0 := Blk.cells h 0 _ rfl
 have h1 := Blk.cells h 1 _ rfl
 rcases (show k = 0 ∨ k = 1 by omega) with rfl | rfl
 · exact h0
 · exact h1
theorem spread_ok (f : Fl) (vd : Valid f) (v1 v2 v3 gv : Value) (D Dg : Nat → Prop) (bg bo bs bf a : Nat) (v d : Int) (rv : List Value) (rows : List (List Int)) (te tg to tf : TypeId) (W : World)
  (hf : RFl D W f v1 v2 v3) (hg : SlR 4 RNd Dg W gv (cfgN f)) (hM : Mat encI1 3 te 0 W bo rv rows) (hbg : Blk W bg [gv] tg) (hbs : Blk W bs [.slice (some ⟨bo, 0, none⟩) rows.length rows.length] to) (hbf : Blk W bf [v1, v2, v3] tf)
  (hap : ∀ q, (MatP encI1 3 te 0 bo rv rows).S q → ¬ D q ∧ ¬ Dg q ∧ q ≠ bg ∧ q ≠ bs ∧ q ≠ bf) (hrl : rows.length = (cfgN f).length) (hrs : ∀ r ∈ rows, r.length ≤ 1000000) (ha : a < (cfgN f).length) :
  Calls Tryz.prog 86 #[.int .i64 a, .int .i64 v, .int .i64 d, .pointer (some ⟨bg, 0, none⟩), .pointer (some ⟨bs, 0, none⟩), .pointer (some ⟨bf, 0, none⟩)] W (Ret fun r w' => ∃ p : List Value × List (List Int), (FldR f (cfgN f) a v d rows p.2 ∧ r = .tuple #[]) ∧ (MatP encI1 3 te 0 bo p.1 p.2).holds w' ∧ Keep (MatP encI1 3 te 0 bo rv rows).S W w' ∧ ∀ q, (MatP encI1 3 te 0 bo p.1 p.2).S q → ((MatP encI1 3 te 0 bo rv rows).S q ∨ W.heap.size ≤ q) ∧ q < w'.heap.size) := by
 obtain ⟨ag, cg, rfl⟩ := hg.form
 have hmx := hg.max
 have hss := vd.ssize
 have hpre := preL_len f.body
 have hlen := cfgN_len f vd.plain
 have hwl := widL_le f.body
 have hrv := hM.len
 have hlow : ∀ q, (MatP encI1 3 te 0 bo rv rows).S q → q < W.heap.size := by
  rintro q (rfl | ⟨i, u, hu, hq⟩)
  · exact hM.out.lt
  · exact hM.blk hu hq
 have hfK : ∀ w, Keep (MatP encI1 3 te 0 bo rv rows).S W w → RFl D w f v1 v2 v3 := fun w hk => hf.keep hk fun q h _ h' => (hap q h').1 h
 have hgK : ∀ w, Keep (MatP encI1 3 te 0 bo rv rows).S W w → SlR 4 RNd Dg w (.slice ag (cfgN f).length cg) (cfgN f) := fun w hk => hg.keep stable_nd hk fun q h _ h' => (hap q h').2.1 h
 refine G.in6 Tryz.func86 rfl Tryz.ntmps86 rfl (V.inM 900 (MatP encI1 3 te 0 bo rv rows) (hM) MatP.loc (fun _ h => h) (hlow) ?_)
 refine V.frS 901 0 rfl rfl (fun h => (hap _ h).2.2.1 rfl) (Blk.cells hbg) ?_
 refine V.frS 902 0 rfl rfl (fun h => (hap _ h).2.2.2.1 rfl) (Blk.cells hbs) ?_
 refine V.frS 903 0 rfl rfl (fun h => (hap _ h).2.2.2.2 rfl) (Blk.cells hbf) ?_
 refine V.split 900 899 rfl ?_
 refine V.tag 3 901 0 rfl rfl ?_
 refine V.tag 4 902 0 rfl rfl ?_
 refine V.tag 5 903 0 rfl rfl ?_
 refine Vs 5 rfl ?_
 refine V.make 17 Tryz.underlying104 Tryz.el4 rfl (by omega) (by omega) (zs := List.replicate (cfgN f).length (.bool false)) (made1 _ _ rfl) (by simp) (fun b17 => ?_)
 refine V.heq 17 rfl (e' := .row 4 1 (.slice (some ⟨b17, 0, none⟩) (cfgN f).length (cfgN f).length) (cfgN f).length ((List.replicate (cfgN f).length false).map Value.bool)) (by rw [List.map_replicate]) ?_
 refine Vs 6 rfl ?_
 refine V.bs 19 [(0, _)] Tryz.runUnderlying50 Tryz.sizeOf3 Tryz.zeroValue3 (by decide) rfl rfl (by kernel_rfl) (fun b19 => ?_)
 refine Vs 3 rfl ?_
 refine V.que 19 (kk := 1) (m := 1) (c := 1) rfl rfl ⟨rfl, rfl, by decide⟩ ?_
 refine Vs 1 rfl ?_
 refine V.loopK (σ := List Bool × List Int × Value × List Value × List (List Int)) [1, 2, 3, 4, 5, 9] [901, 902, 903] [3, 4, 5] rfl (fun e ⟨seen, op, qv, rv', rows'⟩ => (10, qv) :: e) (fun e ⟨seen, op, qv, rv', rows'⟩ => (19, Qu 3 1 qv op.length (op.map encI1)) :: (17, .row 4 1 (.slice (some ⟨b17, 0, none⟩) (cfgN f).length (cfgN f).length) (cfgN f).length (seen.map Value.bool)) :: (900, .own bo rv' te) :: (899, RowsP encI1 3 rv' rows') :: e) (fun ⟨seen, op, qv, rv', rows'⟩ => FldI f (cfgN f) a v seen op ∧ rowsIn rows seen d rows' ∧ rv'.length = rows'.length ∧ 2 * unseen seen + op.length ≤ 100000) (fun ⟨seen, op, qv, rv', rows'⟩ => 2 * unseen seen + op.length) ((List.replicate (cfgN f).length false, [(a : Int)], _, rv, rows)) (Sub.of rfl) (Has.of rfl) (fun _ => rfl) (fun _ => rfl) (fun _ => rfl) (⟨FldI.start _ _ _ _ ha, rowsIn.start _ _ _, hrv, by have := unseen_le (List.replicate (cfgN f).length false); simp at this ⊢; omega⟩) ?_
 rintro ⟨seen, op, qv, rv', rows'⟩ ⟨hI0, hro, hrl', hol⟩
 show V _ _ _ _ _ ((10, qv) :: _) _ ((19, Qu 3 1 qv op.length (op.map encI1)) :: (17, .row 4 1 (.slice (some ⟨b17, 0, none⟩) (cfgN f).length (cfgN f).length) (cfgN f).length (seen.map Value.bool)) :: (900, .own bo rv' te) :: (899, RowsP encI1 3 rv' rows') :: _) _
 refine V.formQ 19 rfl ?_
 rintro gb off c rfl hqc
 refine Vs 8 rfl ?_
 refine V.ite rfl (fun hlt => ?_) (fun hlt => ?_)
 ·
  obtain ⟨q, op, rfl⟩ : ∃ q r, op = q :: r := by cases op with
   | nil => simp at hlt
   | cons q r => exact ⟨q, r, rfl⟩
  obtain ⟨n, x, rfl, hE0⟩ := hI0.pop
  simp only [List.length_cons] at hol
  have hnl := (List.getElem?_eq_some_iff.1 hE0.nd).1
  obtain ⟨x', he_x'⟩ : ∃ z_, (cfgN f)[n]? = some z_ := ⟨_, List.getElem?_eq_getElem (by omega)⟩
  have hm_x' := List.mem_of_getElem? he_x'
  obtain ⟨b_x', o_x', c_x', ha_x', hd_x', hc_x', hR_x'⟩ := hg.atD he_x'
  obtain rfl := hR_x'
  refine V.frS 1000 0 rfl rfl (fun h_ => by have h1_ := (fun q h => (hap q h).2.1) _ h_; have h2_ := hd_x'; first | omega | exact h1_ h2_) hc_x' ?_
  obtain rfl : x = x' := by have h := hE0.nd; rw [he_x'] at h; exact (Option.some.inj h).symm
  refine Vs 4 rfl ?_
  refine Vw [901, 902, 903, 19, 900, 1000] [] rfl ?_
  refine Vd [0, 1, 2] 0 (by kernel_rfl) rfl rfl rfl ?_
  refine VD.pl 3 rfl (by kernel_rfl) rfl (fun w => R.indexS Tryz.runUnderlying50 Tryz.sizeOf3 rfl rfl rfl ⟨by decide, by simp⟩) ?_
  refine VD.ldH 4 rfl (by kernel_rfl) rfl 0 rfl rfl (fun w hI => R.load Tryz.isAgg3 rfl (Qu.cell0 (hI.at 19 rfl))) ?_
  refine VD.ix 5 1000 Tryz.runUnderlying29 Tryz.sizeOf40 rfl (by kernel_rfl) rfl ha_x' (by omega) (_) (rfl) rfl ?_
  refine Vd [6] 0 (by kernel_rfl) rfl rfl rfl ?_
  refine VD.newP 7 11 0 rfl (by kernel_rfl) rfl rfl (fun _ _ => M.alloc Tryz.zeroValue40 rfl) (fun b11 => ?_)
  refine Ve 8 0 rfl (by kernel_rfl) rfl rfl rfl ?_
  refine VD.done (by kernel_rfl) ?_
  refine Vs 4 rfl ?_
  refine V.tailQ 19 Tryz.runUnderlying50 Tryz.sizeOf3 rfl (fun u19 => ?_)
  refine Vs 9 rfl ?_
  refine V.bs 36 [(0, _), (1, _)] Tryz.runUnderlying50 Tryz.sizeOf3 Tryz.zeroValue3 (by decide) rfl rfl (by kernel_rfl) (fun b36 => ?_)
  refine Vs 5 rfl ?_
  refine V.loopK (σ := Nat × List Bool × List Int × Value × List Value × List (List Int)) [1, 2, 3, 4, 5, 9, 36, 37] [36, 901, 902, 903] [3, 4, 5] rfl (fun e ⟨k, seen', op', qv, rv', rows'⟩ => (10, qv) :: (38, .int .i64 k) :: e) (fun e ⟨k, seen', op', qv, rv', rows'⟩ => (19, Qu 3 1 qv op'.length (op'.map encI1)) :: (17, .row 4 1 (.slice (some ⟨b17, 0, none⟩) (cfgN f).length (cfgN f).length) (cfgN f).length (seen'.map Value.bool)) :: (900, .own bo rv' te) :: (899, RowsP encI1 3 rv' rows') :: e) (fun ⟨k, seen', op', qv, rv', rows'⟩ => k ≤ 2 ∧ FldE f (cfgN f) a v n x k seen' op' ∧ rowsIn rows seen' d rows' ∧ rv'.length = rows'.length ∧ 2 * unseen seen' + op'.length ≤ 2 * unseen seen + op.length) (fun ⟨k, seen', op', qv, rv', rows'⟩ => 2 - k) ((0, seen, op, u19, rv', rows')) (Sub.of rfl) (Has.of rfl) (fun _ => rfl) (fun _ => rfl) (fun _ => rfl) (⟨by omega, hE0, hro, hrl', by omega⟩) ?_
  rintro ⟨k, seen', op', qv, rv', rows'⟩ ⟨hk, hE, hro', hrl2, hmu⟩
  show V _ _ _ _ _ ((10, qv) :: (38, .int .i64 k) :: _) _ ((19, Qu 3 1 qv op'.length (op'.map encI1)) :: (17, .row 4 1 (.slice (some ⟨b17, 0, none⟩) (cfgN f).length (cfgN f).length) (cfgN f).length (seen'.map Value.bool)) :: (900, .own bo rv' te) :: (899, RowsP encI1 3 rv' rows') :: _) _
  have hsl := hE.len
  refine Vs 6 rfl ?_
  refine V.ite rfl (fun hk2 => ?_) (fun hk2 => ?_)
  ·
   refine Vs 6 rfl ?_
   refine V.ops1 rfl (fun w hI => R.indexS Tryz.runUnderlying50 Tryz.sizeOf3 rfl rfl rfl (by omega)) ?_
   refine V.ops1 rfl (fun w hI => R.load Tryz.isAgg3 rfl (ed_cell (hI.at 36 rfl) (by omega))) ?_
   refine Vs 9 rfl ?_
   refine V.sp 44 rfl (fun hneg => ?_) (fun hneg => ?_)
   ·
    refine Va 16 rfl (by omega) ?_
    refine V.back (⟨k + 1, seen', op', qv, rv', rows'⟩) (Sub.of rfl) (Has.of rfl) (⟨by omega, hE.skip (by omega) (.inl hneg), hro', hrl2, hmu⟩) (by first | omega | (dsimp only; omega)) 0 rfl rfl
   ·
    have hed := hE.to (by omega)
    obtain ⟨i, hi⟩ : ∃ i : Nat, edk x k = (i : Int) := ⟨(edk x k).toNat, by omega⟩
    have hil := vd.edge hE.nd
    have hig : i < (cfgN f).length := by have := hil.1 _ hed; omega
    rw [hi]
    obtain ⟨b, hb⟩ : ∃ b, seen'[i]? = some b := ⟨_, List.getElem?_eq_getElem (by omega)⟩
    refine Va 3 rfl (by omega) ?_
    refine V.rl 17 (i) Tryz.isAgg4 rfl (by omega) (show _ = some (Value.bool b) by rw [List.getElem?_map, hb]; rfl) ?_
    refine Vs 3 rfl ?_
    refine V.bool rfl (fun s => ?_) (fun s => ?_)
    ·
     subst s
     refine Va 8 rfl (by omega) ?_
     refine V.back (⟨k + 1, seen', op', qv, rv', rows'⟩) (Sub.of rfl) (Has.of rfl) (⟨by omega, hE.skip (by omega) (.inr (by rw [hi]; exact hb)), hro', hrl2, hmu⟩) (by first | omega | (dsimp only; omega)) 0 rfl rfl
    ·
     subst s
     obtain ⟨y, hy⟩ : ∃ y, (cfgN f)[i]? = some y := ⟨_, List.getElem?_eq_getElem hig⟩
     have hE' := hE.add (by omega) hi hy
     have hun := unseen_set hb
     refine Va 7 rfl (by omega) ?_
     refine V.rs 17 (i) Tryz.sizeOf4 rfl (by omega) (by simp; omega) ?_
     refine V.heq 17 rfl (e' := .row 4 1 (.slice (some ⟨b17, 0, none⟩) (cfgN f).length (cfgN f).length) (cfgN f).length ((seen'.set i true).map Value.bool)) (by rw [List.map_set] <;> rfl) ?_
     refine Vs 3 rfl ?_
     refine Vw [36, 901, 902, 903, 900] [10] rfl ?_
     refine Vd [0, 1, 2, 3, 6] 0 (by kernel_rfl) rfl rfl rfl ?_
     refine VD.pl 4 rfl (by kernel_rfl) rfl (fun w => R.indexS Tryz.runUnderlying70 Tryz.sizeOf50 rfl rfl rfl (by omega)) ?_
     obtain ⟨u, hu⟩ : ∃ u, rv'[i]? = some u := ⟨_, List.getElem?_eq_getElem (by have := hro'.1; omega)⟩
     obtain ⟨r, hr⟩ : ∃ r, rows[i]? = some r := ⟨_, List.getElem?_eq_getElem (by omega)⟩
     have hr' : rows'[i]? = some r := hro'.2 i r false hr hb
     have hrm := hrs r (List.mem_of_getElem? hr)
     refine VD.ldH 5 rfl (by kernel_rfl) rfl 0 rfl rfl (fun w hI => R.load Tryz.isAgg50 rfl (Blk.ix (hI.at 900 rfl) hu)) ?_
     refine VD.bs 7 60 0 [(0, _)] Tryz.runUnderlying50 Tryz.sizeOf3 Tryz.zeroValue3 (by decide) rfl (by kernel_rfl) rfl rfl (by kernel_rfl) (fun b60 => ?_)
     refine VD.apR 8 899 60 0 (i) Tryz.underlying50 Tryz.el3 rfl rfl (by kernel_rfl) rfl rfl (hu) (hr') (by omega) (fun u899 ho_899 => ?_)
     refine VD.pl 9 rfl (by kernel_rfl) rfl (fun w => R.indexS Tryz.runUnderlying70 Tryz.sizeOf50 rfl rfl rfl (by omega)) ?_
     refine VD.stO 10 900 (i) Tryz.sizeOf50 rfl (by kernel_rfl) rfl (ho_899) (by omega) (by have := hro'.1; omega) ?_
     refine VDx.done (by kernel_rfl) ?_
     refine Vs 6 rfl ?_
     refine V.call1 Tryz.call35 rfl (fun w hI => defines_ok f (cfgN f) i y v1 v2 v3 _ D Dg w (hfK w hI.k0) (hgK w hI.k0) hy (vd.edge hy).2 (by omega)) ?_
     refine Vs 4 rfl ?_
     refine V.ite rfl (fun hd => ?_) (fun hd => ?_)
     ·
      rw [if_pos hd] at hE'
      refine Vs 3 rfl ?_
      refine V.bs 71 [(0, _)] Tryz.runUnderlying50 Tryz.sizeOf3 Tryz.zeroValue3 (by decide) rfl rfl (by kernel_rfl) (fun b71 => ?_)
      refine V.apQ 19 71 Tryz.underlying50 Tryz.el3 rfl (by decide) rfl (by first | rfl | omega) (by omega) (by omega) (fun u19 => ?_)
      refine V.heq 19 rfl (e' := Qu 3 1 u19 (op' ++ [(i : Int)]).length ((op' ++ [(i : Int)]).map encI1)) (by simp [encI1]) ?_
      refine Va 8 rfl (by omega) ?_
      refine V.back (⟨k + 1, seen'.set i true, op' ++ [(i : Int)], u19, rv'.set i u899, rows'.set i (r ++ [d])⟩) (Sub.of rfl) (Has.of rfl) (⟨by omega, hE', hro'.set hb hr', by simp [hrl2], by simp; omega⟩) (by first | omega | (dsimp only; omega)) 0 rfl rfl
     ·
      rw [if_neg hd] at hE'
      refine Va 7 rfl (by omega) ?_
      refine V.back (⟨k + 1, seen'.set i true, op', qv, rv'.set i u899, rows'.set i (r ++ [d])⟩) (Sub.of rfl) (Has.of rfl) (⟨by omega, hE', hro'.set hb hr', by simp [hrl2], by omega⟩) (by first | omega | (dsimp only; omega)) 0 rfl rfl
  ·
   obtain rfl : k = 2 := by omega
   refine Vs 5 rfl ?_
   refine V.back (⟨seen', op', qv, rv', rows'⟩) (Sub.of rfl) (Has.of rfl) (⟨hE.fin, hro', hrl2, by omega⟩) (by simp; omega) 0 rfl rfl
 ·
  obtain rfl : op = [] := List.eq_nil_of_length_eq_zero (by omega)
  have hdn := hI0.done (fun i x hx => (vd.edge hx).1)
  refine Vs 4 rfl ?_
  refine V.end0 Tryz.results86 (fun w hI => ⟨_, rfl, (rv', rows'), ⟨FldR.of hro (by rw [hI0.len, hrl]) hdn, rfl⟩, hI.mat 900 899 rfl rfl rfl, hI.k0, fun q hq => hI.matS 900 899 rfl rfl q hq⟩)
end Go.Proofs.YtldhllpogdikdaaGreat
namespace Go.GL
theorem own_blkN {w : World} {e : TypeId} {k b n : Nat} {xs : List Value} (h : w.ownsRow 0 e k (.slice (some ⟨b, 0, none⟩) n n) n xs) : Blk w b xs e := by
 obtain ⟨h1, h2⟩ := h
 rcases h2 with ⟨h2, _⟩ | ⟨b', cap, cur, hv, _, hg, hc, hcm, hcs, htake⟩
 · cases h2
 ·
  cases hv
  have : cur.toList = xs := by rw [← htake, List.take_of_length_le (by rw [Array.length_toList]; omega)]
  unfold Blk
  rw [← this]
  simpa using hg
theorem MatP.nilS {α : Type} {enc : α → Value} {e eo : TypeId} {B bo n : Nat} {rows : List (List α)} {q : Nat} (h : (MatP enc e eo B bo (List.replicate n (.slice none 0 0)) rows).S q) : q = bo := by
 rcases h with h | ⟨i, v, hv, hq⟩
 · exact h
 ·
  rw [List.getElem?_replicate] at hv
  split at hv <;> cases hv
  cases hq
end Go.GL
namespace Go.Proofs.YtldhllpogdikdaaGreat
open Go.GL
def RowsInv (f : Fl) (g : List Nd) (P : Nat → Int → Int → Prop) (rows : List (List Int)) : Prop := rows.length = g.length ∧ ∀ (i : Nat) r, rows[i]? = some r → r.Nodup ∧ ∀ d, d ∈ r ↔ ∃ a v, P a v d ∧ Fld f g a v i
section
variable {f : Fl} {P P' : Nat → Int → Int → Prop} {rows rows' : List (List Int)}
theorem RowsInv.start : RowsInv f (cfgN f) (fun _ _ _ => False) (List.replicate (cfgN f).length []) := by
 refine ⟨by simp, fun i r hr => ?_⟩
 rw [List.getElem?_replicate] at hr
 split at hr <;> cases hr
 exact ⟨List.nodup_nil, fun d => ⟨fun h => (by cases h), fun ⟨_, _, h, _⟩ => h.elim⟩⟩
theorem RowsInv.congr (h : RowsInv f (cfgN f) P rows) (hp : ∀ a v d, P a v d ↔ P' a v d) : RowsInv f (cfgN f) P' rows := by
 have : P = P' := by funext a v d; exact propext (hp a v d)
 exact this ▸ h
theorem RowsInv.step (V : Valid f) {a : Nat} {v d : Int} (h : RowsInv f (cfgN f) P rows) (hP : ∀ a v d, P a v d → SrcD f (cfgN f) a v d) (hs : SrcD f (cfgN f) a v d) (hn : ¬ P a v d) (hr : FldR f (cfgN f) a v d rows rows') : RowsInv f (cfgN f) (fun a' v' d' => P a' v' d' ∨ a' = a ∧ v' = v ∧ d' = d) rows' := by
 refine ⟨by rw [hr.1, h.1], fun i r' hr' => ?_⟩
 obtain ⟨r, hr0⟩ : ∃ r, rows[i]? = some r := ⟨_, List.getElem?_eq_getElem (by rw [← hr.1]; exact (List.getElem?_eq_some_iff.1 hr').1)⟩
 obtain ⟨h1, h2⟩ := h.2 i r hr0
 rcases hr.2 i r hr0 with ⟨h3, h4⟩ | ⟨h3, h4⟩
 ·
  rw [hr'] at h4
  cases h4
  have hd : d ∉ r := by
   intro hd
   obtain ⟨a', v', g1, g2⟩ := (h2 d).1 hd
   obtain ⟨rfl, rfl⟩ := (hP _ _ _ g1).uniq V hs
   exact hn g1
  refine ⟨List.nodup_append.2 ⟨h1, by simp, fun x hx y hy => by rw [List.mem_singleton] at hy; rw [hy]; exact fun he => hd (he ▸ hx)⟩, fun x => ?_⟩
  rw [List.mem_append, List.mem_singleton, h2 x]
  constructor
  ·
   rintro (⟨a', v', g1, g2⟩ | rfl)
   · exact ⟨a', v', .inl g1, g2⟩
   · exact ⟨a, v, .inr ⟨rfl, rfl, rfl⟩, h3⟩
  ·
   rintro ⟨a', v', g1 | ⟨rfl, rfl, rfl⟩, g2⟩
   · exact .inl ⟨a', v', g1, g2⟩
   · exact .inr rfl
 ·
  rw [hr'] at h4
  cases h4
  refine ⟨h1, fun x => ?_⟩
  rw [h2 x]
  constructor
  ·
   rintro ⟨a', v', g1, g2⟩
   exact ⟨a', v', .inl g1, g2⟩
  ·
   rintro ⟨a', v', g1 | ⟨rfl, rfl, rfl⟩, g2⟩
   · exact ⟨a', v', g1, g2⟩
   · exact absurd g2 h3
theorem RowsInv.bound (V : Valid f) (h : RowsInv f (cfgN f) P rows) (hP : ∀ a v d, P a v d → SrcD f (cfgN f) a v d) : ∀ r ∈ rows, r.length ≤ (preL f.body).length + f.vars.length := by
 intro r hr
 obtain ⟨i, hi⟩ := List.mem_iff_getElem?.1 hr
 obtain ⟨h1, h2⟩ := h.2 i r hi
 have := nodup_len (l := r) (l' := (List.range ((preL f.body).length + f.vars.length)).map Int.ofNat) h1 (fun d hd => by
  obtain ⟨a, v, g1, _⟩ := (h2 d).1 hd
  have hb : 0 ≤ d ∧ d < (preL f.body).length + f.vars.length := by
   rcases hP _ _ _ g1 with ⟨_, k1, k2, k3⟩ | ⟨x, hx, k1, k2, k3⟩
   · omega
   ·
    have := defN_var V hx (asgB_of k1)
    omega
  exact List.mem_map.2 ⟨d.toNat, List.mem_range.2 (by omega), by simp; omega⟩)
 simpa using this
theorem RowsInv.fin (V : Valid f) (h : RowsInv f (cfgN f) (SrcD f (cfgN f)) rows) (hl : rows'.length = rows.length) (hs : ∀ (j : Nat) r, rows[j]? = some r → rows'[j]? = some (sortL r)) : RchRows f (cfgN f) rows' := by
 refine ⟨by rw [hl, h.1], fun i r' hr' => ?_⟩
 obtain ⟨r, hr0⟩ : ∃ r, rows[i]? = some r := ⟨_, List.getElem?_eq_getElem (by rw [← hl]; exact (List.getElem?_eq_some_iff.1 hr').1)⟩
 have := hs i r hr0
 rw [hr'] at this
 cases this
 obtain ⟨h1, h2⟩ := h.2 i r hr0
 refine ⟨strict_of (sortL_sorted r) ((List.mergeSort_perm r _).nodup_iff.2 h1), fun d => ?_⟩
 rw [sortL_mem, h2 d, rch_iff V]
end
def SrcA (f : Fl) (i : Nat) (a : Nat) (v d : Int) : Prop := a < i ∧ ∃ x, (cfgN f)[a]? = some x ∧ 0 ≤ defN f x ∧ v = defN f x ∧ d = x.at_
def SrcB (f : Fl) (k : Nat) (a : Nat) (v d : Int) : Prop := SrcA f (cfgN f).length a v d ∨ a = 0 ∧ 0 ≤ v ∧ v < k ∧ d = (preL f.body).length + v
theorem SrcA.src {f : Fl} {i : Nat} (a : Nat) (v d : Int) (h : SrcA f i a v d) : SrcD f (cfgN f) a v d := .inr h.2
theorem SrcB.src {f : Fl} {k : Nat} (hk : k ≤ f.vars.length) (a : Nat) (v d : Int) (h : SrcB f k a v d) : SrcD f (cfgN f) a v d := by
 rcases h with h | ⟨h1, h2, h3, h4⟩
 · exact .inr h.2
 · exact .inl ⟨h1, h2, by omega, h4⟩
theorem SrcA.next {f : Fl} {i : Nat} {x : Nd} (hx : (cfgN f)[i]? = some x) (a : Nat) (v d : Int) : (SrcA f i a v d ∨ 0 ≤ defN f x ∧ a = i ∧ v = defN f x ∧ d = x.at_) ↔ SrcA f (i + 1) a v d := by
 constructor
 ·
  rintro (h | ⟨h1, rfl, h3, h4⟩)
  · exact ⟨by have := h.1; omega, h.2⟩
  · exact ⟨by omega, x, hx, h1, h3, h4⟩
 ·
  rintro ⟨h1, y, h2, h3, h4, h5⟩
  rcases Nat.lt_or_ge a i with h | h
  · exact .inl ⟨h, y, h2, h3, h4, h5⟩
  ·
   obtain rfl : a = i := by omega
   rw [hx] at h2
   cases h2
   exact .inr ⟨h3, rfl, h4, h5⟩
theorem SrcB.next {f : Fl} {k : Nat} (a : Nat) (v d : Int) : (SrcB f k a v d ∨ a = 0 ∧ v = (k : Int) ∧ d = ((preL f.body).length : Int) + k) ↔ SrcB f (k + 1) a v d := by
 constructor
 ·
  rintro ((h | ⟨h1, h2, h3, h4⟩) | ⟨h1, h2, h3⟩)
  · exact .inl h
  · exact .inr ⟨h1, h2, by omega, h4⟩
  · exact .inr ⟨h1, by omega, by omega, by omega⟩
 ·
  rintro (h | ⟨h1, h2, h3, h4⟩)
  · exact .inl (.inl h)
  ·
   by_cases hk : v < k
   · exact .inl (.inr ⟨h1, h2, hk, h4⟩)
   · exact .inr ⟨h1, by omega, by omega⟩
theorem SrcB.all {f : Fl} (a : Nat) (v d : Int) : SrcB f f.vars.length a v d ↔ SrcD f (cfgN f) a v d := by
 constructor
 · exact SrcB.src (Nat.le_refl _) a v d
 ·
  rintro (⟨h1, h2, h3, h4⟩ | ⟨x, h1, h2⟩)
  · exact .inr ⟨h1, h2, h3, h4⟩
  · exact .inl ⟨(List.getElem?_eq_some_iff.1 h1).1, x, h1, h2⟩
theorem SrcB.not {f : Fl} (V : Valid f) {k : Nat} : ¬ SrcB f k 0 (k : Int) (((preL f.body).length : Int) + k) := by
 rintro (⟨_, x, hx, h1, _, h3⟩ | ⟨_, _, h, _⟩)
 ·
  have := defN_var V hx (asgB_of h1)
  omega
 · omega
theorem sortStep {rows rows' : List (List Int)} {j : Nat} {r : List Int} (hl : rows'.length = rows.length) (hr : rows[j]? = some r) (h : ∀ (i : Nat) r, rows[i]? = some r → rows'[i]? = some (if i < j then sortL r else r)) (i : Nat) (q : List Int) (hq : rows[i]? = some q) : (rows'.set j (sortL r))[i]? = some (if i < j + 1 then sortL q else q) := by
 by_cases e : j = i
 ·
  subst e
  rw [hr] at hq
  cases hq
  rw [List.getElem?_set_self (by rw [hl]; exact (List.getElem?_eq_some_iff.1 hr).1), if_pos (by omega)]
 ·
  rw [List.getElem?_set_ne e, h i q hq]
  by_cases hij : i < j
  · rw [if_pos hij, if_pos (by omega)]
  · rw [if_neg hij, if_neg (by omega)]
theorem sortRow_ok {w : World} {te bo i : Nat} {rv : List Value} {rows : List (List Int)} {v : Value} {r : List Int} (hM : (MatP encI1 3 te 0 bo rv rows).holds w) (hv : rv[i]? = some v) (hr : rows[i]? = some r) (hl : r.length ≤ 1048576) :
  Calls Tryz.prog 83 #[v] w (Ret fun u w' => ∃ _ : Unit, u = .tuple #[] ∧ (MatP encI1 3 te 0 bo rv (rows.set i (sortL r))).holds w' ∧ Keep (MatP encI1 3 te 0 bo rv rows).S w w' ∧ ∀ q, (MatP encI1 3 te 0 bo rv (rows.set i (sortL r))).S q → ((MatP encI1 3 te 0 bo rv rows).S q ∨ w.heap.size ≤ q) ∧ q < w'.heap.size) := by
 have hM : Mat encI1 3 te 0 w bo rv rows := hM
 refine (sortI_ok r v r.length w (hM.row i v r hv hr) hl).mono ?_
 rintro _ w' ⟨u, rfl, rfl, ho, hk⟩
 have hM2 := hM.inplace (r' := sortL r) hv (by rw [sortL_len]; exact ho) hk
 refine ⟨_, rfl, (), rfl, hM2, hk.mono fun q _ hq => .inr ⟨i, v, hv, hq⟩, fun q hq => ⟨.inl hq, ?_⟩⟩
 rcases hq with rfl | ⟨j, vj, hj, hq⟩
 · exact hM2.out.lt
 · exact hM2.blk hj hq
theorem refReaching_ok (f : Fl) (vd : Valid f) (v1 v2 v3 gv : Value) (D0 Dg0 : Nat → Prop) (W : World) (hf0 : RFl D0 W f v1 v2 v3) (hg0 : SlR 4 RNd Dg0 W gv (cfgN f)) :
  Calls Tryz.prog 40 #[.agg #[v1, v2, v3], .agg #[gv]] W (Ret fun r w' => (∃ rows, RchRows f (cfgN f) rows ∧ SlR 1 (RSl 1 RInt) (fun b => W.heap.size ≤ b) w' r rows) ∧ Ext W w') := by
 have hf := hf0.narrow
 have hg := hg0.narrow (by decide) narrow_nd
 obtain ⟨ag, cg, rfl⟩ := hg.form
 obtain ⟨av, cv, rfl⟩ := hf.vars.form
 have hmx := hg.max
 have hmv := hf.vars.max
 have hss := vd.ssize
 have hl := vd.lens
 have hpre := preL_len f.body
 have hlen := cfgN_len f vd.plain
 have hwl := widL_le f.body
 refine G.in2 Tryz.func40 rfl Tryz.ntmps40 rfl (V.inn ?_)
 refine Vs 2 rfl ?_
 refine V.box 2 rfl rfl (fun b2 => ?_)
 refine V.box 3 rfl rfl (fun b3 => ?_)
 refine Vs 7 rfl ?_
 refine V.call1 Tryz.call23 rfl (fun w hI => refSize_ok f.body v3 _ w (Tr1 hI.k0 hf.body) (by omega)) ?_
 refine Vs 8 rfl ?_
 refine V.make 18 Tryz.underlying70 Tryz.el50 rfl (by omega) (by omega) (zs := List.replicate (cfgN f).length (.slice none 0 0)) (made1 _ _ rfl) (by simp) (fun b18 => ?_)
 refine V.chg 18 (e' := MatP encI1 3 50 0 b18 (List.replicate (cfgN f).length (.slice none 0 0)) (List.replicate (cfgN f).length [])) rfl (fun w hI => Mat.start (own_blkN (hI.at 18 rfl))) (MatP.loc) (fun _ h => h) (fun q hq => congrArg some (MatP.nilS hq).symm) ?_
 refine V.alloc 6 Tryz.zeroValue70 rfl rfl (fun b6 => ?_)
 refine Vs 19 rfl ?_
 refine V.loopK (σ := Nat × List Value × List (List Int)) [2, 3, 5, 6, 7, 22] [2, 3, 6] [2, 3, 6] rfl (fun e ⟨i, rv, rows⟩ => (23, .int .i64 i) :: e) (fun e ⟨i, rv, rows⟩ => (18, MatP encI1 3 50 0 b18 rv rows) :: e) (fun ⟨i, rv, rows⟩ => i ≤ (cfgN f).length ∧ RowsInv f (cfgN f) (SrcA f i) rows) (fun ⟨i, rv, rows⟩ => (cfgN f).length - i) ((0, _, _)) (Sub.of rfl) (Has.of rfl) (fun _ => rfl) (fun _ => rfl) (fun _ => rfl) (⟨Nat.zero_le _, RowsInv.start.congr fun a v d => ⟨fun h => h.elim, fun h => by have := h.1; omega⟩⟩) ?_
 rintro ⟨i, rv, rows⟩ ⟨hi, hR⟩
 show V _ _ _ _ _ ((23, .int .i64 i) :: _) _ ((18, MatP encI1 3 50 0 b18 rv rows) :: _) _
 refine Vs 6 rfl ?_
 refine V.ite rfl (fun hlt => ?_) (fun hlt => ?_)
 ·
  obtain ⟨x, hx⟩ : ∃ x, (cfgN f)[i]? = some x := ⟨_, List.getElem?_eq_getElem (by omega)⟩
  have hR1 := hR.1
  refine Vs 15 rfl ?_
  refine V.call1 Tryz.call35 rfl (fun w hI => defines_ok f (cfgN f) i x _ v2 v3 _ _ _ w (Tr1 hI.k0 hf) (Tr1 hI.k0 hg) hx (vd.edge hx).2 (by omega)) ?_
  refine Vs 9 rfl ?_
  refine V.ite rfl (fun hd => ?_) (fun hd => ?_)
  ·
   have hs : SrcD f (cfgN f) i (defN f x) x.at_ := .inr ⟨x, hx, hd, rfl, rfl⟩
   have hbd := hR.bound vd SrcA.src
   refine Vs 7 rfl ?_
   obtain ⟨x', he_x'⟩ : ∃ z_, (cfgN f)[i]? = some z_ := ⟨_, List.getElem?_eq_getElem (by omega)⟩
   have hm_x' := List.mem_of_getElem? he_x'
   obtain ⟨b_x', o_x', c_x', ha_x', _, hc_x', hR_x'⟩ := hg.at he_x'
   obtain rfl := hR_x'
   refine V.fr 1000 0 rfl rfl hc_x' ?_
   refine V.ix 1000 Tryz.runUnderlying29 Tryz.sizeOf40 rfl ha_x' (by omega) (_) (rfl) rfl ?_
   obtain rfl : x = x' := by have h := hx; rw [he_x'] at h; exact (Option.some.inj h).symm
   refine Vs 2 rfl ?_
   refine V.callMV 18 (E := fun p : List Value × List (List Int) => MatP encI1 3 50 0 b18 p.1 p.2) Tryz.call86 rfl (fun _ => ⟨MatP.loc, fun _ h => h⟩) (fun w hI => spread_ok f vd _ v2 v3 _ _ _ b3 b18 b6 b2 i (defN f x) x.at_ rv rows _ _ _ _ w (Tr1 hI.k0 hf) (Tr1 hI.k0 hg) (hI.at 18 rfl) (hI.at 3 rfl) (by rw [hR1]; exact hI.at 6 rfl) (hI.at 2 rfl) (fun q hq => ⟨fun h => by have := hI.own 18 0 rfl rfl q hq; omega, fun h => by have := hI.own 18 0 rfl rfl q hq; omega, fun h => hget_apart hI.apart (k := 18) (k' := 3) rfl rfl rfl q hq h, fun h => hget_apart hI.apart (k := 18) (k' := 6) rfl rfl rfl q hq h, fun h => hget_apart hI.apart (k := 18) (k' := 2) rfl rfl rfl q hq h⟩) hR1 (fun r hr => by have := hbd r hr; omega) (by omega)) ?_
   rintro _ ⟨rv', rows'⟩ ⟨hF, rfl⟩
   refine Va 7 rfl (by omega) ?_
   refine V.back (⟨i + 1, rv', rows'⟩) (Sub.of rfl) (Has.of rfl) (⟨by omega, (hR.step vd SrcA.src hs (fun h => by have := h.1; omega) hF).congr fun a v d => by rw [← SrcA.next hx a v d]; simp [hd]⟩) (by first | omega | (dsimp only; omega)) 0 rfl rfl
  ·
   refine Va 7 rfl (by omega) ?_
   refine V.back (⟨i + 1, rv, rows⟩) (Sub.of rfl) (Has.of rfl) (⟨by omega, hR.congr fun a v d => by rw [← SrcA.next hx a v d]; simp [hd]⟩) (by first | omega | (dsimp only; omega)) 0 rfl rfl
 ·
  obtain rfl : i = (cfgN f).length := by omega
  refine Vs 15 rfl ?_
  refine V.loopK (σ := Nat × List Value × List (List Int)) [5, 6, 7, 45] [2, 3, 6] [6] rfl (fun e ⟨k, rv, rows⟩ => (46, .int .i64 k) :: e) (fun e ⟨k, rv, rows⟩ => (18, MatP encI1 3 50 0 b18 rv rows) :: e) (fun ⟨k, rv, rows⟩ => k ≤ f.vars.length ∧ RowsInv f (cfgN f) (SrcB f k) rows) (fun ⟨k, rv, rows⟩ => f.vars.length - k) ((0, _, _)) (Sub.of rfl) (Has.of rfl) (fun _ => rfl) (fun _ => rfl) (fun _ => rfl) (⟨Nat.zero_le _, hR.congr fun a v d => ⟨fun h => .inl h, fun h => h.elim id fun h => by omega⟩⟩) ?_
  rintro ⟨k, rv, rows⟩ ⟨hk, hR2⟩
  show V _ _ _ _ _ ((46, .int .i64 k) :: _) _ ((18, MatP encI1 3 50 0 b18 rv rows) :: _) _
  refine Vs 6 rfl ?_
  refine V.ite rfl (fun hk2 => ?_) (fun hk2 => ?_)
  ·
   have hs : SrcD f (cfgN f) 0 (k : Int) (((preL f.body).length : Int) + k) := .inl ⟨rfl, by omega, by omega, rfl⟩
   have hbd := hR2.bound vd (SrcB.src hk)
   have hR1 := hR2.1
   rw [← hpre]
   refine Va 16 rfl (by omega) ?_
   refine V.callMV 18 (E := fun p : List Value × List (List Int) => MatP encI1 3 50 0 b18 p.1 p.2) Tryz.call86 rfl (fun _ => ⟨MatP.loc, fun _ h => h⟩) (fun w hI => spread_ok f vd _ v2 v3 _ _ _ b3 b18 b6 b2 0 (k : Int) (((preL f.body).length : Int) + k) rv rows _ _ _ _ w (Tr1 hI.k0 hf) (Tr1 hI.k0 hg) (hI.at 18 rfl) (hI.at 3 rfl) (by rw [hR1]; exact hI.at 6 rfl) (hI.at 2 rfl) (fun q hq => ⟨fun h => by have := hI.own 18 0 rfl rfl q hq; omega, fun h => by have := hI.own 18 0 rfl rfl q hq; omega, fun h => hget_apart hI.apart (k := 18) (k' := 3) rfl rfl rfl q hq h, fun h => hget_apart hI.apart (k := 18) (k' := 6) rfl rfl rfl q hq h, fun h => hget_apart hI.apart (k := 18) (k' := 2) rfl rfl rfl q hq h⟩) hR1 (fun r hr => by have := hbd r hr; omega) (by omega)) ?_
   rintro _ ⟨rv', rows'⟩ ⟨hF, rfl⟩
   refine Va 7 rfl (by omega) ?_
   refine V.back (⟨k + 1, rv', rows'⟩) (Sub.of rfl) (Has.of rfl) (⟨by omega, (hR2.step vd (SrcB.src hk) hs (SrcB.not vd) hF).congr (SrcB.next)⟩) (by first | omega | (dsimp only; omega)) 0 rfl rfl
  ·
   obtain rfl : k = f.vars.length := by omega
   have hR3 := hR2.congr SrcB.all
   have hR1 := hR3.1
   have hbd := hR3.bound vd (fun _ _ _ h => h)
   refine Vs 14 rfl ?_
   refine V.loopK (σ := Nat × List (List Int)) [6, 57] [6] [6] rfl (fun e ⟨j, rows'⟩ => (58, .int .i64 j) :: e) (fun e ⟨j, rows'⟩ => (18, MatP encI1 3 50 0 b18 rv rows') :: e) (fun ⟨j, rows'⟩ => j ≤ (cfgN f).length ∧ rows'.length = rows.length ∧ ∀ (i : Nat) r, rows[i]? = some r → rows'[i]? = some (if i < j then sortL r else r)) (fun ⟨j, rows'⟩ => (cfgN f).length - j) ((0, rows)) (Sub.of rfl) (Has.of rfl) (fun _ => rfl) (fun _ => rfl) (fun _ => rfl) (⟨Nat.zero_le _, rfl, fun i r h => by rw [h, if_neg (by omega)]⟩) ?_
   rintro ⟨j, rows'⟩ ⟨hj, hl', hso⟩
   show V _ _ _ _ _ ((58, .int .i64 j) :: _) _ ((18, MatP encI1 3 50 0 b18 rv rows') :: _) _
   refine Vs 6 rfl ?_
   refine V.ite rfl (fun hj2 => ?_) (fun hj2 => ?_)
   ·
    obtain ⟨r, hr⟩ : ∃ r, rows[j]? = some r := ⟨_, List.getElem?_eq_getElem (by omega)⟩
    have hr' := hso j r hr
    rw [if_neg (by omega)] at hr'
    have hrb := hbd r (List.mem_of_getElem? hr)
    refine V.fact (fun w hI => (Mat.at (hI.at 18 rfl : (MatP encI1 3 50 0 b18 rv rows').holds w) (i := j) (by omega))) ?_
    rintro ⟨u, _, hu, _⟩
    refine Vs 13 rfl ?_
    refine V.ops1 rfl (fun w hI => R.indexS Tryz.runUnderlying70 Tryz.sizeOf50 rfl rfl rfl (by omega)) ?_
    refine V.ops1 rfl (fun w hI => R.load Tryz.isAgg50 rfl (MatP.cell (hI.at 18 rfl) hu)) ?_
    refine V.callM 18 (E := fun _ : Unit => MatP encI1 3 50 0 b18 rv (rows'.set j (sortL r))) Tryz.call83 rfl (fun _ => ⟨MatP.loc, fun _ h => h⟩) (fun w hI => sortRow_ok (hI.at 18 rfl) hu hr' (by omega)) ?_
    rintro _ _ rfl
    refine Va 7 rfl (by omega) ?_
    refine V.back (⟨j + 1, rows'.set j (sortL r)⟩) (Sub.of rfl) (Has.of rfl) (⟨by omega, by rw [List.length_set, hl'], sortStep hl' hr hso⟩) (by first | omega | (dsimp only; omega)) 0 rfl rfl
   ·
    refine Vs 12 rfl ?_
    refine V.ret1 Tryz.results40 rfl (fun w hI => ⟨_, rfl, ⟨rows', hR3.fin vd hl' fun i r hr => by rw [hso i r hr, if_pos (by have := (List.getElem?_eq_some_iff.1 hr).1; omega)], Mat.sl (show Mat encI1 3 50 0 w b18 rv rows' from hI.at 18 rfl) (fun x => rfl) (hI.own 18 0 rfl rfl _ (.inl rfl)) (fun i v g hv hg => hI.own 18 0 rfl rfl g (.inr ⟨i, v, hv, hg⟩)) (by omega) (by omega) (by omega)⟩, hI.k0⟩)
end Go.Proofs.YtldhllpogdikdaaGreat
namespace Go.GL
instance {α : Type} {k : Nat} {R : Rel α} [h : Dt R] [hk : NeZero k] : Dt (RSl k R) := ⟨stable_sl h.s, fun _ _ _ _ ⟨v, h1, h2⟩ => ⟨v, h1, h2.narrow (Nat.pos_of_ne_zero hk.out) h.n⟩⟩
end Go.GL
namespace Go.Proofs.YtldhllpogdikdaaGreat
open Go.GL
theorem eqRow_ok (xs ys : List Int) (u v : Value) (D D' : Nat → Prop) (W : World) (hx : SlR 1 RInt D W u xs) (hy : SlR 1 RInt D' W v ys) : Calls Tryz.prog 41 #[u, v] W (Ret fun r w' => r = .bool (decide (xs = ys)) ∧ Ext W w') := by
 refine G.in2 Tryz.func41 rfl Tryz.ntmps41 rfl (V.inn ?_)
 refine Vs 9 rfl ?_
 refine V.call1 Tryz.call30 rfl (fun w hI => equal_ok xs ys u v D D' w (Tr1 hI.k0 hx) (Tr1 hI.k0 hy)) ?_
 refine Vs 4 rfl ?_
 refine V.ret1 Tryz.results41 rfl (fun w hI => ⟨_, rfl, rfl, hI.k0⟩)
theorem eqRows_ok (xs ys : List (List Int)) (u v : Value) (D D' : Nat → Prop) (W : World) (hx : SlR 1 (RSl 1 RInt) D W u xs) (hy : SlR 1 (RSl 1 RInt) D' W v ys) :
  Calls Tryz.prog 39 #[u, v, .func (.func 41) #[] #[]] W (Ret fun r w' => r = .bool (decide (xs = ys)) ∧ Ext W w') := by
 obtain ⟨ax, cx, rfl⟩ := hx.form
 obtain ⟨ay, cy, rfl⟩ := hy.form
 have hmx := hx.max
 have hmy := hy.max
 refine G.in3 Tryz.func39 rfl Tryz.ntmps39 rfl (V.inn ?_)
 refine Vs 15 rfl ?_
 refine V.ite rfl (fun h => ?_) (fun h => ?_)
 ·
  refine Vs 7 rfl ?_
  refine V.ret1 Tryz.results39 rfl (fun w hI => ⟨_, rfl, by rw [decide_eq_false (fun e => by rw [e] at h; exact h rfl)], hI.k0⟩)
 ·
  have hl : xs.length = ys.length := by omega
  refine Vs 11 rfl ?_
  refine V.loopK (σ := Nat) [1, 2, 15, 16] [] [] rfl (fun e i => (17, .int .i64 i) :: e) (fun e i => e) (fun i => i ≤ xs.length ∧ ∀ j, j < i → xs[j]? = ys[j]?) (fun i => xs.length - i) (0) (Sub.of rfl) (Has.of rfl) (fun _ => rfl) (fun _ => rfl) (fun _ => rfl) (⟨Nat.zero_le _, fun j h => absurd h (Nat.not_lt_zero _)⟩) ?_
  rintro i ⟨hi, he⟩
  refine Vs 6 rfl ?_
  refine V.ite rfl (fun hlt => ?_) (fun hlt => ?_)
  ·
   refine Vs 7 rfl ?_
   obtain ⟨x, he_x⟩ : ∃ z_, xs[i]? = some z_ := ⟨_, List.getElem?_eq_getElem (by omega)⟩
   have hm_x := List.mem_of_getElem? he_x
   obtain ⟨b_x, o_x, c_x, ha_x, _, hc_x, hR_x⟩ := hx.at he_x
   obtain ⟨v1_x, rfl, hs_x⟩ := hR_x
   obtain ⟨a1_x, n1_x, rfl⟩ := hs_x.form
   refine V.fr 1000 0 rfl rfl hc_x ?_
   refine V.ix 1000 Tryz.runUnderlying70 Tryz.sizeOf50 rfl ha_x (by omega) (_) (rfl) rfl ?_
   refine Vs 9 rfl ?_
   obtain ⟨y, he_y⟩ : ∃ z_, ys[i]? = some z_ := ⟨_, List.getElem?_eq_getElem (by omega)⟩
   have hm_y := List.mem_of_getElem? he_y
   obtain ⟨b_y, o_y, c_y, ha_y, _, hc_y, hR_y⟩ := hy.at he_y
   obtain ⟨v1_y, rfl, hs_y⟩ := hR_y
   obtain ⟨a1_y, n1_y, rfl⟩ := hs_y.form
   refine V.fr 2000 0 rfl rfl hc_y ?_
   refine V.ix 2000 Tryz.runUnderlying70 Tryz.sizeOf50 rfl ha_y (by omega) (_) (rfl) rfl ?_
   refine Vs 9 rfl ?_
   refine V.call1V Tryz.call41 rfl (fun w hI => eqRow_ok x y _ _ D D' w (Tr1 hI.k0 hs_x) (Tr1 hI.k0 hs_y)) ?_
   refine V.ops1 rfl (fun w hI => R.notU rfl (by first | exact not_decide_eq | rfl)) ?_
   refine Vs 2 rfl ?_
   refine V.ite rfl (fun n0 => ?_) (fun n0 => ?_)
   ·
    refine Vs 11 rfl ?_
    refine V.ret1 Tryz.results39 rfl (fun w hI => ⟨_, rfl, by rw [decide_eq_false (fun e => n0 (by rw [e, he_y] at he_x; exact (Option.some.inj he_x).symm))], hI.k0⟩)
   ·
    refine Va 7 rfl (by omega) ?_
    refine V.back (i + 1) (Sub.of rfl) (Has.of rfl) (⟨by omega, fun j hj => by by_cases e : j = i; (· rw [e, he_x, he_y, Decidable.not_not.1 n0]); (· exact he j (by omega))⟩) (by first | omega | (dsimp only; omega)) 0 rfl rfl
  ·
   refine Vs 11 rfl ?_
   refine V.ret1 Tryz.results39 rfl (fun w hI => ⟨_, rfl, by rw [decide_eq_true (List.ext_getElem? fun j => by by_cases hj : j < xs.length; (· exact he j (by omega)); (· rw [List.getElem?_eq_none (by omega), List.getElem?_eq_none (by omega)]))], hI.k0⟩)
theorem lawReaching_ok (f : Fl) (g : List Nd) (v1 v2 v3 gv : Value) (D Dg : Nat → Prop) (W : World) (hf : RFl D W f v1 v2 v3) (hg : SlR 4 RNd Dg W gv g) :
  Calls Tryz.prog 9 #[.agg #[v1, v2, v3], .agg #[gv]] W (Ret fun r w' => r = .bool true ∧ Ext W w') := by
 obtain ⟨ag, cg, rfl⟩ := hg.form
 refine G.in2 Tryz.func9 rfl Tryz.ntmps9 rfl (V.inn ?_)
 refine Vs 2 rfl ?_
 refine V.box 2 rfl rfl (fun b2 => ?_)
 refine V.box 3 rfl rfl (fun b3 => ?_)
 refine Vs 6 rfl ?_
 refine V.call1 Tryz.call14 rfl (fun w hI => known_ok w) ?_
 refine V.ops1 rfl (fun w hI => R.notU rfl (by first | exact not_decide_eq | rfl)) ?_
 refine Vs 2 rfl ?_
 refine V.bool rfl (fun k0 => ?_) (fun k0 => ?_)
 · cases k0
 ·
  refine Vs 3 rfl ?_
  refine V.cutK (σ := Unit) [2, 3] [2, 3] [2, 3] rfl (fun e u => e) (fun e u => e) (fun u => snodes f.body + hnodes f.hatches ≤ 1024 ∧ sbulk f.body ≤ 1000000) (fun _ => rfl) (fun _ => rfl) ?_ ?_
  ·
   refine Vs 3 rfl ?_
   refine V.call1 Tryz.call15 rfl (fun w hI => few17_ok f 70 300 v1 v2 v3 D w (Tr1 hI.k0 hf) (by decide) (by decide)) ?_
   refine V.ops1 rfl (fun w hI => R.notU rfl (by first | exact not_decide_eq | rfl)) ?_
   refine Vs 1 rfl ?_
   refine V.sp 13 rfl (fun q1 => ?_) (fun q1 => ?_)
   ·
    refine Vs 26 rfl ?_
    refine V.ret1 Tryz.results9 rfl (fun w hI => ⟨_, rfl, rfl, hI.k0⟩)
   ·
    obtain ⟨hsz, hbk, _⟩ := few_size (Decidable.not_not.1 q1)
    refine Vs 6 rfl ?_
    refine V.sp 19 rfl (fun q2 => ?_) (fun q2 => ?_)
    ·
     refine Vs 20 rfl ?_
     refine V.ret1 Tryz.results9 rfl (fun w hI => ⟨_, rfl, rfl, hI.k0⟩)
    ·
     refine Vs 1 rfl ?_
     refine V.call1 Tryz.call17 rfl (fun w hI => refCheck_ok f v1 v2 v3 D w (Tr1 hI.k0 hf) hsz hbk) ?_
     refine Vs 2 rfl ?_
     refine V.sp 23 rfl (fun c0 => ?_) (fun c0 => ?_)
     ·
      refine Vs 1 rfl ?_
      refine V.call2 Tryz.call26 rfl (fun w hI => fit_ok f 4096 4096 256 v1 v2 v3 D w (Tr1 hI.k0 hf)) ?_
      rintro rr w1 w2 hI1 hk12 ⟨q, rfl, hq⟩ hlow
      refine V.ops1 rfl (fun w hI => R.notU rfl (by first | exact not_decide_eq | rfl)) ?_
      refine Vs 4 rfl ?_
      refine V.bool rfl (fun q3 => ?_) (fun q3 => ?_)
      ·
       refine Vs 8 rfl ?_
       refine V.ret1 Tryz.results9 rfl (fun w hI => ⟨_, rfl, rfl, hI.k1⟩)
      ·
       refine Vs 1 rfl ?_
       refine V.meet (()) (Sub.of rfl) (Has.of rfl) (⟨hsz, hbk⟩) 1 rfl rfl
     ·
      refine Vs 9 rfl ?_
      refine V.meet (()) (Sub.of rfl) (Has.of rfl) (⟨hsz, hbk⟩) 0 rfl rfl
  rintro u ⟨hsz, hbk⟩
  refine Vs 5 rfl ?_
  refine V.call2 Tryz.call34 rfl (fun w hI => reaching_ok f g v1 v2 v3 _ D Dg w (Tr1 hI.k0 hf) (Tr1 hI.k0 hg) hsz hbk) ?_
  rintro rr w1 w2 hI1 hk12 ⟨rv, rfl, p0, p1⟩ hlow
  obtain ⟨rows, ar, cr, rfl, hrv, hrn, hrr⟩ : ∃ rows ar cr, rv = .slice ar (List.length rows) cr ∧ SlR 1 (RSl 1 RInt) (fun b => w1.heap.size ≤ b) w2 (.slice ar rows.length cr) rows ∧ (gcheckN f g ≠ 0 → rows = []) ∧ (gcheckN f g = 0 → RchRows f (cfgN f) rows) := by
   by_cases h : gcheckN f g = 0
   ·
    obtain ⟨rows, h1, h2⟩ := p1 h
    obtain ⟨a, c, rfl⟩ := h2.form
    exact ⟨rows, a, c, rfl, h2, fun h' => absurd h h', fun _ => h1⟩
   ·
    obtain rfl := p0 h
    exact ⟨[], none, 0, rfl, SlR.nil, fun _ => rfl, fun h' => absurd h' h⟩
  refine V.dat 900 0 rfl rfl rfl (hrv) (fun b hb _ hs => by have := hlow b hs; omega) ?_
  refine Vs 12 rfl ?_
  refine V.call1 Tryz.call21 rfl (fun w hI => checked_ok f g v1 v2 v3 _ D Dg w (Tr1 hI.k1 hf) (Tr1 hI.k1 hg) hsz hbk) ?_
  refine Vs 9 rfl ?_
  refine V.ite rfl (fun d0 => ?_) (fun d0 => ?_)
  ·
   obtain rfl := hrn d0
   refine Vs 6 rfl ?_
   refine V.sp 43 rfl (fun e1 => ?_) (fun e1 => ?_)
   ·
    refine Vs 9 rfl ?_
    refine V.ret1 Tryz.results9 rfl (fun w hI => ⟨_, rfl, rfl, hI.k1⟩)
   · exact absurd rfl e1
  ·
   have hg0 : gcheckN f g = 0 := by omega
   have hc0 : checkN f = 0 := by
    unfold gcheckN at hg0
    split at hg0
    · contradiction
    · rename_i h; exact Decidable.not_not.1 h
   have vd : Valid f := ⟨hc0, hsz, hbk⟩
   have hgg : cfgN f = g := by
    unfold gcheckN at hg0
    rw [if_neg (by omega)] at hg0
    split at hg0
    · assumption
    · cases hg0
   subst hgg
   refine Vs 7 rfl ?_
   refine V.sp 50 rfl (fun e1 => ?_) (fun e1 => ?_)
   ·
    refine Vs 3 rfl ?_
    refine V.call2 Tryz.call40 rfl (fun w hI => refReaching_ok f vd v1 v2 v3 _ D Dg w (Tr1 hI.k1 hf) (Tr1 hI.k1 hg)) ?_
    rintro rr w3 w4 hI3 hk34 ⟨rows2, h2, hrv2⟩ hlow2
    obtain rfl := rows_unique h2 (hrr hg0)
    refine V.call1 Tryz.call39 rfl (fun w hI => eqRows_ok rows2 rows2 _ _ _ _ w (hI.at 900 rfl).1 (hrv2.keep Dt.s hI.k0 fun b hb _ hs => by have := hlow2 b hs; omega)) ?_
    refine Vs 5 rfl ?_
    refine V.ret1 Tryz.results9 rfl (fun w hI => ⟨_, rfl, by simp, hI.k2⟩)
   · exact absurd hg0 e1
end Go.Proofs.YtldhllpogdikdaaGreat
