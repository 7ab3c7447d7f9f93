/-
  More operations: slices cut where the address is known, equality of pairs, slices against nil, clear. Nothing here is a claim.
-/
import Derived.Test.YteilalejfphkgaaRep
import Derived.WalkSpells
import Derived.ChangeKeysEq
import Derived.Lib.SliceRun
namespace Go.GL

section
variable {P : Program} {env : Env} {w : World} {dst : Option Tmp} {ty : TypeId} {pos : String} {aft : Array Edge} {g : Option (Nat × Bool)}

/-- x[:i]: the address stays. -/
theorem R.cutHi {t e : TypeId} {k : Nat} {x hi : Operand} {ao : Option Addr} {l c : Nat} {kd : IntKind} {i : Int} (hu : ∀ w, (underlying t).run P w = .ok (.slice e) w) (hs : ∀ w, (sizeOf e).run P w = .ok k w) (hx : ev env x = some (.slice ao l c)) (hy : ev env hi = some (.int kd i)) (h0 : 0 ≤ i ∧ i ≤ c) :
    Runs P ⟨dst, .slice t x none (some hi) none, ty, pos, aft, g⟩ env w (.slice ao i.toNat c) w := by
  have h := R.sliceHi (dst := dst) (ty := ty) (pos := pos) (aft := aft) (g := g) (w := w) hu hs hx hy h0
  have e1 : (if c = 0 then ao else ao.map (·.add (0 * k))) = ao := by
    cases ao <;> simp [Addr.add]
  rwa [e1] at h
/-- x[i:], i before the capacity's end. -/
theorem R.cutLo {t e : TypeId} {k : Nat} {x lo : Operand} {ao : Option Addr} {b o l c : Nat} {kd : IntKind} {i : Int} (hu : ∀ w, (underlying t).run P w = .ok (.slice e) w) (hs : ∀ w, (sizeOf e).run P w = .ok k w) (hx : ev env x = some (.slice ao l c)) (hy : ev env lo = some (.int kd i)) (hao : ao = some ⟨b, o, none⟩) (h0 : 0 ≤ i ∧ i ≤ l) (h1 : i < c) :
    Runs P ⟨dst, .slice t x (some lo) none none, ty, pos, aft, g⟩ env w (.slice (some ⟨b, o + i.toNat * k, none⟩) (l - i.toNat) (c - i.toNat)) w := by
  have h := R.sliceLo (dst := dst) (ty := ty) (pos := pos) (aft := aft) (g := g) (w := w) hu hs hx hy h0
  rw [if_neg (by omega), hao] at h
  simpa [addr_add] using h

/-- A slice held against nil. -/
theorem R.eqNil {t e : TypeId} {t' : TypeId} {x : Operand} {ao : Option Addr} {l c n' c' : Nat} (hu : P.underlying t = some (.slice e)) (hx : ev env x = some (.slice ao l c)) :
    Runs P ⟨dst, .binOp .eql t x (.const (.slice none n' c')) t', ty, pos, aft, g⟩ env w (.bool ao.isNone) w := by
  intro n a ha
  have hc : a.eval (.const (.slice none n' c')) = .slice none n' c' := rfl
  simp only [execOp, ha.eval hx, hc, eqGuard_at_slice]
  simp [Lib.run_eql_slice_nil w t e ao l c n' c' hu]
theorem R.neNil {t e : TypeId} {t' : TypeId} {x : Operand} {ao : Option Addr} {l c n' c' : Nat} (hu : P.underlying t = some (.slice e)) (hx : ev env x = some (.slice ao l c)) :
    Runs P ⟨dst, .binOp .neq t x (.const (.slice none n' c')) t', ty, pos, aft, g⟩ env w (.bool (!ao.isNone)) w := by
  intro n a ha
  have hc : a.eval (.const (.slice none n' c')) = .slice none n' c' := rfl
  simp only [execOp, ha.eval hx, hc, eqGuard_at_slice]
  simp [run_neq_slice_nil_any w t e ao l c n' c' hu]

theorem run_eqPair {t e : TypeId} {k' : IntKind} (hu : P.underlying t = some (.array 2 e)) (he : P.underlying e = some (.int k')) (hs : P.cellsOf e = 1) (hi : (P.info? e).isSome = true) (ha : ∀ w, (isAgg e).run P w = .ok false w) {k : IntKind} (a b c d : Int) (dd : Nat) :
    (Op.equalIn (dd + 2) t (.agg #[.int k a, .int k b]) (.agg #[.int k c, .int k d])).run P w = .ok (decide ((a, b) = (c, d))) w := by
  obtain ⟨i, hi⟩ := Option.isSome_iff_exists.1 hi
  rw [run_equalIn_array w (dd + 1) _ _ hu hi, hs]
  simp [List.range_succ, Op.eqItems, part, ha, run_equalIn_int w dd e k k' _ _ he]
  by_cases h1 : a = c
  · by_cases h2 : b = d <;> simp [h1, h2]
  · simp [h1]

/-- Two pairs of ints. -/
theorem R.eqP {t e : TypeId} {t' : TypeId} {k' : IntKind} {x y : Operand} {k : IntKind} {a b c d : Int} (hu : P.underlying t = some (.array 2 e)) (he : P.underlying e = some (.int k')) (hs : P.cellsOf e = 1) (hi : (P.info? e).isSome = true) (hag : ∀ w, (isAgg e).run P w = .ok false w) (hm : P.eqGuardType P.depth t = false) (hx : ev env x = some (.agg #[.int k a, .int k b])) (hy : ev env y = some (.agg #[.int k c, .int k d])) :
    Runs P ⟨dst, .binOp .eql t x y t', ty, pos, aft, g⟩ env w (.bool (decide ((a, b) = (c, d)))) w := by
  intro n a ha
  simp [execOp, ha.eval hx, ha.eval hy, run_eqGuard_agg, hm, run_eql_struct, run_eqPair hu he hs hi hag]
theorem R.neP {t e : TypeId} {t' : TypeId} {k' : IntKind} {x y : Operand} {k : IntKind} {a b c d : Int} (hu : P.underlying t = some (.array 2 e)) (he : P.underlying e = some (.int k')) (hs : P.cellsOf e = 1) (hi : (P.info? e).isSome = true) (hag : ∀ w, (isAgg e).run P w = .ok false w) (hm : P.eqGuardType P.depth t = false) (hx : ev env x = some (.agg #[.int k a, .int k b])) (hy : ev env y = some (.agg #[.int k c, .int k d])) :
    Runs P ⟨dst, .binOp .neq t x y t', ty, pos, aft, g⟩ env w (.bool (decide ((a, b) ≠ (c, d)))) w := by
  intro n a ha
  simp [execOp, ha.eval hx, ha.eval hy, run_eqGuard_agg, hm, run_neq_struct, run_eqPair hu he hs hi hag]

/-- An empty slice literal: a block of no cells. -/
theorem M.buildSlice0 {t e : TypeId} {k : Nat} (hu : ∀ w, (underlying t).run P w = .ok (.slice e) w) (hs : ∀ w, (sizeOf e).run P w = .ok k w) :
    Makes P ⟨dst, .buildSlice t 0 #[], ty, pos, aft, g⟩ env w (fun u w' => ∃ b, u = .slice (some ⟨b, 0, none⟩) 0 0 ∧ New w [] e b w') := by
  refine ⟨.slice (some ⟨w.heap.size, 0, none⟩) 0 0, w.alloc (.cells #[] e), ?_, _, rfl, New.mk w [] e⟩
  intro n a ha
  have e1 : Array.range 0 = #[] := rfl
  simp [execOp, Instr.buildSlice, hu, hs, Instr.fill, newRow, e1]

/-- The cells of a part of a block, stored one by one. -/
theorem run_storeCells_blk {b : Nat} {e : TypeId} : ∀ (us : List Value) (o i : Nat) (w : World) (cs : List Value), (∀ u ∈ us, u.oneCell' = true) → Blk w b cs e → o + i + us.length ≤ cs.length →
      ∃ w', (storeCells ⟨b, o, none⟩ us i).run P w = .ok () w' ∧ Wrote w b (cs.take (o + i) ++ us ++ cs.drop (o + i + us.length)) e w' := by
  intro us
  induction us with
  | nil =>
    intro o i w cs _ hb _
    refine ⟨w, by simp [storeCells], rfl, ?_, Keep.refl _ _⟩
    simpa using hb
  | cons u r ih =>
    intro o i w cs h1 hb hl
    simp only [List.length_cons] at hl
    have hcell : w.cell? ⟨b, o + i, none⟩ = some cs[o + i] := by
      have := hb.cells (o + i) cs[o + i] (List.getElem?_eq_getElem (by omega))
      simpa using this
    have hst : ∀ m, (Go.store ⟨b, o + i, none⟩ u m).run P w = .ok () (w.setCell ⟨b, o + i, none⟩ u) := by
      intro m
      rw [run_store P w _ u m (h1 u (by simp))]
      simp [hcell, hb.frozen]
    obtain ⟨w', hr, hsz, hB, hK⟩ := ih o (i + 1) (w.setCell ⟨b, o + i, none⟩ u) (cs.set (o + i) u) (fun x hx => h1 x (by simp [hx])) (hb.set u) (by simp; omega)
    refine ⟨w', ?_, by rw [hsz]; simp, ?_, (Keep.setCell w b (o + i) u).trans hK (fun _ _ h => h)⟩
    · simp [storeCells, addr_add, hst, hr]
    · have e1 : (cs.set (o + i) u).take (o + (i + 1)) = cs.take (o + i) ++ [u] := by
        rw [show o + (i + 1) = (o + i) + 1 from by omega, List.take_succ_eq_append_getElem (by simp; omega)]
        simp [List.take_set_of_le]
      have e2 : (cs.set (o + i) u).drop (o + (i + 1) + r.length) = cs.drop (o + i + (u :: r).length) := by
        rw [List.drop_set_of_lt (by omega)]
        simp only [List.length_cons, Nat.add_assoc, Nat.add_comm 1]
      rw [e1, e2] at hB
      simpa using hB

/-- clear(s) on a slice of m elements within a block. -/
theorem M.clear {t e : TypeId} {k : Nat} {z : Value} {x : Operand} {b o m c : Nat} {cs : List Value} {zs : List Value} (hu : ∀ w, (underlying t).run P w = .ok (.slice e) w) (hz : ∀ w, (zeroValue e).run P w = .ok z w) (hx : ev env x = some (.slice (some ⟨b, o, none⟩) m c)) (hm : 0 < m) (hzs : Builtin.zeroCells z.cells m = zs.toArray) (hl : zs.length = m * k) (h1 : ∀ u ∈ zs, u.oneCell' = true) (hb : Blk w b cs e) (ho : o + m * k ≤ cs.length) :
    Makes P ⟨dst, .call ⟨.builtin .clear, #[x], #[t]⟩, ty, pos, aft, g⟩ env w (fun u w' => u = .tuple #[] ∧ Wrote w b (cs.take o ++ zs ++ cs.drop (o + m * k)) e w') := by
  obtain ⟨w', hr, hW⟩ := run_storeCells_blk (P := P) zs o 0 w cs h1 hb (by rw [hl]; omega)
  refine ⟨.tuple #[], w', ?_, rfl, by rw [← hl]; simpa using hW⟩
  intro n a ha
  obtain ⟨m', rfl⟩ : ∃ m', m = m' + 1 := ⟨m - 1, by omega⟩
  have hrun : (Builtin.clear_ #[t] ty #[.slice (some ⟨b, o, none⟩) (m' + 1) c]).run P w = .ok (.tuple #[]) w' := by
    simp [Builtin.clear_, hu, hz, hzs, hr]
  simp [execOp, resolve, invoke, builtin, ha.eval hx, hrun]
end
end Go.GL
