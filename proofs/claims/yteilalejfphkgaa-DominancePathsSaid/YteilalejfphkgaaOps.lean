/-
  The operations: one lemma each, over any program. Nothing here is a claim.
-/
import Derived.Test.YteilalejfphkgaaLib
namespace Go.GL

section
variable {P : Program} {env : Env} {w : World} {dst : Option Tmp} {ty : TypeId} {pos : String} {aft : Array Edge} {g : Option (Nat × Bool)}

/-! ### no memory -/

theorem R.move {x : Operand} {v : Value} (hx : ev env x = some v) : Runs P ⟨dst, .move x, ty, pos, aft, g⟩ env w v w := by
  intro n a ha; simp [execOp, ha.eval hx]
theorem R.assign {x : Operand} {v : Value} (hx : ev env x = some v) : Runs P ⟨dst, .assign x, ty, pos, aft, g⟩ env w v w := by
  intro n a ha; simp [execOp, ha.eval hx]
theorem R.pickT {c x y : Operand} {b : Bool} {v : Value} (hc : ev env c = some (.bool b)) (hb : b = true) (hx : ev env x = some v) : Runs P ⟨dst, .pick c x y, ty, pos, aft, g⟩ env w v w := by
  intro n a ha; simp [execOp, ha.eval hc, ha.eval hx, asBool, hb]
theorem R.pickF {c x y : Operand} {b : Bool} {v : Value} (hc : ev env c = some (.bool b)) (hb : b = false) (hy : ev env y = some v) : Runs P ⟨dst, .pick c x y, ty, pos, aft, g⟩ env w v w := by
  intro n a ha; simp [execOp, ha.eval hc, ha.eval hy, asBool, hb]
theorem R.nilCheck {x : Operand} {a0 : Addr} (hx : ev env x = some (.pointer (some a0))) : Runs P ⟨dst, .nilCheck x, ty, pos, aft, g⟩ env w (.pointer (some a0)) w := by
  intro n a ha; simp [execOp, ha.eval hx]
theorem R.nilCheckF {x : Operand} {f : FuncId} {fs cs : Array Value} (hx : ev env x = some (.func (.func f) fs cs)) : Runs P ⟨dst, .nilCheck x, ty, pos, aft, g⟩ env w (.func (.func f) fs cs) w := by
  intro n a ha; simp [execOp, ha.eval hx]
theorem R.extract {x : Operand} {i : Nat} {vs : Array Value} {v : Value} (hx : ev env x = some (.tuple vs)) (hi : vs[i]? = some v) : Runs P ⟨dst, .extract x i, ty, pos, aft, g⟩ env w v w := by
  intro n a ha; simp [execOp, ha.eval hx, Instr.extract, hi]

/-! integers -/
section
variable {t t' : TypeId} {x y : Operand} {k : IntKind} {m j : Int}
theorem R.add (hx : ev env x = some (.int k m)) (hy : ev env y = some (.int k j)) (hr : k.wrap (m + j) = m + j) : Runs P ⟨dst, .binOp .add t x y t', ty, pos, aft, g⟩ env w (.int k (m + j)) w := by
  intro n a ha; simp [execOp, ha.eval hx, ha.eval hy, eqGuard_add, binOp_add, Op.intArith, hr]
theorem R.sub (hx : ev env x = some (.int k m)) (hy : ev env y = some (.int k j)) (hr : k.wrap (m - j) = m - j) : Runs P ⟨dst, .binOp .sub t x y t', ty, pos, aft, g⟩ env w (.int k (m - j)) w := by
  intro n a ha; simp [execOp, ha.eval hx, ha.eval hy, eqGuard_sub, binOp_sub, Op.intArith, hr]
theorem R.mul (hx : ev env x = some (.int k m)) (hy : ev env y = some (.int k j)) (hr : k.wrap (m * j) = m * j) : Runs P ⟨dst, .binOp .mul t x y t', ty, pos, aft, g⟩ env w (.int k (m * j)) w := by
  intro n a ha; simp [execOp, ha.eval hx, ha.eval hy, eqGuard_mul, binOp_mul, Op.intArith, hr]
theorem R.lss (hx : ev env x = some (.int k m)) (hy : ev env y = some (.int k j)) : Runs P ⟨dst, .binOp .lss t x y t', ty, pos, aft, g⟩ env w (.bool (decide (m < j))) w := by
  intro n a ha; simp [execOp, ha.eval hx, ha.eval hy, eqGuard_lss, binOp_lss]
theorem R.leq (hx : ev env x = some (.int k m)) (hy : ev env y = some (.int k j)) : Runs P ⟨dst, .binOp .leq t x y t', ty, pos, aft, g⟩ env w (.bool (decide (m ≤ j))) w := by
  intro n a ha; simp [execOp, ha.eval hx, ha.eval hy, eqGuard_leq, binOp_leq]
theorem R.gtr (hx : ev env x = some (.int k m)) (hy : ev env y = some (.int k j)) : Runs P ⟨dst, .binOp .gtr t x y t', ty, pos, aft, g⟩ env w (.bool (decide (j < m))) w := by
  intro n a ha; simp [execOp, ha.eval hx, ha.eval hy, eqGuard_gtr, binOp_gtr]
theorem R.geq (hx : ev env x = some (.int k m)) (hy : ev env y = some (.int k j)) : Runs P ⟨dst, .binOp .geq t x y t', ty, pos, aft, g⟩ env w (.bool (decide (j ≤ m))) w := by
  intro n a ha; simp [execOp, ha.eval hx, ha.eval hy, eqGuard_geq, binOp_geq]
theorem R.eql (hx : ev env x = some (.int k m)) (hy : ev env y = some (.int k j)) : Runs P ⟨dst, .binOp .eql t x y t', ty, pos, aft, g⟩ env w (.bool (decide (m = j))) w := by
  intro n a ha; simp [execOp, ha.eval hx, ha.eval hy, eqGuard_at_int, binOp_eql]; rfl
theorem R.neq (hx : ev env x = some (.int k m)) (hy : ev env y = some (.int k j)) : Runs P ⟨dst, .binOp .neq t x y t', ty, pos, aft, g⟩ env w (.bool (decide (m ≠ j))) w := by
  intro n a ha; simp [execOp, ha.eval hx, ha.eval hy, eqGuard_at_int, binOp_neq, bne]; by_cases h : m = j <;> simp [h]
theorem R.eqlB {p q : Bool} (ht : P.underlying t = some .bool) (hx : ev env x = some (.bool p)) (hy : ev env y = some (.bool q)) : Runs P ⟨dst, .binOp .eql t x y t', ty, pos, aft, g⟩ env w (.bool (decide (p = q))) w := by
  intro n a ha; simp [execOp, ha.eval hx, ha.eval hy, eqGuard_at_bool, run_eql_bool _ _ _ _ ht]; cases p <;> cases q <;> rfl
theorem R.neqB {p q : Bool} (ht : P.underlying t = some .bool) (hx : ev env x = some (.bool p)) (hy : ev env y = some (.bool q)) : Runs P ⟨dst, .binOp .neq t x y t', ty, pos, aft, g⟩ env w (.bool (decide (p ≠ q))) w := by
  intro n a ha; simp [execOp, ha.eval hx, ha.eval hy, eqGuard_at_bool, run_neq_bool _ _ _ _ ht]; cases p <;> cases q <;> rfl
theorem R.not {b : Bool} (hx : ev env x = some (.bool b)) : Runs P ⟨dst, .unOp .not t x, ty, pos, aft, g⟩ env w (.bool (!b)) w := by
  intro n a ha; simp [execOp, ha.eval hx, Op.unary]
theorem R.notD {p : Prop} [Decidable p] (hx : ev env x = some (.bool (decide p))) : Runs P ⟨dst, .unOp .not t x, ty, pos, aft, g⟩ env w (.bool (decide (¬ p))) w := by
  intro n a ha; simp [execOp, ha.eval hx, Op.unary]
end

theorem wrap_i64_in {m : Int} (h : -9223372036854775808 ≤ m ∧ m ≤ 9223372036854775807) : IntKind.i64.wrap m = m := by
  rw [IntKind.wrap_i64]; omega

/-! ### reading memory -/

def Cells (w : World) (b o : Nat) (cs : List Value) : Prop := ∀ j v, cs[j]? = some v → w.cell? ⟨b, o + j, none⟩ = some v
/-- A whole block, nothing of it frozen. -/
def Blk (w : World) (b : Nat) (cs : List Value) (e : TypeId) : Prop := w.heap[b]? = some (.cells cs.toArray e (0, 0))

theorem Blk.cells {w : World} {b : Nat} {cs : List Value} {e : TypeId} (h : Blk w b cs e) : Cells w b 0 cs := by
  intro j v hv
  unfold Blk at h
  simp only [World.cell?, h]
  simpa using hv
theorem Blk.lt {w : World} {b : Nat} {cs : List Value} {e : TypeId} (h : Blk w b cs e) : b < w.heap.size := by
  unfold Blk at h
  rcases Nat.lt_or_ge b w.heap.size with h' | h'
  · exact h'
  · rw [Array.getElem?_eq_none h'] at h; cases h
theorem Blk.frozen {w : World} {b o : Nat} {cs : List Value} {e : TypeId} (h : Blk w b cs e) : w.frozen? ⟨b, o, none⟩ = false := frozen_of_row w b o _ e h
theorem Cells.part {w : World} {b o : Nat} {cs ds : List Value} (h : Cells w b o cs) (i : Nat) (hd : ∀ j v, ds[j]? = some v → cs[i + j]? = some v) : Cells w b (o + i) ds := by
  intro j v hv
  rw [Nat.add_assoc]
  exact h _ _ (hd j v hv)

/-- An element of one cell, its number an int. -/
theorem Cells.el1 {w : World} {b o : Nat} {cs : List Value} (h : Cells w b o cs) {i : Int} (a : Nat) (hi : i = (a : Int)) {v : Value} (hv : cs[a]? = some v) : w.cell? ⟨b, o + i.toNat * 1, none⟩ = some v := by
  subst hi
  rw [Int.toNat_natCast, Nat.mul_one]
  exact h a v hv
theorem addr_add (b o n : Nat) : (⟨b, o, none⟩ : Addr).add n = ⟨b, o + n, none⟩ := Addr.add_lit b o n

theorem R.lenS {x : Operand} {ts : Array TypeId} {t e : TypeId} {ao : Option Addr} {l c : Nat} (ht : ts[0]? = some t) (hu : ∀ w, (underlying t).run P w = .ok (.slice e) w) (hx : ev env x = some (.slice ao l c)) :
    Runs P ⟨dst, .call ⟨.builtin .len, #[x], ts⟩, ty, pos, aft, g⟩ env w (.int .i64 l) w := by
  intro n a ha
  simp [execOp, resolve, invoke, builtin, ha.eval hx, Builtin.len_, ht, hu, goInt]

/-- The address of an element of a slice. -/
theorem R.indexS {t e : TypeId} {k : Nat} {x y : Operand} {ao : Option Addr} {b o l c : Nat} {kd : IntKind} {i : Int} (hu : ∀ w, (underlying t).run P w = .ok (.slice e) w) (hs : ∀ w, (sizeOf e).run P w = .ok k w)
    (hx : ev env x = some (.slice ao l c)) (hy : ev env y = some (.int kd i)) (hao : ao = some ⟨b, o, none⟩) (h0 : 0 ≤ i ∧ i < l) :
    Runs P ⟨dst, .indexAddr t x y, ty, pos, aft, g⟩ env w (.pointer (some ⟨b, o + i.toNat * k, none⟩)) w := by
  intro n a ha
  subst hao
  simp [execOp, ha.eval hx, ha.eval hy, Instr.indexAt, asIntOf, hu, hs, h0, addr_add]

/-- .. of an array behind a pointer. -/
theorem R.indexA {t e : TypeId} {k len : Nat} {x y : Operand} {b o : Nat} {kd : IntKind} {i : Int} (hu : ∀ w, (underlying t).run P w = .ok (.array len e) w) (hs : ∀ w, (sizeOf e).run P w = .ok k w)
    (hx : ev env x = some (.pointer (some ⟨b, o, none⟩))) (hy : ev env y = some (.int kd i)) (h0 : 0 ≤ i ∧ i < len) :
    Runs P ⟨dst, .indexAddr t x y, ty, pos, aft, g⟩ env w (.pointer (some ⟨b, o + i.toNat * k, none⟩)) w := by
  intro n a ha
  simp [execOp, ha.eval hx, ha.eval hy, Instr.indexAt, asIntOf, hu, hs, h0, Instr.sureAddr, addr_add]

theorem R.fieldAddr {s : TypeId} {x : Operand} {fld k : Nat} {b o : Nat} {fields : Array Field} {f : Field} (hu : ∀ w, (underlying s).run P w = .ok (.struct fields) w) (hf : fields[fld]? = some f) (hs : ∀ w, (sizeOf f.type).run P w = .ok (k + 1) w)
    (hx : ev env x = some (.pointer (some ⟨b, o, none⟩))) : Runs P ⟨dst, .fieldAddr s x fld, ty, pos, aft, g⟩ env w (.pointer (some ⟨b, o + f.offset, none⟩)) w := by
  intro n a ha
  simp [execOp, ha.eval hx, Instr.fieldAt, hu, hf, Instr.sureAddr, fieldPlace, hs, addr_add]

/-- One cell. -/
theorem R.load {t : TypeId} {x : Operand} {a0 : Addr} {v : Value} (ht : ∀ w, (isAgg t).run P w = .ok false w) (hx : ev env x = some (.pointer (some a0))) (hc : w.cell? a0 = some v) :
    Runs P ⟨dst, .load t x, ty, pos, aft, g⟩ env w v w := by
  intro n a ha
  simp [execOp, ha.eval hx, Instr.loadAt, Instr.sureAddr, loadVar, ht, hc]

theorem run_loadK {t : TypeId} {k : Nat} {b o : Nat} {cs : List Value} (ht : ∀ w, (isAgg t).run P w = .ok true w) (hs : ∀ w, (sizeOf t).run P w = .ok k w) (hl : cs.length = k) (hc : Cells w b o cs) : (loadVar t ⟨b, o, none⟩).run P w = .ok (.agg cs.toArray) w := by
  have := run_loadCells_list (P := P) (w := w) ⟨b, o, none⟩ cs (fun j v hv => by rw [Addr.add_lit]; exact hc j v hv)
  simp [loadVar, ht, hs, ← hl, this]

/-- A struct or an array, whole. -/
theorem R.loadK {t : TypeId} {k : Nat} {x : Operand} {b o : Nat} {cs : List Value} (ht : ∀ w, (isAgg t).run P w = .ok true w) (hs : ∀ w, (sizeOf t).run P w = .ok k w) (hx : ev env x = some (.pointer (some ⟨b, o, none⟩))) (hl : cs.length = k) (hc : Cells w b o cs) :
    Runs P ⟨dst, .load t x, ty, pos, aft, g⟩ env w (.agg cs.toArray) w := by
  intro n a ha
  have := run_loadCells_list (P := P) (w := w) ⟨b, o, none⟩ cs (fun j v hv => by rw [Addr.add_lit]; exact hc j v hv)
  simp [execOp, ha.eval hx, Instr.loadAt, Instr.sureAddr, loadVar, ht, hs, ← hl, this]

/-- A part of a struct at hand: one cell. -/
theorem R.field {s : TypeId} {x : Operand} {fld : Nat} {fields : Array Field} {f : Field} {cs : List Value} {v : Value} (hu : ∀ w, (underlying s).run P w = .ok (.struct fields) w) (hf : fields[fld]? = some f) (ht : ∀ w, (isAgg f.type).run P w = .ok false w)
    (hx : ev env x = some (.agg cs.toArray)) (hv : cs[f.offset]? = some v) : Runs P ⟨dst, .field s x fld, ty, pos, aft, g⟩ env w v w := by
  intro n a ha
  simp [execOp, ha.eval hx, Instr.field, hu, hf, asAgg, part, ht, hv]

/-- x[lo:hi] of a slice, each bound a number or left out. -/
theorem R.sliceLo {t e : TypeId} {k : Nat} {x lo : Operand} {ao : Option Addr} {l c : Nat} {kd : IntKind} {i : Int} (hu : ∀ w, (underlying t).run P w = .ok (.slice e) w) (hs : ∀ w, (sizeOf e).run P w = .ok k w) (hx : ev env x = some (.slice ao l c)) (hy : ev env lo = some (.int kd i)) (h0 : 0 ≤ i ∧ i ≤ l) :
    Runs P ⟨dst, .slice t x (some lo) none none, ty, pos, aft, g⟩ env w (.slice (if c = i.toNat then ao else ao.map (·.add (i.toNat * k))) (l - i.toNat) (c - i.toNat)) w := by
  intro n a ha
  simp [execOp, ha.eval hx, ha.eval hy, Instr.sliceAt, Instr.slice, Instr.sliceBounds, Instr.sliceBound, asIntOf, hu, hs, h0]
theorem R.sliceHi {t e : TypeId} {k : Nat} {x hi : Operand} {ao : Option Addr} {l c : Nat} {kd : IntKind} {i : Int} (hu : ∀ w, (underlying t).run P w = .ok (.slice e) w) (hs : ∀ w, (sizeOf e).run P w = .ok k w) (hx : ev env x = some (.slice ao l c)) (hy : ev env hi = some (.int kd i)) (h0 : 0 ≤ i ∧ i ≤ c) :
    Runs P ⟨dst, .slice t x none (some hi) none, ty, pos, aft, g⟩ env w (.slice (if c = 0 then ao else ao.map (·.add (0 * k))) i.toNat c) w := by
  intro n a ha
  simp [execOp, ha.eval hx, ha.eval hy, Instr.sliceAt, Instr.slice, Instr.sliceBounds, Instr.sliceBound, asIntOf, hu, hs, h0]
theorem R.sliceLH {t e : TypeId} {k : Nat} {x lo hi : Operand} {ao : Option Addr} {l c : Nat} {kd kh : IntKind} {i j : Int} (hu : ∀ w, (underlying t).run P w = .ok (.slice e) w) (hs : ∀ w, (sizeOf e).run P w = .ok k w) (hx : ev env x = some (.slice ao l c)) (hy : ev env lo = some (.int kd i)) (hz : ev env hi = some (.int kh j)) (h0 : 0 ≤ i ∧ i ≤ j) (h1 : j ≤ c) :
    Runs P ⟨dst, .slice t x (some lo) (some hi) none, ty, pos, aft, g⟩ env w (.slice (if c = i.toNat then ao else ao.map (·.add (i.toNat * k))) (j.toNat - i.toNat) (c - i.toNat)) w := by
  intro n a ha
  have h2 : 0 ≤ j := by omega
  have h3 : ¬ max j 0 < i := by omega
  simp [execOp, ha.eval hx, ha.eval hy, ha.eval hz, Instr.sliceAt, Instr.slice, Instr.sliceBounds, Instr.sliceBound, asIntOf, hu, hs, h0, h1, h2]
  exact fun h => absurd h h3

/-- A struct or array put together: what each part is comes by reckoning. -/
theorem R.build {t : TypeId} {parts : Array (Nat × Operand)} {v : Value} (ps : List (Nat × Value)) (hp : parts.toList.map (fun p => (p.1, ev env p.2)) = ps.map (fun p => (p.1, some p.2))) (hb : ∀ w, (Instr.build t ps.toArray).run P w = .ok v w) :
    Runs P ⟨dst, .build t parts, ty, pos, aft, g⟩ env w v w := by
  intro n a ha
  have e : (parts.map fun (i, x) => (i, a.eval x)) = ps.toArray := by
    have key : ∀ (l : List (Nat × Operand)) (ps : List (Nat × Value)), l.map (fun p => (p.1, ev env p.2)) = ps.map (fun p => (p.1, some p.2)) → l.map (fun p => (p.1, a.eval p.2)) = ps := by
      intro l
      induction l with
      | nil => intro ps h; cases ps with
        | nil => rfl
        | cons _ _ => simp at h
      | cons x r ih =>
        intro ps h
        cases ps with
        | nil => simp at h
        | cons y s =>
          simp only [List.map_cons, List.cons.injEq, Prod.mk.injEq] at h
          simp only [List.map_cons, List.cons.injEq]
          refine ⟨?_, ih s h.2⟩
          rw [ha.eval h.1.2, h.1.1]
    apply Array.toList_inj.1
    simpa using key parts.toList ps hp
  simp [execOp, e, hb]

end

/-! ### calls of functions -/
section
variable {P : Program} {env : Env} {w : World} {dst : Option Tmp} {ty : TypeId} {pos : String} {aft : Array Edge} {g : Option (Nat × Bool)}

theorem evs {n : Nat} {a : Act} (ha : Ok n env a) : ∀ (l : List Operand) (vs : List Value), l.map (ev env) = vs.map some → l.map a.eval = vs
  | [], [], _ => rfl
  | [], _ :: _, h => by simp at h
  | _ :: _, [], h => by simp at h
  | x :: l, v :: vs, h => by
    simp only [List.map_cons, List.cons.injEq] at h ⊢
    exact ⟨ha.eval h.1, evs ha l vs h.2⟩

theorem F.call {f : FuncId} {xs : Array Operand} {ts : Array TypeId} {vs : List Value} (hf : ∀ args w, (callFunc f args).run P w = .ok (.enter f args) w) (hx : xs.toList.map (ev env) = vs.map some) :
    RunsF P ⟨dst, .call ⟨.value (.func f), xs, ts⟩, ty, pos, aft, g⟩ env w f vs.toArray := by
  intro n a ha
  have e : xs.map a.eval = vs.toArray := by
    apply Array.toList_inj.1
    simpa using evs ha xs.toList vs hx
  simp [execOp, resolve, invoke, Deferred.ofValue, Act.eval, e, hf]

/-- A call of a function value. -/
theorem F.callV {f : FuncId} {x : Operand} {fs cs : List Value} {xs : Array Operand} {ts : Array TypeId} {vs : List Value} (hf : ∀ args w, (callFunc f args).run P w = .ok (.enter f args) w) (hv : ev env x = some (.func (.func f) fs.toArray cs.toArray)) (hx : xs.toList.map (ev env) = vs.map some) :
    RunsF P ⟨dst, .call ⟨.value x, xs, ts⟩, ty, pos, aft, g⟩ env w f (fs ++ vs ++ cs).toArray := by
  intro n a ha
  have e : xs.map a.eval = vs.toArray := by
    apply Array.toList_inj.1
    simpa using evs ha xs.toList vs hx
  simp [execOp, resolve, invoke, Deferred.ofValue, ha.eval hv, e, hf]
end

end Go.GL
