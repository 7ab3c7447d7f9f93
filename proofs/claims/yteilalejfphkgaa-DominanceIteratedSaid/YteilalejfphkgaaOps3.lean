/-
  append of nothing; append of a whole slice that is read. Over any program. Nothing here is a claim.
-/
import Derived.Test.YteilalejfphkgaaOps2
namespace Go.GL
open Go.RowKit
section
variable {P : Program} {env : Env} {w : World} {dst : Option Tmp} {ty : TypeId} {pos : String} {aft : Array Edge} {g : Option (Nat × Bool)}

theorem M.append0 {t e : TypeId} {x y : Operand} {a1 ao : Option Addr} {l1 c1 c : Nat} {r : Option Value × Nat × Nat} (hu : P.underlying t = some (.slice e)) (he : (P.info? e).map (fun i => (i.zero, i.size, i.bytes)) = some r)
    (hx : ev env x = some (.slice a1 l1 c1)) (hy : ev env y = some (.slice ao 0 c)) (hle : l1 ≤ c1) :
    Makes P ⟨dst, .call ⟨.builtin .append, #[x, y], #[t, t]⟩, ty, pos, aft, g⟩ env w (fun u w' => u = .slice a1 l1 c1 ∧ w' = w) := by
  obtain ⟨i, hi⟩ : ∃ i, P.info? e = some i := by
    cases h : P.info? e with
    | none => rw [h] at he; cases he
    | some i => exact ⟨i, rfl⟩
  refine ⟨_, w, ?_, rfl, rfl⟩
  intro n a ha
  have : (Builtin.append_ #[t, t] ty #[.slice a1 l1 c1, .slice ao 0 c]).run P w = .ok (.slice a1 l1 c1) w := by
    cases a1 <;> cases ao <;> simp [Builtin.append_, run_underlying hu, sizeOf, typeInfo, hi, Builtin.lenOf, Builtin.firstCells, loadCells, loadCellsFrom, storeCells, hle]
  simp [execOp, resolve, invoke, builtin, ha.eval hx, ha.eval hy, this]

/-- append of a whole slice that is read, onto one that the call owns. -/
theorem M.appendL {α : Type} {R : Rel α} {D : Nat → Prop} {t e : TypeId} {k by' : Nat} {z : Value} {x y : Operand} {v vy : Value} {m : Nat} {xs : List Value} {l : List α} (enc : α → List Value) (hc : ∀ x, (enc x).length = k) (h1 : ∀ x, ∀ u ∈ enc x, u.oneCell' = true) (hR : ∀ x cs, R D w x cs → cs = enc x)
    (hu : P.underlying t = some (.slice e)) (he : (P.info? e).map (fun i => (i.zero, i.size, i.bytes)) = some (some z, k, by')) (hzs : z.cells.size = k) (hk : 0 < k)
    (hx : ev env x = some v) (hy : ev env y = some vy) (hsl : SlR k R D w vy l) (hown : w.ownsRow 0 e k v m xs) (hmax : m + l.length ≤ 9223372036854775807) (hby : (m + l.length) * by' ≤ 140737488355328) :
    Makes P ⟨dst, .call ⟨.builtin .append, #[x, y], #[t, t]⟩, ty, pos, aft, g⟩ env w (fun u w' => w'.ownsRow 0 e k u (m + l.length) (xs ++ l.flatMap enc) ∧ (u.ownBlock = v.ownBlock ∨ ∃ g, u.ownBlock = some g ∧ w.heap.size ≤ g) ∧ Keep (fun k => v.ownBlock = some k) w w') := by
  obtain ⟨ao, cap, rfl, hlc, hcm, hel⟩ := hsl
  by_cases hl : l.length = 0
  · have hl0 : l = [] := List.eq_nil_of_length_eq_zero hl
    subst hl0
    have hv : ∃ a1 c1, v = .slice a1 m c1 ∧ m ≤ c1 := by
      rcases hown.2 with ⟨rfl, rfl⟩ | ⟨g0, cap, cur, rfl, hbg, hg0, hnc, hcm, hcs, htake⟩
      · exact ⟨none, 0, rfl, Nat.le_refl _⟩
      · exact ⟨_, _, rfl, hnc⟩
    obtain ⟨a1, c1, rfl, hle⟩ := hv
    obtain ⟨u, w', hr, rfl, rfl⟩ := M.append0 (g := g) (pos := pos) (aft := aft) (dst := dst) (ty := ty) hu he hx hy hle
    exact ⟨_, _, hr, by simpa using hown, .inl rfl, Keep.refl _ _⟩
  · obtain ⟨a0, rfl⟩ : ∃ a0, ao = some a0 := by
      obtain ⟨x, hx⟩ : ∃ x, l[0]? = some x := ⟨_, List.getElem?_eq_getElem (by omega)⟩
      obtain ⟨b, o, cs, hao, _⟩ := hel 0 x hx
      exact ⟨_, hao⟩
    have hnews : ∀ q u, (l.flatMap enc)[q]? = some u → w.cell? (a0.add q) = some u := by
      intro q u hq
      have hq2 : q < l.length * k := by rw [← flat_len hc]; exact (List.getElem?_eq_some_iff.1 hq).1
      have hd : q / k * k + q % k = q := by rw [Nat.mul_comm]; exact Nat.div_add_mod q k
      obtain ⟨x, hx⟩ : ∃ x, l[q / k]? = some x := ⟨_, List.getElem?_eq_getElem (by rw [Nat.div_lt_iff_lt_mul hk]; exact hq2)⟩
      obtain ⟨b', o', cs, hao, _, hcl, hcs, hRx⟩ := hel (q / k) x hx
      have := hR x cs hRx
      subst this
      cases hao
      have h3 : ∃ u', (enc x)[q % k]? = some u' := ⟨_, List.getElem?_eq_getElem (by rw [hc]; exact Nat.mod_lt _ hk)⟩
      obtain ⟨u', hu'⟩ := h3
      have h2 := flat_at hc hx [] (q % k) u' hu'
      rw [List.append_nil, hd, hq] at h2
      cases h2
      have h4 := hcs (q % k) u hu'
      rw [addr_add]
      rw [Nat.add_assoc, hd] at h4
      exact h4
    obtain ⟨u, w', hr, h5, h6, h7, _⟩ := M.append (g := g) (pos := pos) (aft := aft) (dst := dst) (ty := ty) hu he hzs hk hx hy hown (flat_len hc l) hnews (by intro u hu; obtain ⟨x, _, hx⟩ := List.mem_flatMap.1 hu; exact h1 x u hx) hmax hby
    exact ⟨u, w', hr, h5, h6, h7⟩
end
end Go.GL
