/-
  Operations that make or write memory: one lemma each, over any program; the world behind is opaque. Nothing here is a claim.
-/
import Derived.Test.YteilalejfphkgaaOps
import Derived.Below
namespace Go.GL
open Go.RowKit

/-- All that was there is as it was, but for the blocks in S. -/
structure Keep (S : Nat → Prop) (w w' : World) : Prop where
  os : w'.os = w.os
  tape : w'.tape = w.tape
  output : w'.output = w.output
  drawn : w.drawn ≤ w'.drawn
  size : w.heap.size ≤ w'.heap.size
  block : ∀ k, k < w.heap.size → ¬ S k → w'.heap[k]? = w.heap[k]?

abbrev Ext (w w' : World) : Prop := Keep (fun _ => False) w w'

section
variable {w w' w'' : World} {S T : Nat → Prop}
theorem Keep.refl (S : Nat → Prop) (w : World) : Keep S w w := ⟨rfl, rfl, rfl, Nat.le_refl _, Nat.le_refl _, fun _ _ _ => rfl⟩
theorem Keep.mono (h : Keep S w w') (hs : ∀ k, k < w.heap.size → S k → T k) : Keep T w w' := ⟨h.os, h.tape, h.output, h.drawn, h.size, fun k hk hn => h.block k hk (fun hS => hn (hs k hk hS))⟩
/-- What the second step writes is new, or among S. -/
theorem Keep.trans (h : Keep S w w') (h' : Keep T w' w'') (hs : ∀ k, k < w.heap.size → T k → S k) : Keep S w w'' :=
  ⟨h'.os.trans h.os, h'.tape.trans h.tape, h'.output.trans h.output, Nat.le_trans h.drawn h'.drawn, Nat.le_trans h.size h'.size, fun k hk hn => (h'.block k (Nat.lt_of_lt_of_le hk h.size) (fun hT => hn (hs k hk hT))).trans (h.block k hk hn)⟩
theorem Keep.ext (h : Keep S w w') (h' : Ext w' w'') : Keep S w w'' := h.trans h' (fun _ _ h => h.elim)
theorem Keep.below (h : Ext w w') : Below w.heap.size w w' := ⟨h.os, h.tape, h.output, h.size, fun k hk => h.block k hk (fun h => h)⟩
theorem Keep.blk (h : Keep S w w') {b : Nat} {cs : List Value} {e : TypeId} (hb : Blk w b cs e) (hn : ¬ S b) : Blk w' b cs e := by
  unfold Blk at *
  rw [h.block b (Blk.lt hb) hn]; exact hb
theorem Keep.cell (h : Keep S w w') {a : Addr} {v : Value} (hc : w.cell? a = some v) (hn : ¬ S a.block) : w'.cell? a = some v := by
  rw [World.cell?_of_block (w := w) (h.block a.block (World.block_lt_of_cell? w a hc) hn)]; exact hc
theorem Keep.cells (h : Keep S w w') {b o : Nat} {cs : List Value} (hc : Cells w b o cs) (hn : ¬ S b) : Cells w' b o cs := fun j v hv => h.cell (hc j v hv) hn
theorem Keep.alloc (w : World) (o : Obj) : Ext w (w.alloc o) := ⟨rfl, rfl, rfl, Nat.le_refl _, by simp, fun k hk _ => Below.heap_alloc w o k hk⟩
theorem Keep.drew (w : World) : Ext w w.drew := ⟨rfl, rfl, rfl, Nat.le_succ _, Nat.le_refl _, fun _ _ _ => rfl⟩
theorem Keep.drewN (w : World) (n : Nat) : Ext w (w.drewN n) := ⟨rfl, rfl, rfl, Nat.le_add_right _ _, Nat.le_refl _, fun _ _ _ => rfl⟩
theorem Keep.toGrown {b : Nat} (h : Keep (fun k => k = b) w w') : w.grownBy w' (some b) := ⟨h.os, h.tape, h.output, h.size, fun k hk hn => h.block k hk (fun e => hn (by rw [e]))⟩
end

theorem Blk.alloc (w : World) (cs : List Value) (e : TypeId) : Blk (w.alloc (.cells cs.toArray e)) w.heap.size cs e := heap_alloc_new w _

theorem Blk.set {w : World} {b o : Nat} {cs : List Value} {e : TypeId} (h : Blk w b cs e) (v : Value) : Blk (w.setCell ⟨b, o, none⟩ v) b (cs.set o v) e := by
  unfold Blk at *
  rw [heap_setCell_same w b o cs.toArray e v h]
  simp

theorem Keep.setCell (w : World) (b o : Nat) (v : Value) : Keep (fun k => k = b) w (w.setCell ⟨b, o, none⟩ v) :=
  ⟨rfl, rfl, rfl, Nat.le_refl _, by simp, fun k _ hn => heap_setCell_other w ⟨b, o, none⟩ k v hn⟩

section
variable {P : Program} {n : Nat} {ops : Array Oper} {Q : Exit → Act → World → Prop} {o : Oper} {rest : List Oper} {env : Env} {w : World}

/-- An operation that makes or writes memory: R says what it gives. -/
def Makes (P : Program) (o : Oper) (env : Env) (w : World) (R : Value → World → Prop) : Prop := ∃ v w', Runs P o env w v w' ∧ R v w'
def Makes0 (P : Program) (o : Oper) (env : Env) (w : World) (R : World → Prop) : Prop := ∃ w', Runs0 P o env w w' ∧ R w'

theorem WO.mem {d : Nat} {R : Value → World → Prop} (hg : o.guard = none) (hd : o.dst = some d) (hn : Nat.blt d n = true) (hr : Makes P o env w R) (h : ∀ v w', R v w' → WO P n ops Q rest ((d, v) :: env) w') : WO P n ops Q (o :: rest) env w := by
  obtain ⟨v, w', h1, h2⟩ := hr
  exact WO.op hg hd hn h1 (h v w' h2)
theorem WO.memN {R : Value → World → Prop} (hg : o.guard = none) (hd : o.dst = none) (hr : Makes P o env w R) (h : ∀ v w', R v w' → WO P n ops Q rest env w') : WO P n ops Q (o :: rest) env w := by
  obtain ⟨v, w', h1, h2⟩ := hr
  intro a ha
  refine wpList_plain hg fun K hK => ?_
  unfold Oper.wp
  rw [h1 n a ha, Oper.upon_value, hd]
  exact hK _ _ (h v w' h2 _ ha.put0)
theorem WO.mem0 {R : World → Prop} (hg : o.guard = none) (hd : o.dst = none) (hr : Makes0 P o env w R) (h : ∀ w', R w' → WO P n ops Q rest env w') : WO P n ops Q (o :: rest) env w := by
  obtain ⟨w', h1, h2⟩ := hr
  exact WO.op0 hg hd h1 (h w' h2)
end

/-- A new block. -/
def New (w : World) (cs : List Value) (e : TypeId) (b : Nat) (w' : World) : Prop := b = w.heap.size ∧ w'.heap.size = w.heap.size + 1 ∧ Blk w' b cs e ∧ Ext w w'
theorem New.mk (w : World) (cs : List Value) (e : TypeId) : New w cs e w.heap.size (w.alloc (.cells cs.toArray e)) := ⟨rfl, by simp, Blk.alloc w cs e, Keep.alloc w _⟩
/-- A block rewritten. -/
def Wrote (w : World) (b : Nat) (cs : List Value) (e : TypeId) (w' : World) : Prop := w'.heap.size = w.heap.size ∧ Blk w' b cs e ∧ Keep (fun k => k = b) w w'

section
variable {P : Program} {env : Env} {w : World} {dst : Option Tmp} {ty : TypeId} {pos : String} {aft : Array Edge} {g : Option (Nat × Bool)}

theorem M.box {e : TypeId} {x : Operand} {v : Value} {cs : List Value} (hx : ev env x = some v) (hc : v.cells = cs.toArray) :
    Makes P ⟨dst, .box e x, ty, pos, aft, g⟩ env w (fun u w' => ∃ b, u = .pointer (some ⟨b, 0, none⟩) ∧ New w cs e b w') := by
  refine ⟨.pointer (some ⟨w.heap.size, 0, none⟩), w.alloc (.cells cs.toArray e), ?_, _, rfl, New.mk w cs e⟩
  intro n a ha
  simp [execOp, ha.eval hx, Instr.box, newVar, newRow, hc]

theorem M.alloc {e : TypeId} {z : Value} {cs : List Value} (hz : ∀ w, (zeroValue e).run P w = .ok z w) (hc : z.cells = cs.toArray) :
    Makes P ⟨dst, .alloc e, ty, pos, aft, g⟩ env w (fun u w' => ∃ b, u = .pointer (some ⟨b, 0, none⟩) ∧ New w cs e b w') := by
  refine ⟨.pointer (some ⟨w.heap.size, 0, none⟩), w.alloc (.cells cs.toArray e), ?_, _, rfl, New.mk w cs e⟩
  intro n a ha
  simp [execOp, Instr.alloc, hz, newVar, newRow, hc]

/-- A store of one cell. -/
theorem M.store {t : TypeId} {x y : Operand} {b o : Nat} {cs : List Value} {e : TypeId} {v : Value} (hs : ∀ w, (sizeOf t).run P w = .ok 1 w) (hx : ev env x = some (.pointer (some ⟨b, o, none⟩))) (hy : ev env y = some v) (h1 : v.oneCell' = true) (hc : v.cells = #[v]) (hb : Blk w b cs e) (ho : o < cs.length) :
    Makes0 P ⟨dst, .store t x y, ty, pos, aft, g⟩ env w (fun w' => Wrote w b (cs.set o v) e w') := by
  refine ⟨w.setCell ⟨b, o, none⟩ v, ?_, by simp, hb.set v, Keep.setCell w b o v⟩
  intro n a ha
  have hcell : w.cell? ⟨b, o, none⟩ = some cs[o] := by
    have := hb.cells o cs[o] (List.getElem?_eq_getElem ho)
    simpa using this
  have hst : ∀ m, (Go.store ⟨b, o, none⟩ v m).run P w = .ok () (w.setCell ⟨b, o, none⟩ v) := by
    intro m
    rw [run_store P w _ v m h1]
    simp [hcell, hb.frozen]
  simp [execOp, ha.eval hx, ha.eval hy, Instr.storeAt, Instr.sureAddr, storeVar, hs, hc, storeCells, addr_add, hst]

/-- A store of several cells. -/
theorem M.storeK {t : TypeId} {k : Nat} {x y : Operand} {b o : Nat} {cs us : List Value} {e : TypeId} {v : Value} (hs : ∀ w, (sizeOf t).run P w = .ok k w) (hx : ev env x = some (.pointer (some ⟨b, o, none⟩))) (hy : ev env y = some v) (hv : v.cells = us.toArray) (hk : us.length = k) (h1 : ∀ u ∈ us, u.oneCell' = true) (hb : Blk w b cs e) (ho : o + k ≤ cs.length) :
    Makes0 P ⟨dst, .store t x y, ty, pos, aft, g⟩ env w (fun w' => Wrote w b (cs.take o ++ us ++ cs.drop (o + k)) e w') := by
  have key : ∀ (us : List Value) (i : Nat) (w : World) (cs : List Value), (∀ u ∈ us, u.oneCell' = true) → Blk w b cs e → o + i + us.length ≤ cs.length →
      ∃ w', (storeCells ⟨b, o, none⟩ us i).run P w = .ok () w' ∧ Wrote w b (cs.take (o + i) ++ us ++ cs.drop (o + i + us.length)) e w' := by
    intro us
    induction us with
    | nil =>
      intro i w cs _ hb _
      refine ⟨w, by simp [storeCells], rfl, ?_, Keep.refl _ _⟩
      simpa using hb
    | cons u r ih =>
      intro i w cs h1 hb hl
      simp only [List.length_cons] at hl
      have hcell : w.cell? ⟨b, o + i, none⟩ = some cs[o + i] := by
        have := hb.cells (o + i) cs[o + i] (List.getElem?_eq_getElem (by omega))
        simpa using this
      have hst : ∀ m, (Go.store ⟨b, o + i, none⟩ u m).run P w = .ok () (w.setCell ⟨b, o + i, none⟩ u) := by
        intro m
        rw [run_store P w _ u m (h1 u (by simp))]
        simp [hcell, hb.frozen]
      obtain ⟨w', hr, hsz, hB, hK⟩ := ih (i + 1) (w.setCell ⟨b, o + i, none⟩ u) (cs.set (o + i) u) (fun x hx => h1 x (by simp [hx])) (hb.set u) (by simp; omega)
      refine ⟨w', ?_, by rw [hsz]; simp, ?_, (Keep.setCell w b (o + i) u).trans hK (fun _ _ h => h)⟩
      · simp [storeCells, addr_add, hst, hr]
      · have e1 : (cs.set (o + i) u).take (o + (i + 1)) = cs.take (o + i) ++ [u] := by
          rw [show o + (i + 1) = (o + i) + 1 from by omega, List.take_succ_eq_append_getElem (by simp; omega)]
          simp [List.take_set_of_le]
        have e2 : (cs.set (o + i) u).drop (o + (i + 1) + r.length) = cs.drop (o + i + (u :: r).length) := by
          rw [List.drop_set_of_lt (by omega)]
          simp only [List.length_cons, Nat.add_assoc, Nat.add_comm 1]
        rw [e1, e2] at hB
        simpa using hB
  obtain ⟨w', hr, hW⟩ := key us 0 w cs h1 hb (by omega)
  refine ⟨w', ?_, by simpa [hk] using hW⟩
  intro n a ha
  simp [execOp, ha.eval hx, ha.eval hy, Instr.storeAt, Instr.sureAddr, storeVar, hs, hv, hk, hr]

theorem M.buildSlice {t e : TypeId} {len k : Nat} {parts : Array (Nat × Operand)} {z : Value} {cs : List Value} (ps : List (Nat × Value)) (hu : ∀ w, (underlying t).run P w = .ok (.slice e) w) (hs : ∀ w, (sizeOf e).run P w = .ok k w) (hz : ∀ w, (zeroValue e).run P w = .ok z w)
    (hlen : len * k ≠ 0 ∧ len * k ≤ 16777216) (hp : parts.toList.map (fun p => (p.1, ev env p.2)) = ps.map (fun p => (p.1, some p.2))) (hf : Instr.fill (fun i => some (i * k, k)) ((Array.range (len * k)).map (z.cells[· % z.cells.size]!)) ps = some cs.toArray) :
    Makes P ⟨dst, .buildSlice t len parts, ty, pos, aft, g⟩ env w (fun u w' => ∃ b, u = .slice (some ⟨b, 0, none⟩) len len ∧ New w cs e b w') := by
  refine ⟨.slice (some ⟨w.heap.size, 0, none⟩) len len, w.alloc (.cells cs.toArray e), ?_, _, rfl, New.mk w cs e⟩
  intro n a ha
  have e1 : (parts.map fun (i, x) => (i, a.eval x)) = ps.toArray := by
    have key : ∀ (l : List (Nat × Operand)) (ps : List (Nat × Value)), l.map (fun p => (p.1, ev env p.2)) = ps.map (fun p => (p.1, some p.2)) → l.map (fun p => (p.1, a.eval p.2)) = ps := by
      intro l
      induction l with
      | nil => intro ps h; cases ps with
        | nil => rfl
        | cons _ _ => simp at h
      | cons x r ih =>
        intro ps h
        cases ps with
        | nil => simp at h
        | cons y s =>
          simp only [List.map_cons, List.cons.injEq, Prod.mk.injEq] at h
          simp only [List.map_cons, List.cons.injEq]
          refine ⟨?_, ih s h.2⟩
          rw [ha.eval h.1.2, h.1.1]
    apply Array.toList_inj.1
    simpa using key parts.toList ps hp
  have h2 : ¬ (16777216 < len * k) := by omega
  simp [execOp, e1, Instr.buildSlice, hu, hs, hz, hlen.1, h2, hf, newRow]

theorem made1 (z : Value) (n : Nat) (hz : z.cells = #[z]) : madeCells z.cells (n * 1) = (List.replicate n z).toArray := by
  rw [hz]
  apply Array.ext
  · simp [madeCells]
  · intro i h1 h2
    simp [madeCells, Nat.mod_one]

/-- make([]T, n): a block of n zeros. -/
theorem M.make {t e : TypeId} {k by' : Nat} {z : Value} {x y : Operand} {m : Nat} {kl kc : IntKind} {zs : List Value} (hu : P.underlying t = some (.slice e)) (he : (P.info? e).map (fun i => (i.zero, i.size, i.bytes)) = some (some z, k, by')) (hx : ev env x = some (.int kl (m : Int))) (hy : ev env y = some (.int kc (m : Int)))
    (hb : by' * m ≤ 281474976710656) (hm : m ≤ 9223372036854775807) (hz : madeCells z.cells (m * k) = zs.toArray) :
    Makes P ⟨dst, .makeSlice t x y, ty, pos, aft, g⟩ env w (fun u w' => ∃ b, u = .slice (some ⟨b, 0, none⟩) m m ∧ New w zs e b w') := by
  obtain ⟨i, hi, hz0, hz1, hz2⟩ := info_parts he
  refine ⟨.slice (some ⟨w.heap.size, 0, none⟩) m m, w.alloc (.cells zs.toArray e), ?_, _, rfl, New.mk w zs e⟩
  intro n a ha
  have := run_make (P := P) w t e i z hu hi hz0 kl kc (m : Int) (m : Int) (by omega) (by omega) (by rw [hz2]; omega) (by omega)
  rw [hz1] at this
  simp only [Int.toNat_natCast, hz] at this
  simp [execOp, ha.eval hx, ha.eval hy, this]

theorem Cells.add {w : World} {b o : Nat} {cs : List Value} (h : Cells w b o cs) : ∀ q u, cs[q]? = some u → w.cell? ((⟨b, o, none⟩ : Addr).add q) = some u := fun q u hq => by rw [addr_add]; exact h q u hq

/-- append of a whole slice onto one that the call owns. -/
theorem M.append {t e : TypeId} {k by' : Nat} {z : Value} {x y : Operand} {v : Value} {m : Nat} {xs : List Value} {a0 : Addr} {j c : Nat} {news : List Value} (hu : P.underlying t = some (.slice e)) (he : (P.info? e).map (fun i => (i.zero, i.size, i.bytes)) = some (some z, k, by')) (hzs : z.cells.size = k) (hk : 0 < k)
    (hx : ev env x = some v) (hy : ev env y = some (.slice (some a0) j c)) (hown : w.ownsRow 0 e k v m xs) (hl : news.length = j * k) (hnews : ∀ q u, news[q]? = some u → w.cell? (a0.add q) = some u) (h1 : ∀ u ∈ news, u.oneCell' = true) (hmax : m + j ≤ 9223372036854775807) (hby : (m + j) * by' ≤ 140737488355328) :
    Makes P ⟨dst, .call ⟨.builtin .append, #[x, y], #[t, t]⟩, ty, pos, aft, g⟩ env w (fun u w' => w'.ownsRow 0 e k u (m + j) (xs ++ news) ∧ (u.ownBlock = v.ownBlock ∨ ∃ g, u.ownBlock = some g ∧ w.heap.size ≤ g) ∧ Keep (fun k => v.ownBlock = some k) w w' ∧ (u = .slice none 0 0 ↔ v = .slice none 0 0 ∧ j = 0)) := by
  obtain ⟨i, hi, hz0, hz1, hz2⟩ := info_parts he
  subst hz1
  subst hz2
  have hlen : (xs ++ news).length = (m + j) * i.size := by rw [List.length_append, hown.1, hl, Nat.add_mul]
  have hmx : m + j ≤ maxLen := by simpa [maxLen] using hmax
  suffices H : ∃ v' w', (Builtin.append_ #[t, t] ty #[v, .slice (some a0) j c]).run P w = .ok v' w' ∧ (w'.ownsRow 0 e i.size v' (m + j) (xs ++ news) ∧ (v'.ownBlock = v.ownBlock ∨ ∃ g, v'.ownBlock = some g ∧ w.heap.size ≤ g) ∧ Keep (fun k => v.ownBlock = some k) w w' ∧ (v' = .slice none 0 0 ↔ v = .slice none 0 0 ∧ j = 0)) by
    obtain ⟨v', w', hr, h⟩ := H
    refine ⟨v', w', ?_, h⟩
    intro n a ha
    simp [execOp, resolve, invoke, builtin, ha.eval hx, ha.eval hy, hr]
  have grown : ∀ (old : Nat), old < m + j →
      (w.drew.alloc (.cells (xs.toArray ++ news.toArray ++ Builtin.zeroCells z.cells (grownCap w (m + j) old e - (m + j))) e)).ownsRow 0 e i.size
        (.slice (some ⟨w.heap.size, 0, none⟩) (m + j) (grownCap w (m + j) old e)) (m + j) (xs ++ news) := by
    intro old ho
    have hge := grownCap_ge w (m + j) old e
    have hcm : grownCap w (m + j) old e ≤ maxLen := grownCap_le_maxLen w (m + j) old e hmx
    refine ⟨hlen, .inr ⟨w.heap.size, _, _, rfl, Nat.zero_le _, heap_alloc_new w.drew _, hge, hcm, ?_, ?_⟩⟩
    · simp only [Array.size_append, List.size_toArray, size_zeroCells, hzs, hown.1, hl, ← Nat.add_mul]
      congr 1
      omega
    · simp only [Array.toList_append, List.append_assoc]
      rw [← List.append_assoc, ← hlen]
      exact List.take_left
  have kp : ∀ (o1 : Obj) (S : Nat → Prop), Keep S w (w.drew.alloc o1) := fun o1 S => ((Keep.refl S w).ext (Keep.drew w)).ext (Keep.alloc _ _)
  rcases hown.2 with ⟨rfl, rfl⟩ | ⟨g0, cap, cur, rfl, hbg, hg0, hnc, hcm, hcs, htake⟩
  · have hxs : xs = [] := List.eq_nil_of_length_eq_zero (by simpa using hown.1)
    subst hxs
    by_cases hj : j = 0
    · subst hj
      have hn : news = [] := List.eq_nil_of_length_eq_zero (by simpa using hl)
      subst hn
      refine ⟨.slice none 0 0, w, ?_, World.ownsRow_nil w 0 e i.size, .inl rfl, Keep.refl _ _, by simp⟩
      simp [Builtin.append_, run_underlying hu, sizeOf, typeInfo, hi, Builtin.lenOf, Builtin.firstCells, loadCells, loadCellsFrom]
    · have hr := run_append_nil (P := P) w t ty e i z hu hi hz0 a0 j c news hl hnews (by omega) (by omega) (by have hb := hby; simp only [Nat.zero_add] at hb; omega)
      have hgr := grown 0 (by omega)
      simp only [Nat.zero_add, List.nil_append, Array.empty_append] at hgr ⊢
      exact ⟨_, _, hr, hgr, .inr ⟨_, rfl, Nat.le_refl _⟩, kp _ _, by simp [hj]⟩
  · by_cases hroom : m + j ≤ cap
    · have hfit : m * i.size + news.length ≤ cur.size := by rw [hl, hcs, ← Nat.add_mul]; exact Nat.mul_le_mul_right _ hroom
      have hr := run_append_room (P := P) w t ty e i hu hi g0 m cap cur hg0 a0 j c news hl hnews h1 hroom hfit
      refine ⟨_, _, hr, ⟨hlen, .inr ⟨g0, cap, _, rfl, hbg, setRow_heap w g0 cur _ e _ hg0, hroom, hcm, ?_, ?_⟩⟩, .inl rfl, ⟨rfl, rfl, rfl, Nat.le_refl _, by simp, fun k _ hk => setRow_other w g0 k _ (fun e => hk (by simp [Value.ownBlock, e]))⟩, by simp⟩
      · simp only [List.size_toArray, List.length_append, List.length_take, List.length_drop, Array.length_toList]
        omega
      · rw [htake, ← hlen]
        exact List.take_left
    · have holds : ∀ q u, xs[q]? = some u → w.cell? ((⟨g0, 0, none⟩ : Addr).add q) = some u := hown.cells (g := g0) rfl
      have hr := run_append_grow (P := P) w t ty e i z hu hi hz0 ⟨g0, 0, none⟩ m cap xs hown.1 holds a0 j c news hl hnews (by omega) (by omega) (growslice_fits (by omega) hby)
      exact ⟨_, _, hr, grown cap (by omega), .inr ⟨_, rfl, Nat.le_refl _⟩, kp _ _, by simp⟩
end
end Go.GL
