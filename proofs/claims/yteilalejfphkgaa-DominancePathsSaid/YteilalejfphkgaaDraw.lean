/-
  Regions that draw their order. (1) those whose operations only read, or call what leaves all that was there: one walk in the order of the text. (2) others: one operation at a time.
-/
import Derived.Test.YteilalejfphkgaaMem
import Derived.OrdersHeld
import Derived.KernelRfl
namespace Go.GL

section
variable {P : Program} {n : Nat} {ops : Array Oper} {Q : Exit → Act → World → Prop} {o : Oper} {rest : List Oper} {env : Env} {w : World} {v : Value}

/-- The lexical walk of a region whose operations are quiet from w on. -/
def WQ (P : Program) (n : Nat) (ops : Array Oper) (Q : Exit → Act → World → Prop) (w : World) (l : List Oper) (env : Env) : Prop :=
  ∀ a, Ok n env a → wpQuiet P ops (Ext w) (fun a' => ∀ w', Ext w w' → Q .normal a' w') l a

theorem WC.quiet {id : Nat} {l : List Oper} (hm : P.follows .mixedOrders = true) (hB : Region.lexB .any l.toArray = true) (h : WQ P n l.toArray Q w l env) : WC P n (.region id l.toArray true) Q env w :=
  fun a ha => wp_region_quiet (C := Ext w) hm hB (Keep.drew w) (by simpa using h a ha)

theorem WQ.op {d : Nat} (hg : o.guard = none) (hd : o.dst = some d) (hn : Nat.blt d n = true) (hr : ∀ w', Ext w w' → Runs P o env w' v w') (h : WQ P n ops Q w rest ((d, v) :: env)) : WQ P n ops Q w (o :: rest) env := by
  intro a ha
  unfold wpQuiet
  rw [if_pos (by simp [Region.wanted, hg])]
  refine ⟨v, ?_, by rw [hd]; exact h _ (ha.put hn)⟩
  intro w' hw'
  unfold Oper.quietAt
  rw [hr w' hw' n a ha]
  exact ⟨rfl, rfl⟩

/-- A call that hands back one value whatever world it finds. -/
theorem WQ.call {d : Nat} {f : FuncId} {args : Array Value} (hg : o.guard = none) (hd : o.dst = some d) (hn : Nat.blt d n = true) (hr : ∀ w', RunsF P o env w' f args)
    (hc : ∀ w', Ext w w' → Calls P f args w' (fun e w'' => e = .returned v ∧ Ext w' w'')) (h : WQ P n ops Q w rest ((d, v) :: env)) : WQ P n ops Q w (o :: rest) env := by
  intro a ha
  unfold wpQuiet
  rw [if_pos (by simp [Region.wanted, hg])]
  refine ⟨v, ?_, by rw [hd]; exact h _ (ha.put hn)⟩
  intro w' hw'
  unfold Oper.quietAt
  rw [hr w' n a ha]
  exact ⟨rfl, (hc w' hw').mono fun e w'' ⟨he, hk⟩ => ⟨he, hw'.ext hk⟩⟩

theorem WQ.yes {j dj : Nat} {b c : Bool} {dst : Option Tmp} {op : Op} {ty : TypeId} {pos : String} {aft : Array Edge} (hj : (ops[j]?).bind (·.dst) = some dj) (hget : get env dj = some (.bool c)) (hc : c = b)
    (h : WQ P n ops Q w (⟨dst, op, ty, pos, aft, none⟩ :: rest) env) : WQ P n ops Q w (⟨dst, op, ty, pos, aft, some (j, b)⟩ :: rest) env := by
  intro a ha
  have h1 := h a ha
  have hy : yielded ops a.tmps j = some c := by
    have := ha.get dj _ hget
    simp [yielded, hj, this]
  unfold wpQuiet at h1 ⊢
  have e1 : Region.wanted ⟨dst, op, ty, pos, aft, none⟩ (yielded ops a.tmps) = true := rfl
  have e2 : Region.wanted ⟨dst, op, ty, pos, aft, some (j, b)⟩ (yielded ops a.tmps) = true := by simp [Region.wanted, hy, hc]
  rw [if_pos e1] at h1
  rw [if_pos e2]
  exact h1

theorem WQ.no {j dj d : Nat} {b c : Bool} {op : Op} {ty : TypeId} {pos : String} {aft : Array Edge} (hj : (ops[j]?).bind (·.dst) = some dj) (hget : get env dj = some (.bool c)) (hc : c = !b) (hn : Nat.blt d n = true)
    (h : WQ P n ops Q w rest ((d, undef) :: env)) : WQ P n ops Q w (⟨some d, op, ty, pos, aft, some (j, b)⟩ :: rest) env := by
  intro a ha
  have hy : yielded ops a.tmps j = some c := by
    have := ha.get dj _ hget
    simp [yielded, hj, this]
  unfold wpQuiet
  have e2 : Region.wanted ⟨some d, op, ty, pos, aft, some (j, b)⟩ (yielded ops a.tmps) = false := by simp [Region.wanted, hy, hc]
  rw [if_neg (by rw [e2]; simp)]
  exact h _ (ha.put hn)

theorem WQ.noU {j dj d : Nat} {b : Bool} {op : Op} {ty : TypeId} {pos : String} {aft : Array Edge} (hj : (ops[j]?).bind (·.dst) = some dj) (hget : get env dj = some undef) (hn : Nat.blt d n = true)
    (h : WQ P n ops Q w rest ((d, undef) :: env)) : WQ P n ops Q w (⟨some d, op, ty, pos, aft, some (j, b)⟩ :: rest) env := by
  intro a ha
  have hy : yielded ops a.tmps j = none := by
    have := ha.get dj _ hget
    simp [yielded, hj, this, undef]
  unfold wpQuiet
  have e2 : Region.wanted ⟨some d, op, ty, pos, aft, some (j, b)⟩ (yielded ops a.tmps) = false := by simp [Region.wanted, hy]
  rw [if_neg (by rw [e2]; simp)]
  exact h _ (ha.put hn)

theorem WQ.nil (h : ∀ w', Ext w w' → WX n .normal Q env w') : WQ P n ops Q w [] env := fun a ha w' hw' => h w' hw' a ha
theorem WQ.cases {p : Prop} {l : List Oper} (h1 : p → WQ P n ops Q w l env) (h2 : ¬ p → WQ P n ops Q w l env) : WQ P n ops Q w l env := by
  by_cases h : p
  · exact h1 h
  · exact h2 h
theorem WQ.sub {env' : Env} {l : List Oper} (hs : Sub env' env) (h : WQ P n ops Q w l env') : WQ P n ops Q w l env := fun a ha => h a (ha.sub hs)
end

/-! ### one operation at a time -/

def NQ (Q : Exit → Act → World → Prop) : Exit → Act → World → Prop
  | .normal, a, w => Q .normal a w
  | _, _, _ => False

/-- Whatever order is picked from here on; every operation but those of L keeps S. -/
def wpAnyC (P : Program) (md : Region.Mode) (ops : Array Oper) (Q : Exit → Act → World → Prop) (S : World → Prop) (L : List Nat) : Nat → Array Bool → Act → World → Prop
  | 0, listed, a, w => Region.ready md ops listed = [] ∧ Q .normal a w
  | fuel + 1, listed, a, w =>
    (Region.ready md ops listed = [] → Q .normal a w) ∧
    ∀ i ∈ Region.ready md ops listed, wpOp P ops Q i (fun a' w' => (i ∉ L → S w → S w') ∧ wpAnyC P md ops Q S L fuel (listed.setIfInBounds i true) a' w') a w

/-- Operation j waits for operation i, by an edge of its own. -/
def waitsFor (md : Region.Mode) (ops : Array Oper) (i j : Nat) : Bool := match ops[j]? with
  | none => true
  | some o => o.after.any fun e => Region.binds md e && e.on == i

section
variable {P : Program} {n : Nat} {ops : Array Oper} {Q : Exit → Act → World → Prop} {md : Region.Mode} {S : World → Prop} {L : List Nat}

theorem wpAny_of_c : ∀ (fuel : Nat) (listed : Array Bool) (a : Act) (w : World), wpAnyC P md ops Q S L fuel listed a w → wpAny P md ops Q fuel listed a w
  | 0, _, _, _, h => h
  | fuel + 1, _, _, _, h => ⟨h.1, fun i hi => wpOp_mono (fun a' w' h' => wpAny_of_c fuel _ a' w' h'.2) (h.2 i hi)⟩

theorem wpAnyC_first {i : Nat} {oi : Oper} {v : Value} (hi : ops[i]? = some oi) (hsel : ∀ (j : Nat) (o : Oper) cs b, ops[j]? = some o → o.op ≠ .select cs b)
    (hQ : ∀ c a w, Q (.panic c) (a.put oi.dst v) w → Q (.panic c) a w) (hL : ∀ j ∈ L, waitsFor md ops i j = true) (hiL : i ∉ L) :
    ∀ (fuel : Nat) (listed : Array Bool) (a : Act) (w : World),
      (∀ j oj, ops[j]? = some oj → j ≠ i → listed.getD j true = false → (∀ e ∈ oj.after, Region.binds md e = true → e.on ≠ i) → oi.apart ops oj = true) →
      i ∈ Region.ready md ops listed → YieldsIf P ops S oi v a → S w →
      wpAnyC P md ops Q S L fuel (listed.setIfInBounds i true) (a.put oi.dst v) w → wpAnyC P md ops Q S L (fuel + 1) listed a w := by
  intro fuel
  induction fuel with
  | zero =>
    intro listed a w _ hr hy hS H
    refine ⟨fun h => (by rw [h] at hr; cases hr), fun j hj => ?_⟩
    by_cases hji : j = i
    · subst hji; exact hy.wpOp hi hS ⟨fun _ _ => hS, H⟩
    · have := ready_mono hj hji
      rw [H.1] at this
      cases this
  | succ fuel ih =>
    intro listed a w hfree hr hy hS H
    refine ⟨fun h => (by rw [h] at hr; cases hr), fun j hj => ?_⟩
    by_cases hji : j = i
    · subst hji; exact hy.wpOp hi hS ⟨fun _ _ => hS, H⟩
    · have h1 := H.2 j (ready_mono hj hji)
      obtain ⟨hjun, oj, hoj, hall⟩ := mem_ready.1 hj
      have hnot : ∀ e ∈ oj.after, Region.binds md e = true → e.on ≠ i := by
        intro e he hb heq
        have h2 := hall e he hb
        have h0 := (mem_ready.1 hr).1
        rw [heq] at h2
        rcases Nat.lt_or_ge i listed.size with h' | h'
        · simp [h'] at h0 h2; rw [h0] at h2; cases h2
        · simp [Array.getElem?_eq_none h'] at h2
      have hjL : j ∉ L := by
        intro hjL
        have := hL j hjL
        unfold waitsFor at this
        rw [hoj] at this
        obtain ⟨e, he, hb⟩ := Array.any_eq_true'.1 this
        simp only [Bool.and_eq_true, beq_iff_eq] at hb
        exact hnot e he hb.1 hb.2
      have h2 := wpOp_putIf hoj (hfree j oj hoj hji hjun hnot) (fun cs b => hsel i oi cs b hi) (fun cs b => hsel j oj cs b hoj) hQ hy h1
      have hfree' : ∀ k ok, ops[k]? = some ok → k ≠ i → (listed.setIfInBounds j true).getD k true = false →
          (∀ e ∈ ok.after, Region.binds md e = true → e.on ≠ i) → oi.apart ops ok = true := by
        intro k ok hk hki hun hno
        refine hfree k ok hk hki ?_ hno
        by_cases hjk : j = k
        · subst hjk; exact hjun
        · rw [getD_set_ne true hjk] at hun; exact hun
      refine wpOp_mono (fun a' w' h3 => ⟨h3.2.1, ih (listed.setIfInBounds j true) a' w' hfree' (ready_mono hr (Ne.symm hji)) h3.1 (h3.2.1 hjL hS) ?_⟩) h2
      rw [Array.setIfInBounds_comm _ _ hji]
      exact h3.2.2
theorem wpAnyC_firstW {i : Nat} {oi : Oper} {v : Value} (hi : ops[i]? = some oi) (hsel : ∀ (j : Nat) (o : Oper) cs b, ops[j]? = some o → o.op ≠ .select cs b)
    (hQ : ∀ c a w, Q (.panic c) (a.put oi.dst v) w → Q (.panic c) a w) :
    ∀ (fuel : Nat) (listed : Array Bool) (a : Act) (w : World),
      (∀ j oj, ops[j]? = some oj → j ≠ i → listed.getD j true = false → (∀ e ∈ oj.after, Region.binds md e = true → e.on ≠ i) → oi.apart ops oj = true) →
      i ∈ Region.ready md ops listed → YieldsIf P ops (fun _ => True) oi v a →
      wpAnyC P md ops Q S L fuel (listed.setIfInBounds i true) (a.put oi.dst v) w → wpAnyC P md ops Q S L (fuel + 1) listed a w := by
  intro fuel
  induction fuel with
  | zero =>
    intro listed a w _ hr hy H
    refine ⟨fun h => (by rw [h] at hr; cases hr), fun j hj => ?_⟩
    by_cases hji : j = i
    · subst hji; exact hy.wpOp hi trivial ⟨fun _ h => h, H⟩
    · have := ready_mono hj hji
      rw [H.1] at this
      cases this
  | succ fuel ih =>
    intro listed a w hfree hr hy H
    refine ⟨fun h => (by rw [h] at hr; cases hr), fun j hj => ?_⟩
    by_cases hji : j = i
    · subst hji; exact hy.wpOp hi trivial ⟨fun _ h => h, H⟩
    · have h1 := H.2 j (ready_mono hj hji)
      obtain ⟨hjun, oj, hoj, hall⟩ := mem_ready.1 hj
      have hnot : ∀ e ∈ oj.after, Region.binds md e = true → e.on ≠ i := by
        intro e he hb heq
        have h2 := hall e he hb
        have h0 := (mem_ready.1 hr).1
        rw [heq] at h2
        rcases Nat.lt_or_ge i listed.size with h' | h'
        · simp [h'] at h0 h2; rw [h0] at h2; cases h2
        · simp [Array.getElem?_eq_none h'] at h2
      have h2 := wpOp_putIf hoj (hfree j oj hoj hji hjun hnot) (fun cs b => hsel i oi cs b hi) (fun cs b => hsel j oj cs b hoj) hQ hy h1
      have hfree' : ∀ k ok, ops[k]? = some ok → k ≠ i → (listed.setIfInBounds j true).getD k true = false →
          (∀ e ∈ ok.after, Region.binds md e = true → e.on ≠ i) → oi.apart ops ok = true := by
        intro k ok hk hki hun hno
        refine hfree k ok hk hki ?_ hno
        by_cases hjk : j = k
        · subst hjk; exact hjun
        · rw [getD_set_ne true hjk] at hun; exact hun
      refine wpOp_mono (fun a' w' h3 => ⟨h3.2.1, ih (listed.setIfInBounds j true) a' w' hfree' (ready_mono hr (Ne.symm hji)) h3.1 ?_⟩) h2
      rw [Array.setIfInBounds_comm _ _ hji]
      exact h3.2.2
end

/-- The judgement: slots by env, 'listed': what has come up. -/
def WD (P : Program) (n : Nat) (ops : Array Oper) (Q : Exit → Act → World → Prop) (S : World → Prop) (L : List Nat) (fuel : Nat) (listed : Array Bool) (env : Env) (w : World) : Prop :=
  ∀ a, Ok n env a → wpAnyC P .any ops (NQ Q) S L fuel listed a w

section
variable {P : Program} {n : Nat} {ops : Array Oper} {Q : Exit → Act → World → Prop} {S : World → Prop} {L : List Nat} {env : Env} {w : World} {fuel : Nat} {listed : Array Bool} {v : Value} {o : Oper}

theorem WC.draw {id : Nat} {l : List Oper} (S : World → Prop) (L : List Nat) (hm : P.follows .mixedOrders = true) (h : ∀ w', Ext w w' → w'.heap = w.heap → WD P n l.toArray Q S L l.length (Array.replicate l.length false) env w') : WC P n (.region id l.toArray true) Q env w := by
  intro a ha
  refine Code.wp_mono ?_ (wp_region_any (id := id) (Q := NQ Q) (ops := l.toArray) hm (wpAny_of_c (S := S) (L := L) _ _ _ _ ?_))
  · intro e a w hq
    cases e <;> first | exact hq | exact hq.elim
  · have := h w.drew (Keep.drew w) rfl a ha
    simpa using this

theorem WD.done (hr : Region.ready .any ops listed = []) (h : WX n .normal Q env w) : ∀ fuel, WD P n ops Q S L fuel listed env w
  | 0 => fun a ha => ⟨hr, h a ha⟩
  | _ + 1 => fun a ha => ⟨fun _ => h a ha, by rw [hr]; simp⟩

/-- A quiet operation that may come up now is taken first. -/
theorem WD.take (i : Nat) {d : Nat} (hi : ops[i]? = some o) (hs : (Region.noSelect ops && Region.free .any ops listed i && (Region.ready .any ops listed).contains i && L.all (waitsFor .any ops i) && !L.contains i) = true)
    (hg : o.guard = none) (hd : o.dst = some d) (hn : Nat.blt d n = true) (hS : S w) (hr : ∀ w', S w' → Runs P o env w' v w') (h : WD P n ops Q S L fuel (listed.setIfInBounds i true) ((d, v) :: env) w) : WD P n ops Q S L (fuel + 1) listed env w := by
  intro a ha
  simp only [Bool.and_eq_true, Bool.not_eq_true'] at hs
  obtain ⟨⟨⟨⟨h1, h2⟩, h3⟩, h4⟩, h5⟩ := hs
  refine wpAnyC_first hi (Region.noSelect_spec h1) (fun _ _ _ h => h) (by simpa using h4) (by simpa using h5) fuel listed a w (Region.free_spec hi h2) (by simpa using h3) (v := v) ?_ hS ?_
  · exact .inl ⟨by simp [Region.wanted, hg], fun w' hw' => hr w' hw' n a ha⟩
  · rw [hd]; exact h _ (ha.put hn)

/-- .. one that does not look at memory. -/
theorem WD.takeW (i : Nat) {d : Nat} (hi : ops[i]? = some o) (hs : (Region.noSelect ops && Region.free .any ops listed i && (Region.ready .any ops listed).contains i) = true)
    (hg : o.guard = none) (hd : o.dst = some d) (hn : Nat.blt d n = true) (hr : ∀ w', Runs P o env w' v w') (h : WD P n ops Q S L fuel (listed.setIfInBounds i true) ((d, v) :: env) w) : WD P n ops Q S L (fuel + 1) listed env w := by
  intro a ha
  simp only [Bool.and_eq_true] at hs
  obtain ⟨⟨h1, h2⟩, h3⟩ := hs
  refine wpAnyC_firstW hi (Region.noSelect_spec h1) (fun _ _ _ h => h) fuel listed a w (Region.free_spec hi h2) (by simpa using h3) (v := v) ?_ ?_
  · exact .inl ⟨by simp [Region.wanted, hg], fun w' _ => hr w' n a ha⟩
  · rw [hd]; exact h _ (ha.put hn)

theorem mk_wpOp {i : Nat} {K : Act → World → Prop} {Q : Exit → Act → World → Prop} {a : Act} (hi : ops[i]? = some o) (hg : o.guard = none) (h : o.wp P a w K Q) : wpOp P ops Q i K a w := by
  unfold wpOp
  simp only [hi]
  rw [if_pos (by simp [Region.wanted, hg])]
  exact .inl h

/-- The one operation that may come up now: it makes or writes memory. -/
theorem WD.mem (i : Nat) {d : Nat} {R : Value → World → Prop} (hi : ops[i]? = some o) (hr : Region.ready .any ops listed = [i]) (hg : o.guard = none) (hd : o.dst = some d) (hn : Nat.blt d n = true)
    (hm : Makes P o env w R) (h : ∀ v w', R v w' → (i ∉ L → S w') ∧ WD P n ops Q S L fuel (listed.setIfInBounds i true) ((d, v) :: env) w') : WD P n ops Q S L (fuel + 1) listed env w := by
  intro a ha
  refine ⟨fun h0 => (by rw [hr] at h0; cases h0), fun j hj => ?_⟩
  rw [hr] at hj
  have : j = i := by simpa using hj
  subst this
  obtain ⟨v, w', hrun, hR⟩ := hm
  refine mk_wpOp hi hg ?_
  unfold Oper.wp
  rw [hrun n a ha, Oper.upon_value, hd]
  exact ⟨fun h0 _ => (h v w' hR).1 h0, (h v w' hR).2 _ (ha.put hn)⟩

theorem WD.mem0 (i : Nat) {R : World → Prop} (hi : ops[i]? = some o) (hr : Region.ready .any ops listed = [i]) (hg : o.guard = none) (hd : o.dst = none)
    (hm : Makes0 P o env w R) (h : ∀ w', R w' → (i ∉ L → S w') ∧ WD P n ops Q S L fuel (listed.setIfInBounds i true) env w') : WD P n ops Q S L (fuel + 1) listed env w := by
  intro a ha
  refine ⟨fun h0 => (by rw [hr] at h0; cases h0), fun j hj => ?_⟩
  rw [hr] at hj
  have : j = i := by simpa using hj
  subst this
  obtain ⟨w', hrun, hR⟩ := hm
  refine mk_wpOp hi hg ?_
  unfold Oper.wp
  rw [hrun n a ha, Oper.upon_skip, hd]
  exact ⟨fun h0 _ => (h w' hR).1 h0, (h w' hR).2 _ ha.put0⟩

/-- The one operation that may come up now: plain. -/
theorem WD.op (i : Nat) {d : Nat} (hi : ops[i]? = some o) (hr : Region.ready .any ops listed = [i]) (hg : o.guard = none) (hd : o.dst = some d) (hn : Nat.blt d n = true)
    (hm : Runs P o env w v w) (hS : S w) (h : WD P n ops Q S L fuel (listed.setIfInBounds i true) ((d, v) :: env) w) : WD P n ops Q S L (fuel + 1) listed env w :=
  WD.mem (R := fun u w' => u = v ∧ w' = w) i hi hr hg hd hn ⟨v, w, hm, rfl, rfl⟩ (by rintro u w' ⟨rfl, rfl⟩; exact ⟨fun _ => hS, h⟩)

theorem WD.opL (i : Nat) {d : Nat} (hi : ops[i]? = some o) (hr : Region.ready .any ops listed = [i]) (hg : o.guard = none) (hd : o.dst = some d) (hn : Nat.blt d n = true)
    (hm : Runs P o env w v w) (hL : i ∈ L) (h : WD P n ops Q S L fuel (listed.setIfInBounds i true) ((d, v) :: env) w) : WD P n ops Q S L (fuel + 1) listed env w :=
  WD.mem (R := fun u w' => u = v ∧ w' = w) i hi hr hg hd hn ⟨v, w, hm, rfl, rfl⟩ (by rintro u w' ⟨rfl, rfl⟩; exact ⟨fun h0 => absurd hL h0, h⟩)

theorem WD.call (i : Nat) {d : Nat} {f : FuncId} {args : Array Value} {R : Value → World → Prop} (hi : ops[i]? = some o) (hr : Region.ready .any ops listed = [i]) (hg : o.guard = none) (hd : o.dst = some d) (hn : Nat.blt d n = true)
    (hm : RunsF P o env w f args) (hc : Calls P f args w (fun e w' => ∃ v, e = .returned v ∧ R v w')) (h : ∀ v w', R v w' → (i ∉ L → S w') ∧ WD P n ops Q S L fuel (listed.setIfInBounds i true) ((d, v) :: env) w') : WD P n ops Q S L (fuel + 1) listed env w := by
  intro a ha
  refine ⟨fun h0 => (by rw [hr] at h0; cases h0), fun j hj => ?_⟩
  rw [hr] at hj
  have : j = i := by simpa using hj
  subst this
  refine mk_wpOp hi hg ?_
  unfold Oper.wp
  rw [hm n a ha, Oper.upon_enter]
  refine hc.mono ?_
  rintro e w' ⟨v, rfl, hR⟩
  simp only [hd]
  exact ⟨fun h0 _ => (h v w' hR).1 h0, (h v w' hR).2 _ (ha.put hn)⟩

/-- Two operations may come up now: either one. Each way is walked with that operation alone among the ready (the lemmas above, at a list of two). -/
theorem WD.mem2 (i j : Nat) {oj : Oper} {d dj : Nat} {R Rj : Value → World → Prop} (hi : ops[i]? = some o) (hj : ops[j]? = some oj) (hr : Region.ready .any ops listed = [i, j]) (hg : o.guard = none) (hd : o.dst = some d) (hn : Nat.blt d n = true) (hgj : oj.guard = none) (hdj : oj.dst = some dj) (hnj : Nat.blt dj n = true)
    (hm : (∃ v w', Runs P o env w v w' ∧ R v w') ∨ ∃ f args, RunsF P o env w f args ∧ Calls P f args w (fun e w' => ∃ v, e = .returned v ∧ R v w'))
    (hmj : (∃ v w', Runs P oj env w v w' ∧ Rj v w') ∨ ∃ f args, RunsF P oj env w f args ∧ Calls P f args w (fun e w' => ∃ v, e = .returned v ∧ Rj v w'))
    (h : ∀ v w', R v w' → (i ∉ L → S w') ∧ WD P n ops Q S L fuel (listed.setIfInBounds i true) ((d, v) :: env) w')
    (h' : ∀ v w', Rj v w' → (j ∉ L → S w') ∧ WD P n ops Q S L fuel (listed.setIfInBounds j true) ((dj, v) :: env) w') : WD P n ops Q S L (fuel + 1) listed env w := by
  intro a ha
  refine ⟨fun h0 => (by rw [hr] at h0; cases h0), fun k hk => ?_⟩
  rw [hr] at hk
  have key : ∀ (q : Nat) (oq : Oper) (dq : Nat) (Rq : Value → World → Prop), ops[q]? = some oq → oq.guard = none → oq.dst = some dq → Nat.blt dq n = true →
      ((∃ v w', Runs P oq env w v w' ∧ Rq v w') ∨ ∃ f args, RunsF P oq env w f args ∧ Calls P f args w (fun e w' => ∃ v, e = .returned v ∧ Rq v w')) →
      (∀ v w', Rq v w' → (q ∉ L → S w') ∧ WD P n ops Q S L fuel (listed.setIfInBounds q true) ((dq, v) :: env) w') →
      wpOp P ops (NQ Q) q (fun a' w' => (q ∉ L → S w → S w') ∧ wpAnyC P .any ops (NQ Q) S L fuel (listed.setIfInBounds q true) a' w') a w := by
    intro q oq dq Rq h1 h2 h3 h4 h5 h6
    refine mk_wpOp h1 h2 ?_
    unfold Oper.wp
    rcases h5 with ⟨v, w', hrun, hR⟩ | ⟨f, args, hm, hc⟩
    · rw [hrun n a ha, Oper.upon_value, h3]
      exact ⟨fun h0 _ => (h6 v w' hR).1 h0, (h6 v w' hR).2 _ (ha.put h4)⟩
    · rw [hm n a ha, Oper.upon_enter]
      refine hc.mono ?_
      rintro e w' ⟨v, rfl, hR⟩
      simp only [h3]
      exact ⟨fun h0 _ => (h6 v w' hR).1 h0, (h6 v w' hR).2 _ (ha.put h4)⟩
  simp only [List.mem_cons, List.not_mem_nil, or_false] at hk
  rcases hk with rfl | rfl
  · exact key k o d R hi hg hd hn hm h
  · exact key k oj dj Rj hj hgj hdj hnj hmj h'
end
end Go.GL
