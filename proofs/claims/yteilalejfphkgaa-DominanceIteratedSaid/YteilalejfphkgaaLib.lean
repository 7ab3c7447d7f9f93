/-
  A small layer over the walk's calculus: environments as association lists, one lemma an operation, opaque worlds.
  It speaks of no program. Nothing here is a claim.
-/
import Derived.WalkKit
import Derived.Deep.Quiet
import Derived.Deep.LoopGhost
namespace Go.GL

/-! ### environments -/

abbrev Env := List (Nat × Value)

def get : Env → Nat → Option Value
  | [], _ => none
  | (k, v) :: r, j => cond (Nat.beq k j) (some v) (get r j)

def ev (env : Env) : Operand → Option Value
  | .tmp t => get env t
  | .const v => some v
  | .global g => some (.pointer (some ⟨g, 0, none⟩))
  | .func f => some (.func (.func f) #[] #[])

structure Ok (n : Nat) (env : Env) (a : Act) : Prop where
  size : a.tmps.size = n
  defs : a.defers = []
  get : ∀ k v, get env k = some v → a.tmps[k]? = some v

theorem Ok.eval {n : Nat} {env : Env} {a : Act} (h : Ok n env a) {x : Operand} {v : Value} (hx : ev env x = some v) : a.eval x = v := by
  cases x with
  | tmp t =>
    have := h.get t v hx
    simp [Act.eval, Array.getD_eq_getD_getElem?, this]
  | const u => simpa [ev, Act.eval] using hx
  | «global» g => simpa [ev, Act.eval] using hx
  | func f => simpa [ev, Act.eval] using hx

theorem Ok.put {n : Nat} {env : Env} {a : Act} (h : Ok n env a) {d : Nat} {v : Value} (hd : Nat.blt d n = true) : Ok n ((d, v) :: env) (a.put (some d) v) := by
  have hd' : d < n := by simpa [Nat.blt_eq] using hd
  refine ⟨by simp [Act.put, h.size], by simp [Act.put, h.defs], ?_⟩
  intro k u hu
  simp only [GL.get] at hu
  cases hb : Nat.beq d k with
  | true =>
    rw [hb] at hu
    simp at hu
    have : d = k := Nat.eq_of_beq_eq_true hb
    subst this
    subst hu
    simp [Act.put, h.size, hd']
  | false =>
    rw [hb] at hu
    simp at hu
    have hne : d ≠ k := Nat.ne_of_beq_eq_false hb
    simp only [Act.put]
    rw [Array.getElem?_setIfInBounds_ne hne]
    exact h.get k u hu

theorem Ok.put0 {n : Nat} {env : Env} {a : Act} (h : Ok n env a) {v : Value} : Ok n env (a.put none v) := h

/-- env' says no more than env. -/
def Sub (env' env : Env) : Prop := ∀ k v, get env' k = some v → get env k = some v
theorem Sub.nil {env : Env} : Sub [] env := fun _ _ h => by simp [get] at h
theorem Sub.cons {env' env : Env} {d : Nat} {v : Value} (h : get env d = some v) (hs : Sub env' env) : Sub ((d, v) :: env') env := by
  intro k u hu
  simp only [GL.get] at hu
  cases hb : Nat.beq d k with
  | true =>
    rw [hb] at hu
    simp at hu
    have : d = k := Nat.eq_of_beq_eq_true hb
    subst this; subst hu; exact h
  | false =>
    rw [hb] at hu
    simp at hu
    exact hs k u hu
theorem Ok.sub {n : Nat} {env env' : Env} {a : Act} (h : Ok n env a) (hs : Sub env' env) : Ok n env' a := ⟨h.size, h.defs, fun k v hk => h.get k v (hs k v hk)⟩

/-! ### judgements -/

section
variable (P : Program) (n : Nat)

def WO (ops : Array Oper) (Q : Exit → Act → World → Prop) (l : List Oper) (env : Env) (w : World) : Prop := ∀ a, Ok n env a → wpList P ops Q l a w
def WC (c : Code) (Q : Exit → Act → World → Prop) (env : Env) (w : World) : Prop := ∀ a, Ok n env a → c.wp P Q a w
def WX (e : Exit) (Q : Exit → Act → World → Prop) (env : Env) (w : World) : Prop := ∀ a, Ok n env a → Q e a w
/-- A call returns so. -/
abbrev Ret (R : Value → World → Prop) : Ending → World → Prop := fun e w' => ∃ v, e = .returned v ∧ R v w'
/-- An operation runs so, whatever the frame beyond env. -/
def Runs (o : Oper) (env : Env) (w : World) (v : Value) (w' : World) : Prop := ∀ n a, Ok n env a → (execOp a.eval o).run P w = .ok (.value v) w'
def Runs0 (o : Oper) (env : Env) (w : World) (w' : World) : Prop := ∀ n a, Ok n env a → (execOp a.eval o).run P w = .ok .skip w'
/-- An operation enters a function. -/
def RunsF (o : Oper) (env : Env) (w : World) (f : FuncId) (args : Array Value) : Prop := ∀ n a, Ok n env a → (execOp a.eval o).run P w = .ok (.enter f args) w
end

section
variable {P : Program} {n : Nat} {ops : Array Oper} {Q : Exit → Act → World → Prop} {o : Oper} {rest : List Oper} {env : Env} {w w' : World} {v : Value}

theorem WO.op {d : Nat} (hg : o.guard = none) (hd : o.dst = some d) (hn : Nat.blt d n = true) (hr : Runs P o env w v w') (h : WO P n ops Q rest ((d, v) :: env) w') : WO P n ops Q (o :: rest) env w := by
  intro a ha
  refine wpList_plain hg fun K hK => ?_
  unfold Oper.wp
  rw [hr n a ha, Oper.upon_value, hd]
  exact hK _ _ (h _ (ha.put hn))

theorem WO.op0 (hg : o.guard = none) (hd : o.dst = none) (hr : Runs0 P o env w w') (h : WO P n ops Q rest env w') : WO P n ops Q (o :: rest) env w := by
  intro a ha
  refine wpList_plain hg fun K hK => ?_
  unfold Oper.wp
  rw [hr n a ha, Oper.upon_skip, hd]
  exact hK _ _ (h _ ha.put0)

theorem WO.call {d : Nat} {f : FuncId} {args : Array Value} {R : Value → World → Prop} (hg : o.guard = none) (hd : o.dst = some d) (hn : Nat.blt d n = true) (hr : RunsF P o env w f args)
    (hc : Calls P f args w (fun e w' => ∃ v, e = .returned v ∧ R v w')) (h : ∀ v w', R v w' → WO P n ops Q rest ((d, v) :: env) w') : WO P n ops Q (o :: rest) env w := by
  intro a ha
  refine wpList_plain hg fun K hK => ?_
  unfold Oper.wp
  rw [hr n a ha, Oper.upon_enter]
  refine hc.mono ?_
  rintro e w'' ⟨v, rfl, hR⟩
  simp only [hd]
  exact hK _ _ (h v w'' hR _ (ha.put hn))

theorem WO.call0 {f : FuncId} {args : Array Value} {R : World → Prop} (hg : o.guard = none) (hd : o.dst = none) (hr : RunsF P o env w f args)
    (hc : Calls P f args w (fun e w' => ∃ v, e = .returned v ∧ R w')) (h : ∀ w', R w' → WO P n ops Q rest env w') : WO P n ops Q (o :: rest) env w := by
  intro a ha
  refine wpList_plain hg fun K hK => ?_
  unfold Oper.wp
  rw [hr n a ha, Oper.upon_enter]
  refine hc.mono ?_
  rintro e w'' ⟨v, rfl, hR⟩
  simp only [hd]
  exact hK _ _ (h w'' hR _ ha.put0)

/-- A guard that says yes. -/
theorem WO.yes {j dj : Nat} {b c : Bool} {dst : Option Tmp} {op : Op} {ty : TypeId} {pos : String} {aft : Array Edge} (hj : (ops[j]?).bind (·.dst) = some dj) (hget : get env dj = some (.bool c)) (hc : c = b)
    (h : WO P n ops Q (⟨dst, op, ty, pos, aft, none⟩ :: rest) env w) : WO P n ops Q (⟨dst, op, ty, pos, aft, some (j, b)⟩ :: rest) env w := by
  intro a ha
  have h1 := h a ha
  have hy : yielded ops a.tmps j = some c := by
    have := ha.get dj _ hget
    simp [yielded, hj, this]
  unfold wpList at h1 ⊢
  have e1 : Region.wanted ⟨dst, op, ty, pos, aft, none⟩ (yielded ops a.tmps) = true := rfl
  have e2 : Region.wanted ⟨dst, op, ty, pos, aft, some (j, b)⟩ (yielded ops a.tmps) = true := by simp [Region.wanted, hy, hc]
  rw [if_pos e1] at h1
  rw [if_pos e2]
  exact h1

/-- A guard that says no. -/
theorem WO.no {j dj d : Nat} {b c : Bool} {op : Op} {ty : TypeId} {pos : String} {aft : Array Edge} (hj : (ops[j]?).bind (·.dst) = some dj) (hget : get env dj = some (.bool c)) (hc : c = !b) (hn : Nat.blt d n = true)
    (h : WO P n ops Q rest ((d, undef) :: env) w) : WO P n ops Q (⟨some d, op, ty, pos, aft, some (j, b)⟩ :: rest) env w := by
  intro a ha
  have hy : yielded ops a.tmps j = some c := by
    have := ha.get dj _ hget
    simp [yielded, hj, this]
  unfold wpList
  have e2 : Region.wanted ⟨some d, op, ty, pos, aft, some (j, b)⟩ (yielded ops a.tmps) = false := by simp [Region.wanted, hy, hc]
  rw [if_neg (by rw [e2]; simp)]
  exact h _ (ha.put hn)

/-- .. because what it looks at was itself passed over. -/
theorem WO.noU {j dj d : Nat} {b : Bool} {op : Op} {ty : TypeId} {pos : String} {aft : Array Edge} (hj : (ops[j]?).bind (·.dst) = some dj) (hget : get env dj = some undef) (hn : Nat.blt d n = true)
    (h : WO P n ops Q rest ((d, undef) :: env) w) : WO P n ops Q (⟨some d, op, ty, pos, aft, some (j, b)⟩ :: rest) env w := by
  intro a ha
  have hy : yielded ops a.tmps j = none := by
    have := ha.get dj _ hget
    simp [yielded, hj, this, undef]
  unfold wpList
  have e2 : Region.wanted ⟨some d, op, ty, pos, aft, some (j, b)⟩ (yielded ops a.tmps) = false := by simp [Region.wanted, hy]
  rw [if_neg (by rw [e2]; simp)]
  exact h _ (ha.put hn)

theorem WO.nil (h : WX n .normal Q env w) : WO P n ops Q [] env w := fun a ha => wpList_nil (h a ha)

theorem WO.sub {env' : Env} {l : List Oper} (hs : Sub env' env) (h : WO P n ops Q l env' w) : WO P n ops Q l env w := fun a ha => h a (ha.sub hs)
theorem WC.sub {env' : Env} {c : Code} (hs : Sub env' env) (h : WC P n c Q env' w) : WC P n c Q env w := fun a ha => h a (ha.sub hs)
theorem WX.sub {env' : Env} {e : Exit} (hs : Sub env' env) (h : WX n e Q env' w) : WX n e Q env w := fun a ha => h a (ha.sub hs)

/-! ### structure -/

theorem WC.seq {x y : Code} (h : WC P n x (Exit.then (fun a w => y.wp P Q a w) Q) env w) : WC P n (x.seq y) Q env w := fun a ha => wp_seq (h a ha)
theorem WC.region {id : Nat} {l : List Oper} (h : WO P n l.toArray Q l env w) : WC P n (.region id l.toArray false) Q env w := fun a ha => wp_region_lit (h a ha)
theorem WC.block {id : Nat} {c : Code} (h : WC P n c (Exit.inBlock id Q) env w) : WC P n (.block id c) Q env w := fun a ha => wp_block (h a ha)
theorem WC.skip (h : WX n .normal Q env w) : WC P n .skip Q env w := fun a ha => wp_skip (h a ha)
theorem WC.exit {id : Nat} (h : WX n (.exit id) Q env w) : WC P n (.exit id) Q env w := fun a ha => wp_exit (h a ha)
theorem WC.ret (h : WX n .ret Q env w) : WC P n .ret Q env w := fun a ha => wp_ret (h a ha)
theorem WC.bool {c : Operand} {x y : Code} {b : Bool} (hc : ev env c = some (.bool b)) (h1 : b = true → WC P n x Q env w) (h2 : b = false → WC P n y Q env w) : WC P n (.cond c x y) Q env w :=
  fun a ha => wp_cond_split (ha.eval hc) (fun h => h1 h a ha) (fun h => h2 h a ha)
theorem WC.ite {c : Operand} {x y : Code} {p : Prop} [Decidable p] (hc : ev env c = some (.bool (decide p))) (h1 : p → WC P n x Q env w) (h2 : ¬ p → WC P n y Q env w) : WC P n (.cond c x y) Q env w :=
  WC.bool hc (fun h => h1 (of_decide_eq_true h)) (fun h => h2 (of_decide_eq_false h))
theorem WC.tt {c : Operand} {x y : Code} {b : Bool} (hc : ev env c = some (.bool b)) (hb : b = true) (h1 : WC P n x Q env w) : WC P n (.cond c x y) Q env w :=
  WC.bool hc (fun _ => h1) (fun h => by rw [hb] at h; cases h)
theorem WC.ff {c : Operand} {x y : Code} {b : Bool} (hc : ev env c = some (.bool b)) (hb : b = false) (h1 : WC P n y Q env w) : WC P n (.cond c x y) Q env w :=
  WC.bool hc (fun h => by rw [hb] at h; cases h) (fun _ => h1)

theorem WX.next {c : Code} {Q' : Exit → Act → World → Prop} (h : WC P n c Q env w) : WX n .normal (Exit.then (fun a w => c.wp P Q a w) Q') env w := h
theorem WX.thenE {id : Nat} {K : Act → World → Prop} (h : WX n (.exit id) Q env w) : WX n (.exit id) (Exit.then K Q) env w := h
theorem WX.thenR {K : Act → World → Prop} (h : WX n .ret Q env w) : WX n .ret (Exit.then K Q) env w := h
theorem WX.blockN {id : Nat} (h : WX n .normal Q env w) : WX n .normal (Exit.inBlock id Q) env w := h
theorem WX.blockR {id : Nat} (h : WX n .ret Q env w) : WX n .ret (Exit.inBlock id Q) env w := h
theorem WX.hit {id : Nat} (h : WX n .normal Q env w) : WX n (.exit id) (Exit.inBlock id Q) env w := by
  intro a ha; simp only [Exit.inBlock, if_true]; exact h a ha
theorem WX.miss {id id' : Nat} (hne : Nat.beq id' id = false) (h : WX n (.exit id') Q env w) : WX n (.exit id') (Exit.inBlock id Q) env w := by
  intro a ha; simp only [Exit.inBlock, if_neg (Nat.ne_of_beq_eq_false hne)]; exact h a ha

/-- What a round hands back. -/
def Back {σ : Type} (n : Nat) (env' : σ → Env) (I : σ → World → Prop) (μ : σ → Nat) (m : Nat) (a : Act) (w : World) : Prop := ∃ s, Ok n (env' s) a ∧ I s w ∧ μ s < m

/-- A loop: ghost state s, the slots that matter, what holds, what goes down. -/
theorem WC.loop {σ : Type} (env' : σ → Env) (I : σ → World → Prop) (μ : σ → Nat) {c : Code} (s₀ : σ) (h₀ : Sub (env' s₀) env) (hI : I s₀ w)
    (h : ∀ s w', I s w' → WC P n c (Exit.then (Back n env' I μ (μ s)) Q) (env' s) w') : WC P n (.loop c) Q env w := by
  intro a ha
  refine wp_loop_ghost (fun m a w => ∃ s, μ s = m ∧ Ok n (env' s) a ∧ I s w) (μ s₀) ⟨s₀, rfl, ha.sub h₀, hI⟩ ?_
  rintro m a w ⟨s, rfl, hok, hIs⟩
  refine Code.wp_mono ?_ (h s w hIs a hok)
  intro e a' w' hq
  cases e <;> first | exact hq | skip
  obtain ⟨s', h1, h2, h3⟩ := hq
  exact ⟨μ s', h3, s', rfl, h1, h2⟩

theorem WX.back {σ : Type} {env' : σ → Env} {I : σ → World → Prop} {μ : σ → Nat} {m : Nat} (s : σ) (h0 : Sub (env' s) env) (hI : I s w) (hm : μ s < m) : WX n .normal (Exit.then (Back n env' I μ m) Q) env w :=
  fun _ ha => ⟨s, ha.sub h0, hI, hm⟩

/-- Ways meet again: s says what holds behind c. -/
def Meet {σ : Type} (n : Nat) (env' : σ → Env) (I : σ → World → Prop) (a : Act) (w : World) : Prop := ∃ s, Ok n (env' s) a ∧ I s w

theorem WC.cut {σ : Type} (env' : σ → Env) (I : σ → World → Prop) {c : Code} (h : WC P n c (Exit.then (Meet n env' I) Q) env w) (hk : ∀ s w', I s w' → WX n .normal Q (env' s) w') : WC P n c Q env w := by
  intro a ha
  refine Code.wp_mono ?_ (h a ha)
  intro e a' w' hq
  cases e <;> first | exact hq | skip
  obtain ⟨s, h1, h2⟩ := hq
  exact hk s w' h2 a' h1

theorem WX.meet {σ : Type} {env' : σ → Env} {I : σ → World → Prop} (s : σ) (h0 : Sub (env' s) env) (hI : I s w) : WX n .normal (Exit.then (Meet n env' I) Q) env w := fun _ ha => ⟨s, ha.sub h0, hI⟩

/-- The same amid a region: what is left of it goes on from there. -/
theorem WO.cases {p : Prop} {l : List Oper} (h1 : p → WO P n ops Q l env w) (h2 : ¬ p → WO P n ops Q l env w) : WO P n ops Q l env w := by
  by_cases h : p
  · exact h1 h
  · exact h2 h
end

/-! ### entering and leaving a function -/

theorem calls {P : Program} {f : FuncId} {fn : Func} {c : Code} {args : Array Value} {w : World} {R : Ending → World → Prop} (hf : P.funcs[f]? = some fn) (hb : fn.body = some c) (env : Env) (n : Nat) (hn : args.size ≤ n ∧ fn.ntmps = n)
    (henv : ∀ k v, get env k = some v → args[k]? = some v) (h : WC P n c (bodyPost P fn R) env w) : Calls P f args w R := by
  refine calls_of_wp hf hb (h _ ⟨?_, rfl, ?_⟩)
  · simp [hn.2]; omega
  · intro k v hk
    have h1 := henv k v hk
    have hlt : k < args.size := by
      rcases Nat.lt_or_ge k args.size with h' | h'
      · exact h'
      · rw [Array.getElem?_eq_none h'] at h1; cases h1
    simp [Array.getElem?_append, hlt]
    simpa [hlt] using h1

theorem argsOk0 : ∀ k v, get [] k = some v → (#[] : Array Value)[k]? = some v := fun k v h => by simp [get] at h
theorem argsOk {vs : List Value} {env : Env} (h : Sub env ((List.range vs.length).zip vs)) : ∀ k v, get env k = some v → vs.toArray[k]? = some v := by
  intro k v hk
  have h1 := h k v hk
  have key : ∀ (vs : List Value) (s : Nat), get ((List.range' s vs.length).zip vs) k = some v → s ≤ k ∧ vs[k - s]? = some v := by
    intro vs
    induction vs with
    | nil => intro s h; simp [get] at h
    | cons x r ih =>
      intro s h
      simp only [List.length_cons, List.range'_succ, List.zip_cons_cons, get] at h
      cases hb : Nat.beq s k with
      | true =>
        have : s = k := Nat.eq_of_beq_eq_true hb
        subst this
        rw [hb] at h
        simp at h
        simp [h]
      | false =>
        rw [hb] at h
        simp at h
        obtain ⟨h2, h3⟩ := ih (s + 1) h
        refine ⟨by omega, ?_⟩
        have e : k - s = (k - (s + 1)) + 1 := by omega
        rw [e]
        simpa using h3
  rw [List.range_eq_range'] at h1
  simpa using (key vs 0 h1).2

section
variable {P : Program} {fn : Func} {R : Ending → World → Prop} {n : Nat} {env : Env} {w : World}

theorem WX.ret1 {t : Tmp} {v : Value} (h : fn.results = #[.tmp t]) (hv : get env t = some v) (hR : R (.returned v) w) : WX n .ret (bodyPost P fn R) env w := by
  intro a ha
  refine bodyPost_ret (results_tmp h _ _ _) ha.defs ?_
  have := ha.get t v hv
  simpa [Array.getD_eq_getD_getElem?, this] using hR
theorem WX.ret2 {t u : Tmp} {v x : Value} (h : fn.results = #[.tmp t, .tmp u]) (hv : get env t = some v) (hx : get env u = some x) (hR : R (.returned (.tuple #[v, x])) w) : WX n .ret (bodyPost P fn R) env w := by
  intro a ha
  refine bodyPost_ret (results_tmp2 h _ _ _) ha.defs ?_
  have h1 := ha.get t v hv
  have h2 := ha.get u x hx
  simpa [Array.getD_eq_getD_getElem?, h1, h2] using hR
theorem WX.ret3 {t u s : Tmp} {v x y : Value} (h : fn.results = #[.tmp t, .tmp u, .tmp s]) (hv : get env t = some v) (hx : get env u = some x) (hy : get env s = some y) (hR : R (.returned (.tuple #[v, x, y])) w) : WX n .ret (bodyPost P fn R) env w := by
  intro a ha
  refine bodyPost_ret (results_tmp3 h _ _ _) ha.defs ?_
  have h1 := ha.get t v hv
  have h2 := ha.get u x hx
  have h3 := ha.get s y hy
  simpa [Array.getD_eq_getD_getElem?, h1, h2, h3] using hR
theorem WX.retC {p : Tmp} {ty : TypeId} {a0 : Addr} {v : Value} (h : fn.results = #[.cell p ty]) (hp : get env p = some (.pointer (some a0))) (hl : (loadVar ty a0).run P w = .ok v w) (hR : R (.returned v) w) : WX n .ret (bodyPost P fn R) env w := by
  intro a ha
  have := ha.get p _ hp
  refine bodyPost_ret (v := v) ?_ ha.defs hR
  simp [results, h, Array.getD_eq_getD_getElem?, this, asAddr, hl]
theorem WX.retCT {p t : Tmp} {ty : TypeId} {a0 : Addr} {v x : Value} (h : fn.results = #[.cell p ty, .tmp t]) (hp : get env p = some (.pointer (some a0))) (hl : (loadVar ty a0).run P w = .ok v w) (hx : get env t = some x) (hR : R (.returned (.tuple #[v, x])) w) : WX n .ret (bodyPost P fn R) env w := by
  intro a ha
  have h1 := ha.get p _ hp
  have h2 := ha.get t _ hx
  refine bodyPost_ret (v := .tuple #[v, x]) ?_ ha.defs hR
  simp [results, h, Array.getD_eq_getD_getElem?, h1, h2, asAddr, hl]
theorem WX.end0 (h : fn.results = #[]) (hR : R (.returned (.tuple #[])) w) : WX n .normal (bodyPost P fn R) env w := by
  intro a ha
  exact bodyPost_end (results_none h _ _ _) ha.defs hR
theorem WX.ret0 (h : fn.results = #[]) (hR : R (.returned (.tuple #[])) w) : WX n .ret (bodyPost P fn R) env w := by
  intro a ha
  exact bodyPost_ret (results_none h _ _ _) ha.defs hR
end

end Go.GL
