/-
  Contracts and the mathematics that the proof needs. Nothing here is a claim.
-/
import Derived.WalkKit
import Derived.Deep.Quiet
import Derived.Deep.LoopGhost
import Derived.Below
import Derived.OrdersHeld
import Derived.KernelRfl
import Derived.WalkSpells
import Derived.ChangeKeysEq
import Derived.Lib.SliceRun
import Derived.Test.YtldhllpogdikdaaGreatRows
import Derived.ProofKit
import Derived.OpenShut
import Derived.ReadAgain
import Derived.ChangeBears
import Derived.Laws.Strings
import Derived.Test.YtldhllpogdikdaaGreatProg
import Derived.Maps.RangeRun
import Derived.MapKept
import Derived.Shelf.Sort.Plain
import Derived.Ground.Names2Prog
import Derived.Shelf.Slices.In.SortNone
namespace Go.GL
abbrev Env := List (Nat × Value)
def get : Env → Nat → Option Value
 | [], _ => none
 | (k, v) :: r, j => cond (Nat.beq k j) (some v) (get r j)
def ev (env : Env) : Operand → Option Value
 | .tmp t => get env t
 | .const v => some v
 | .global g => some (.pointer (some ⟨g, 0, none⟩))
 | .func f => some (.func (.func f) #[] #[])
structure Ok (n : Nat) (env : Env) (a : Act) : Prop where
 size : a.tmps.size = n
 defs : a.defers = []
 get : ∀ k v, get env k = some v → a.tmps[k]? = some v
theorem Ok.eval {n : Nat} {env : Env} {a : Act} (h : Ok n env a) {x : Operand} {v : Value} (hx : ev env x = some v) : a.eval x = v := by
 cases x with
 | tmp t =>
  have := h.get t v hx
  simp [Act.eval, Array.getD_eq_getD_getElem?, this]
 | const u => simpa [ev, Act.eval] using hx
 | «global» g => simpa [ev, Act.eval] using hx
 | func f => simpa [ev, Act.eval] using hx
theorem Ok.put {n : Nat} {env : Env} {a : Act} (h : Ok n env a) {d : Nat} {v : Value} (hd : Nat.blt d n = true) : Ok n ((d, v) :: env) (a.put (some d) v) := by
 have hd' : d < n := by simpa [Nat.blt_eq] using hd
 refine ⟨by simp [Act.put, h.size], by simp [Act.put, h.defs], ?_⟩
 intro k u hu
 simp only [GL.get] at hu
 cases hb : Nat.beq d k with
 | true =>
  rw [hb] at hu
  simp at hu
  have : d = k := Nat.eq_of_beq_eq_true hb
  subst this
  subst hu
  simp [Act.put, h.size, hd']
 | false =>
  rw [hb] at hu
  simp at hu
  have hne : d ≠ k := Nat.ne_of_beq_eq_false hb
  simp only [Act.put]
  rw [Array.getElem?_setIfInBounds_ne hne]
  exact h.get k u hu
theorem Ok.put0 {n : Nat} {env : Env} {a : Act} (h : Ok n env a) {v : Value} : Ok n env (a.put none v) := h
def Sub (env' env : Env) : Prop := ∀ k v, get env' k = some v → get env k = some v
theorem Sub.nil {env : Env} : Sub [] env := fun _ _ h => by simp [get] at h
theorem Sub.cons {env' env : Env} {d : Nat} {v : Value} (h : get env d = some v) (hs : Sub env' env) : Sub ((d, v) :: env') env := by
 intro k u hu
 simp only [GL.get] at hu
 cases hb : Nat.beq d k with
 | true =>
  rw [hb] at hu
  simp at hu
  have : d = k := Nat.eq_of_beq_eq_true hb
  subst this; subst hu; exact h
 | false =>
  rw [hb] at hu
  simp at hu
  exact hs k u hu
theorem Ok.sub {n : Nat} {env env' : Env} {a : Act} (h : Ok n env a) (hs : Sub env' env) : Ok n env' a := ⟨h.size, h.defs, fun k v hk => h.get k v (hs k v hk)⟩
section
variable (P : Program) (n : Nat)
def WO (ops : Array Oper) (Q : Exit → Act → World → Prop) (l : List Oper) (env : Env) (w : World) : Prop := ∀ a, Ok n env a → wpList P ops Q l a w
def WC (c : Code) (Q : Exit → Act → World → Prop) (env : Env) (w : World) : Prop := ∀ a, Ok n env a → c.wp P Q a w
def WX (e : Exit) (Q : Exit → Act → World → Prop) (env : Env) (w : World) : Prop := ∀ a, Ok n env a → Q e a w
abbrev Ret (R : Value → World → Prop) : Ending → World → Prop := fun e w' => ∃ v, e = .returned v ∧ R v w'
def Runs (o : Oper) (env : Env) (w : World) (v : Value) (w' : World) : Prop := ∀ n a, Ok n env a → (execOp a.eval o).run P w = .ok (.value v) w'
def Runs0 (o : Oper) (env : Env) (w : World) (w' : World) : Prop := ∀ n a, Ok n env a → (execOp a.eval o).run P w = .ok .skip w'
def RunsF (o : Oper) (env : Env) (w : World) (f : FuncId) (args : Array Value) : Prop := ∀ n a, Ok n env a → (execOp a.eval o).run P w = .ok (.enter f args) w
end
section
variable {P : Program} {n : Nat} {ops : Array Oper} {Q : Exit → Act → World → Prop} {o : Oper} {rest : List Oper} {env : Env} {w w' : World} {v : Value}
theorem WO.op {d : Nat} (hg : o.guard = none) (hd : o.dst = some d) (hn : Nat.blt d n = true) (hr : Runs P o env w v w') (h : WO P n ops Q rest ((d, v) :: env) w') : WO P n ops Q (o :: rest) env w := by
 intro a ha
 refine wpList_plain hg fun K hK => ?_
 unfold Oper.wp
 rw [hr n a ha, Oper.upon_value, hd]
 exact hK _ _ (h _ (ha.put hn))
theorem WO.op0 (hg : o.guard = none) (hd : o.dst = none) (hr : Runs0 P o env w w') (h : WO P n ops Q rest env w') : WO P n ops Q (o :: rest) env w := by
 intro a ha
 refine wpList_plain hg fun K hK => ?_
 unfold Oper.wp
 rw [hr n a ha, Oper.upon_skip, hd]
 exact hK _ _ (h _ ha.put0)
theorem WO.call {d : Nat} {f : FuncId} {args : Array Value} {R : Value → World → Prop} (hg : o.guard = none) (hd : o.dst = some d) (hn : Nat.blt d n = true) (hr : RunsF P o env w f args)
  (hc : Calls P f args w (fun e w' => ∃ v, e = .returned v ∧ R v w')) (h : ∀ v w', R v w' → WO P n ops Q rest ((d, v) :: env) w') : WO P n ops Q (o :: rest) env w := by
 intro a ha
 refine wpList_plain hg fun K hK => ?_
 unfold Oper.wp
 rw [hr n a ha, Oper.upon_enter]
 refine hc.mono ?_
 rintro e w'' ⟨v, rfl, hR⟩
 simp only [hd]
 exact hK _ _ (h v w'' hR _ (ha.put hn))
theorem WO.yes {j dj : Nat} {b c : Bool} {dst : Option Tmp} {op : Op} {ty : TypeId} {pos : String} {aft : Array Edge} (hj : (ops[j]?).bind (·.dst) = some dj) (hget : get env dj = some (.bool c)) (hc : c = b)
  (h : WO P n ops Q (⟨dst, op, ty, pos, aft, none⟩ :: rest) env w) : WO P n ops Q (⟨dst, op, ty, pos, aft, some (j, b)⟩ :: rest) env w := by
 intro a ha
 have h1 := h a ha
 have hy : yielded ops a.tmps j = some c := by
  have := ha.get dj _ hget
  simp [yielded, hj, this]
 unfold wpList at h1 ⊢
 have e1 : Region.wanted ⟨dst, op, ty, pos, aft, none⟩ (yielded ops a.tmps) = true := rfl
 have e2 : Region.wanted ⟨dst, op, ty, pos, aft, some (j, b)⟩ (yielded ops a.tmps) = true := by simp [Region.wanted, hy, hc]
 rw [if_pos e1] at h1
 rw [if_pos e2]
 exact h1
theorem WO.no {j dj d : Nat} {b c : Bool} {op : Op} {ty : TypeId} {pos : String} {aft : Array Edge} (hj : (ops[j]?).bind (·.dst) = some dj) (hget : get env dj = some (.bool c)) (hc : c = !b) (hn : Nat.blt d n = true)
  (h : WO P n ops Q rest ((d, undef) :: env) w) : WO P n ops Q (⟨some d, op, ty, pos, aft, some (j, b)⟩ :: rest) env w := by
 intro a ha
 have hy : yielded ops a.tmps j = some c := by
  have := ha.get dj _ hget
  simp [yielded, hj, this]
 unfold wpList
 have e2 : Region.wanted ⟨some d, op, ty, pos, aft, some (j, b)⟩ (yielded ops a.tmps) = false := by simp [Region.wanted, hy, hc]
 rw [if_neg (by rw [e2]; simp)]
 exact h _ (ha.put hn)
theorem WO.noU {j dj d : Nat} {b : Bool} {op : Op} {ty : TypeId} {pos : String} {aft : Array Edge} (hj : (ops[j]?).bind (·.dst) = some dj) (hget : get env dj = some undef) (hn : Nat.blt d n = true)
  (h : WO P n ops Q rest ((d, undef) :: env) w) : WO P n ops Q (⟨some d, op, ty, pos, aft, some (j, b)⟩ :: rest) env w := by
 intro a ha
 have hy : yielded ops a.tmps j = none := by
  have := ha.get dj _ hget
  simp [yielded, hj, this, undef]
 unfold wpList
 have e2 : Region.wanted ⟨some d, op, ty, pos, aft, some (j, b)⟩ (yielded ops a.tmps) = false := by simp [Region.wanted, hy]
 rw [if_neg (by rw [e2]; simp)]
 exact h _ (ha.put hn)
theorem WO.nil (h : WX n .normal Q env w) : WO P n ops Q [] env w := fun a ha => wpList_nil (h a ha)
theorem WO.sub {env' : Env} {l : List Oper} (hs : Sub env' env) (h : WO P n ops Q l env' w) : WO P n ops Q l env w := fun a ha => h a (ha.sub hs)
theorem WC.sub {env' : Env} {c : Code} (hs : Sub env' env) (h : WC P n c Q env' w) : WC P n c Q env w := fun a ha => h a (ha.sub hs)
theorem WX.sub {env' : Env} {e : Exit} (hs : Sub env' env) (h : WX n e Q env' w) : WX n e Q env w := fun a ha => h a (ha.sub hs)
theorem WC.seq {x y : Code} (h : WC P n x (Exit.then (fun a w => y.wp P Q a w) Q) env w) : WC P n (x.seq y) Q env w := fun a ha => wp_seq (h a ha)
theorem WC.region {id : Nat} {l : List Oper} (h : WO P n l.toArray Q l env w) : WC P n (.region id l.toArray false) Q env w := fun a ha => wp_region_lit (h a ha)
theorem WC.block {id : Nat} {c : Code} (h : WC P n c (Exit.inBlock id Q) env w) : WC P n (.block id c) Q env w := fun a ha => wp_block (h a ha)
theorem WC.skip (h : WX n .normal Q env w) : WC P n .skip Q env w := fun a ha => wp_skip (h a ha)
theorem WC.exit {id : Nat} (h : WX n (.exit id) Q env w) : WC P n (.exit id) Q env w := fun a ha => wp_exit (h a ha)
theorem WC.ret (h : WX n .ret Q env w) : WC P n .ret Q env w := fun a ha => wp_ret (h a ha)
theorem WC.bool {c : Operand} {x y : Code} {b : Bool} (hc : ev env c = some (.bool b)) (h1 : b = true → WC P n x Q env w) (h2 : b = false → WC P n y Q env w) : WC P n (.cond c x y) Q env w :=
 fun a ha => wp_cond_split (ha.eval hc) (fun h => h1 h a ha) (fun h => h2 h a ha)
theorem WC.ite {c : Operand} {x y : Code} {p : Prop} [Decidable p] (hc : ev env c = some (.bool (decide p))) (h1 : p → WC P n x Q env w) (h2 : ¬ p → WC P n y Q env w) : WC P n (.cond c x y) Q env w :=
 WC.bool hc (fun h => h1 (of_decide_eq_true h)) (fun h => h2 (of_decide_eq_false h))
theorem WC.tt {c : Operand} {x y : Code} {b : Bool} (hc : ev env c = some (.bool b)) (hb : b = true) (h1 : WC P n x Q env w) : WC P n (.cond c x y) Q env w :=
 WC.bool hc (fun _ => h1) (fun h => by rw [hb] at h; cases h)
theorem WC.ff {c : Operand} {x y : Code} {b : Bool} (hc : ev env c = some (.bool b)) (hb : b = false) (h1 : WC P n y Q env w) : WC P n (.cond c x y) Q env w :=
 WC.bool hc (fun h => by rw [hb] at h; cases h) (fun _ => h1)
theorem WX.next {c : Code} {Q' : Exit → Act → World → Prop} (h : WC P n c Q env w) : WX n .normal (Exit.then (fun a w => c.wp P Q a w) Q') env w := h
theorem WX.thenE {id : Nat} {K : Act → World → Prop} (h : WX n (.exit id) Q env w) : WX n (.exit id) (Exit.then K Q) env w := h
theorem WX.thenR {K : Act → World → Prop} (h : WX n .ret Q env w) : WX n .ret (Exit.then K Q) env w := h
theorem WX.blockN {id : Nat} (h : WX n .normal Q env w) : WX n .normal (Exit.inBlock id Q) env w := h
theorem WX.blockR {id : Nat} (h : WX n .ret Q env w) : WX n .ret (Exit.inBlock id Q) env w := h
theorem WX.hit {id : Nat} (h : WX n .normal Q env w) : WX n (.exit id) (Exit.inBlock id Q) env w := by
 intro a ha; simp only [Exit.inBlock, if_true]; exact h a ha
def Back {σ : Type} (n : Nat) (env' : σ → Env) (I : σ → World → Prop) (μ : σ → Nat) (m : Nat) (a : Act) (w : World) : Prop := ∃ s, Ok n (env' s) a ∧ I s w ∧ μ s < m
theorem WC.loop {σ : Type} (env' : σ → Env) (I : σ → World → Prop) (μ : σ → Nat) {c : Code} (s₀ : σ) (h₀ : Sub (env' s₀) env) (hI : I s₀ w)
  (h : ∀ s w', I s w' → WC P n c (Exit.then (Back n env' I μ (μ s)) Q) (env' s) w') : WC P n (.loop c) Q env w := by
 intro a ha
 refine wp_loop_ghost (fun m a w => ∃ s, μ s = m ∧ Ok n (env' s) a ∧ I s w) (μ s₀) ⟨s₀, rfl, ha.sub h₀, hI⟩ ?_
 rintro m a w ⟨s, rfl, hok, hIs⟩
 refine Code.wp_mono ?_ (h s w hIs a hok)
 intro e a' w' hq
 cases e <;> first | exact hq | skip
 obtain ⟨s', h1, h2, h3⟩ := hq
 exact ⟨μ s', h3, s', rfl, h1, h2⟩
theorem WX.back {σ : Type} {env' : σ → Env} {I : σ → World → Prop} {μ : σ → Nat} {m : Nat} (s : σ) (h0 : Sub (env' s) env) (hI : I s w) (hm : μ s < m) : WX n .normal (Exit.then (Back n env' I μ m) Q) env w :=
 fun _ ha => ⟨s, ha.sub h0, hI, hm⟩
def Meet {σ : Type} (n : Nat) (env' : σ → Env) (I : σ → World → Prop) (a : Act) (w : World) : Prop := ∃ s, Ok n (env' s) a ∧ I s w
theorem WC.cut {σ : Type} (env' : σ → Env) (I : σ → World → Prop) {c : Code} (h : WC P n c (Exit.then (Meet n env' I) Q) env w) (hk : ∀ s w', I s w' → WX n .normal Q (env' s) w') : WC P n c Q env w := by
 intro a ha
 refine Code.wp_mono ?_ (h a ha)
 intro e a' w' hq
 cases e <;> first | exact hq | skip
 obtain ⟨s, h1, h2⟩ := hq
 exact hk s w' h2 a' h1
theorem WX.meet {σ : Type} {env' : σ → Env} {I : σ → World → Prop} (s : σ) (h0 : Sub (env' s) env) (hI : I s w) : WX n .normal (Exit.then (Meet n env' I) Q) env w := fun _ ha => ⟨s, ha.sub h0, hI⟩
theorem WO.cases {p : Prop} {l : List Oper} (h1 : p → WO P n ops Q l env w) (h2 : ¬ p → WO P n ops Q l env w) : WO P n ops Q l env w := by
 by_cases h : p
 · exact h1 h
 · exact h2 h
end
theorem calls {P : Program} {f : FuncId} {fn : Func} {c : Code} {args : Array Value} {w : World} {R : Ending → World → Prop} (hf : P.funcs[f]? = some fn) (hb : fn.body = some c) (env : Env) (n : Nat) (hn : args.size ≤ n ∧ fn.ntmps = n)
  (henv : ∀ k v, get env k = some v → args[k]? = some v) (h : WC P n c (bodyPost P fn R) env w) : Calls P f args w R := by
 refine calls_of_wp hf hb (h _ ⟨?_, rfl, ?_⟩)
 · simp [hn.2]; omega
 ·
  intro k v hk
  have h1 := henv k v hk
  have hlt : k < args.size := by
   rcases Nat.lt_or_ge k args.size with h' | h'
   · exact h'
   · rw [Array.getElem?_eq_none h'] at h1; cases h1
  simp [Array.getElem?_append, hlt]
  simpa [hlt] using h1
theorem argsOk0 : ∀ k v, get [] k = some v → (#[] : Array Value)[k]? = some v := fun k v h => by simp [get] at h
theorem argsOk {vs : List Value} {env : Env} (h : Sub env ((List.range vs.length).zip vs)) : ∀ k v, get env k = some v → vs.toArray[k]? = some v := by
 intro k v hk
 have h1 := h k v hk
 have key : ∀ (vs : List Value) (s : Nat), get ((List.range' s vs.length).zip vs) k = some v → s ≤ k ∧ vs[k - s]? = some v := by
  intro vs
  induction vs with
  | nil => intro s h; simp [get] at h
  | cons x r ih =>
   intro s h
   simp only [List.length_cons, List.range'_succ, List.zip_cons_cons, get] at h
   cases hb : Nat.beq s k with
   | true =>
    have : s = k := Nat.eq_of_beq_eq_true hb
    subst this
    rw [hb] at h
    simp at h
    simp [h]
   | false =>
    rw [hb] at h
    simp at h
    obtain ⟨h2, h3⟩ := ih (s + 1) h
    refine ⟨by omega, ?_⟩
    have e : k - s = (k - (s + 1)) + 1 := by omega
    rw [e]
    simpa using h3
 rw [List.range_eq_range'] at h1
 simpa using (key vs 0 h1).2
section
variable {P : Program} {fn : Func} {R : Ending → World → Prop} {n : Nat} {env : Env} {w : World}
theorem WX.ret1 {t : Tmp} {v : Value} (h : fn.results = #[.tmp t]) (hv : get env t = some v) (hR : R (.returned v) w) : WX n .ret (bodyPost P fn R) env w := by
 intro a ha
 refine bodyPost_ret (results_tmp h _ _ _) ha.defs ?_
 have := ha.get t v hv
 simpa [Array.getD_eq_getD_getElem?, this] using hR
theorem WX.ret2 {t u : Tmp} {v x : Value} (h : fn.results = #[.tmp t, .tmp u]) (hv : get env t = some v) (hx : get env u = some x) (hR : R (.returned (.tuple #[v, x])) w) : WX n .ret (bodyPost P fn R) env w := by
 intro a ha
 refine bodyPost_ret (results_tmp2 h _ _ _) ha.defs ?_
 have h1 := ha.get t v hv
 have h2 := ha.get u x hx
 simpa [Array.getD_eq_getD_getElem?, h1, h2] using hR
theorem WX.ret3 {t u s : Tmp} {v x y : Value} (h : fn.results = #[.tmp t, .tmp u, .tmp s]) (hv : get env t = some v) (hx : get env u = some x) (hy : get env s = some y) (hR : R (.returned (.tuple #[v, x, y])) w) : WX n .ret (bodyPost P fn R) env w := by
 intro a ha
 refine bodyPost_ret (results_tmp3 h _ _ _) ha.defs ?_
 have h1 := ha.get t v hv
 have h2 := ha.get u x hx
 have h3 := ha.get s y hy
 simpa [Array.getD_eq_getD_getElem?, h1, h2, h3] using hR
theorem WX.retC {p : Tmp} {ty : TypeId} {a0 : Addr} {v : Value} (h : fn.results = #[.cell p ty]) (hp : get env p = some (.pointer (some a0))) (hl : (loadVar ty a0).run P w = .ok v w) (hR : R (.returned v) w) : WX n .ret (bodyPost P fn R) env w := by
 intro a ha
 have := ha.get p _ hp
 refine bodyPost_ret (v := v) ?_ ha.defs hR
 simp [results, h, Array.getD_eq_getD_getElem?, this, asAddr, hl]
theorem WX.retCT {p t : Tmp} {ty : TypeId} {a0 : Addr} {v x : Value} (h : fn.results = #[.cell p ty, .tmp t]) (hp : get env p = some (.pointer (some a0))) (hl : (loadVar ty a0).run P w = .ok v w) (hx : get env t = some x) (hR : R (.returned (.tuple #[v, x])) w) : WX n .ret (bodyPost P fn R) env w := by
 intro a ha
 have h1 := ha.get p _ hp
 have h2 := ha.get t _ hx
 refine bodyPost_ret (v := .tuple #[v, x]) ?_ ha.defs hR
 simp [results, h, Array.getD_eq_getD_getElem?, h1, h2, asAddr, hl]
theorem WX.end0 (h : fn.results = #[]) (hR : R (.returned (.tuple #[])) w) : WX n .normal (bodyPost P fn R) env w := by
 intro a ha
 exact bodyPost_end (results_none h _ _ _) ha.defs hR
end
section
variable {P : Program} {env : Env} {w : World} {dst : Option Tmp} {ty : TypeId} {pos : String} {aft : Array Edge} {g : Option (Nat × Bool)}
theorem R.move {x : Operand} {v : Value} (hx : ev env x = some v) : Runs P ⟨dst, .move x, ty, pos, aft, g⟩ env w v w := by
 intro n a ha; simp [execOp, ha.eval hx]
theorem R.assign {x : Operand} {v : Value} (hx : ev env x = some v) : Runs P ⟨dst, .assign x, ty, pos, aft, g⟩ env w v w := by
 intro n a ha; simp [execOp, ha.eval hx]
theorem R.pickT {c x y : Operand} {b : Bool} {v : Value} (hc : ev env c = some (.bool b)) (hb : b = true) (hx : ev env x = some v) : Runs P ⟨dst, .pick c x y, ty, pos, aft, g⟩ env w v w := by
 intro n a ha; simp [execOp, ha.eval hc, ha.eval hx, asBool, hb]
theorem R.pickF {c x y : Operand} {b : Bool} {v : Value} (hc : ev env c = some (.bool b)) (hb : b = false) (hy : ev env y = some v) : Runs P ⟨dst, .pick c x y, ty, pos, aft, g⟩ env w v w := by
 intro n a ha; simp [execOp, ha.eval hc, ha.eval hy, asBool, hb]
theorem R.nilCheck {x : Operand} {a0 : Addr} (hx : ev env x = some (.pointer (some a0))) : Runs P ⟨dst, .nilCheck x, ty, pos, aft, g⟩ env w (.pointer (some a0)) w := by
 intro n a ha; simp [execOp, ha.eval hx]
theorem R.extract {x : Operand} {i : Nat} {vs : Array Value} {v : Value} (hx : ev env x = some (.tuple vs)) (hi : vs[i]? = some v) : Runs P ⟨dst, .extract x i, ty, pos, aft, g⟩ env w v w := by
 intro n a ha; simp [execOp, ha.eval hx, Instr.extract, hi]
section
variable {t t' : TypeId} {x y : Operand} {k : IntKind} {m j : Int}
theorem R.add (hx : ev env x = some (.int k m)) (hy : ev env y = some (.int k j)) (hr : k.wrap (m + j) = m + j) : Runs P ⟨dst, .binOp .add t x y t', ty, pos, aft, g⟩ env w (.int k (m + j)) w := by
 intro n a ha; simp [execOp, ha.eval hx, ha.eval hy, eqGuard_add, binOp_add, Op.intArith, hr]
theorem R.sub (hx : ev env x = some (.int k m)) (hy : ev env y = some (.int k j)) (hr : k.wrap (m - j) = m - j) : Runs P ⟨dst, .binOp .sub t x y t', ty, pos, aft, g⟩ env w (.int k (m - j)) w := by
 intro n a ha; simp [execOp, ha.eval hx, ha.eval hy, eqGuard_sub, binOp_sub, Op.intArith, hr]
theorem R.mul (hx : ev env x = some (.int k m)) (hy : ev env y = some (.int k j)) (hr : k.wrap (m * j) = m * j) : Runs P ⟨dst, .binOp .mul t x y t', ty, pos, aft, g⟩ env w (.int k (m * j)) w := by
 intro n a ha; simp [execOp, ha.eval hx, ha.eval hy, eqGuard_mul, binOp_mul, Op.intArith, hr]
theorem R.lss (hx : ev env x = some (.int k m)) (hy : ev env y = some (.int k j)) : Runs P ⟨dst, .binOp .lss t x y t', ty, pos, aft, g⟩ env w (.bool (decide (m < j))) w := by
 intro n a ha; simp [execOp, ha.eval hx, ha.eval hy, eqGuard_lss, binOp_lss]
theorem R.leq (hx : ev env x = some (.int k m)) (hy : ev env y = some (.int k j)) : Runs P ⟨dst, .binOp .leq t x y t', ty, pos, aft, g⟩ env w (.bool (decide (m ≤ j))) w := by
 intro n a ha; simp [execOp, ha.eval hx, ha.eval hy, eqGuard_leq, binOp_leq]
theorem R.gtr (hx : ev env x = some (.int k m)) (hy : ev env y = some (.int k j)) : Runs P ⟨dst, .binOp .gtr t x y t', ty, pos, aft, g⟩ env w (.bool (decide (j < m))) w := by
 intro n a ha; simp [execOp, ha.eval hx, ha.eval hy, eqGuard_gtr, binOp_gtr]
theorem R.geq (hx : ev env x = some (.int k m)) (hy : ev env y = some (.int k j)) : Runs P ⟨dst, .binOp .geq t x y t', ty, pos, aft, g⟩ env w (.bool (decide (j ≤ m))) w := by
 intro n a ha; simp [execOp, ha.eval hx, ha.eval hy, eqGuard_geq, binOp_geq]
theorem R.eql (hx : ev env x = some (.int k m)) (hy : ev env y = some (.int k j)) : Runs P ⟨dst, .binOp .eql t x y t', ty, pos, aft, g⟩ env w (.bool (decide (m = j))) w := by
 intro n a ha; simp [execOp, ha.eval hx, ha.eval hy, eqGuard_at_int, binOp_eql]; rfl
theorem R.neq (hx : ev env x = some (.int k m)) (hy : ev env y = some (.int k j)) : Runs P ⟨dst, .binOp .neq t x y t', ty, pos, aft, g⟩ env w (.bool (decide (m ≠ j))) w := by
 intro n a ha; simp [execOp, ha.eval hx, ha.eval hy, eqGuard_at_int, binOp_neq, bne]; by_cases h : m = j <;> simp [h]
theorem R.neqB {p q : Bool} (ht : P.underlying t = some .bool) (hx : ev env x = some (.bool p)) (hy : ev env y = some (.bool q)) : Runs P ⟨dst, .binOp .neq t x y t', ty, pos, aft, g⟩ env w (.bool (decide (p ≠ q))) w := by
 intro n a ha; simp [execOp, ha.eval hx, ha.eval hy, eqGuard_at_bool, run_neq_bool _ _ _ _ ht]; cases p <;> cases q <;> rfl
theorem R.not {b : Bool} (hx : ev env x = some (.bool b)) : Runs P ⟨dst, .unOp .not t x, ty, pos, aft, g⟩ env w (.bool (!b)) w := by
 intro n a ha; simp [execOp, ha.eval hx, Op.unary]
end
theorem wrap_i64_in {m : Int} (h : -9223372036854775808 ≤ m ∧ m ≤ 9223372036854775807) : IntKind.i64.wrap m = m := by
 rw [IntKind.wrap_i64]; omega
def Cells (w : World) (b o : Nat) (cs : List Value) : Prop := ∀ j v, cs[j]? = some v → w.cell? ⟨b, o + j, none⟩ = some v
def Blk (w : World) (b : Nat) (cs : List Value) (e : TypeId) : Prop := w.heap[b]? = some (.cells cs.toArray e (0, 0))
theorem Blk.cells {w : World} {b : Nat} {cs : List Value} {e : TypeId} (h : Blk w b cs e) : Cells w b 0 cs := by
 intro j v hv
 unfold Blk at h
 simp only [World.cell?, h]
 simpa using hv
theorem Blk.lt {w : World} {b : Nat} {cs : List Value} {e : TypeId} (h : Blk w b cs e) : b < w.heap.size := by
 unfold Blk at h
 rcases Nat.lt_or_ge b w.heap.size with h' | h'
 · exact h'
 · rw [Array.getElem?_eq_none h'] at h; cases h
theorem Blk.frozen {w : World} {b o : Nat} {cs : List Value} {e : TypeId} (h : Blk w b cs e) : w.frozen? ⟨b, o, none⟩ = false := frozen_of_row w b o _ e h
theorem Cells.part {w : World} {b o : Nat} {cs ds : List Value} (h : Cells w b o cs) (i : Nat) (hd : ∀ j v, ds[j]? = some v → cs[i + j]? = some v) : Cells w b (o + i) ds := by
 intro j v hv
 rw [Nat.add_assoc]
 exact h _ _ (hd j v hv)
theorem Cells.el1 {w : World} {b o : Nat} {cs : List Value} (h : Cells w b o cs) {i : Int} (a : Nat) (hi : i = (a : Int)) {v : Value} (hv : cs[a]? = some v) : w.cell? ⟨b, o + i.toNat * 1, none⟩ = some v := by
 subst hi
 rw [Int.toNat_natCast, Nat.mul_one]
 exact h a v hv
theorem addr_add (b o n : Nat) : (⟨b, o, none⟩ : Addr).add n = ⟨b, o + n, none⟩ := Addr.add_lit b o n
theorem R.lenS {x : Operand} {ts : Array TypeId} {t e : TypeId} {ao : Option Addr} {l c : Nat} (ht : ts[0]? = some t) (hu : ∀ w, (underlying t).run P w = .ok (.slice e) w) (hx : ev env x = some (.slice ao l c)) :
  Runs P ⟨dst, .call ⟨.builtin .len, #[x], ts⟩, ty, pos, aft, g⟩ env w (.int .i64 l) w := by
 intro n a ha
 simp [execOp, resolve, invoke, builtin, ha.eval hx, Builtin.len_, ht, hu, goInt]
theorem R.indexS {t e : TypeId} {k : Nat} {x y : Operand} {ao : Option Addr} {b o l c : Nat} {kd : IntKind} {i : Int} (hu : ∀ w, (underlying t).run P w = .ok (.slice e) w) (hs : ∀ w, (sizeOf e).run P w = .ok k w)
  (hx : ev env x = some (.slice ao l c)) (hy : ev env y = some (.int kd i)) (hao : ao = some ⟨b, o, none⟩) (h0 : 0 ≤ i ∧ i < l) :
  Runs P ⟨dst, .indexAddr t x y, ty, pos, aft, g⟩ env w (.pointer (some ⟨b, o + i.toNat * k, none⟩)) w := by
 intro n a ha
 subst hao
 simp [execOp, ha.eval hx, ha.eval hy, Instr.indexAt, asIntOf, hu, hs, h0, addr_add]
theorem R.fieldAddr {s : TypeId} {x : Operand} {fld k : Nat} {b o : Nat} {fields : Array Field} {f : Field} (hu : ∀ w, (underlying s).run P w = .ok (.struct fields) w) (hf : fields[fld]? = some f) (hs : ∀ w, (sizeOf f.type).run P w = .ok (k + 1) w)
  (hx : ev env x = some (.pointer (some ⟨b, o, none⟩))) : Runs P ⟨dst, .fieldAddr s x fld, ty, pos, aft, g⟩ env w (.pointer (some ⟨b, o + f.offset, none⟩)) w := by
 intro n a ha
 simp [execOp, ha.eval hx, Instr.fieldAt, hu, hf, Instr.sureAddr, fieldPlace, hs, addr_add]
theorem R.load {t : TypeId} {x : Operand} {a0 : Addr} {v : Value} (ht : ∀ w, (isAgg t).run P w = .ok false w) (hx : ev env x = some (.pointer (some a0))) (hc : w.cell? a0 = some v) :
  Runs P ⟨dst, .load t x, ty, pos, aft, g⟩ env w v w := by
 intro n a ha
 simp [execOp, ha.eval hx, Instr.loadAt, Instr.sureAddr, loadVar, ht, hc]
theorem run_loadK {t : TypeId} {k : Nat} {b o : Nat} {cs : List Value} (ht : ∀ w, (isAgg t).run P w = .ok true w) (hs : ∀ w, (sizeOf t).run P w = .ok k w) (hl : cs.length = k) (hc : Cells w b o cs) : (loadVar t ⟨b, o, none⟩).run P w = .ok (.agg cs.toArray) w := by
 have := run_loadCells_list (P := P) (w := w) ⟨b, o, none⟩ cs (fun j v hv => by rw [Addr.add_lit]; exact hc j v hv)
 simp [loadVar, ht, hs, ← hl, this]
theorem R.loadK {t : TypeId} {k : Nat} {x : Operand} {b o : Nat} {cs : List Value} (ht : ∀ w, (isAgg t).run P w = .ok true w) (hs : ∀ w, (sizeOf t).run P w = .ok k w) (hx : ev env x = some (.pointer (some ⟨b, o, none⟩))) (hl : cs.length = k) (hc : Cells w b o cs) :
  Runs P ⟨dst, .load t x, ty, pos, aft, g⟩ env w (.agg cs.toArray) w := by
 intro n a ha
 have := run_loadCells_list (P := P) (w := w) ⟨b, o, none⟩ cs (fun j v hv => by rw [Addr.add_lit]; exact hc j v hv)
 simp [execOp, ha.eval hx, Instr.loadAt, Instr.sureAddr, loadVar, ht, hs, ← hl, this]
theorem R.field {s : TypeId} {x : Operand} {fld : Nat} {fields : Array Field} {f : Field} {cs : List Value} {v : Value} (hu : ∀ w, (underlying s).run P w = .ok (.struct fields) w) (hf : fields[fld]? = some f) (ht : ∀ w, (isAgg f.type).run P w = .ok false w)
  (hx : ev env x = some (.agg cs.toArray)) (hv : cs[f.offset]? = some v) : Runs P ⟨dst, .field s x fld, ty, pos, aft, g⟩ env w v w := by
 intro n a ha
 simp [execOp, ha.eval hx, Instr.field, hu, hf, asAgg, part, ht, hv]
theorem R.sliceLo {t e : TypeId} {k : Nat} {x lo : Operand} {ao : Option Addr} {l c : Nat} {kd : IntKind} {i : Int} (hu : ∀ w, (underlying t).run P w = .ok (.slice e) w) (hs : ∀ w, (sizeOf e).run P w = .ok k w) (hx : ev env x = some (.slice ao l c)) (hy : ev env lo = some (.int kd i)) (h0 : 0 ≤ i ∧ i ≤ l) :
  Runs P ⟨dst, .slice t x (some lo) none none, ty, pos, aft, g⟩ env w (.slice (if c = i.toNat then ao else ao.map (·.add (i.toNat * k))) (l - i.toNat) (c - i.toNat)) w := by
 intro n a ha
 simp [execOp, ha.eval hx, ha.eval hy, Instr.sliceAt, Instr.slice, Instr.sliceBounds, Instr.sliceBound, asIntOf, hu, hs, h0]
theorem R.sliceHi {t e : TypeId} {k : Nat} {x hi : Operand} {ao : Option Addr} {l c : Nat} {kd : IntKind} {i : Int} (hu : ∀ w, (underlying t).run P w = .ok (.slice e) w) (hs : ∀ w, (sizeOf e).run P w = .ok k w) (hx : ev env x = some (.slice ao l c)) (hy : ev env hi = some (.int kd i)) (h0 : 0 ≤ i ∧ i ≤ c) :
  Runs P ⟨dst, .slice t x none (some hi) none, ty, pos, aft, g⟩ env w (.slice (if c = 0 then ao else ao.map (·.add (0 * k))) i.toNat c) w := by
 intro n a ha
 simp [execOp, ha.eval hx, ha.eval hy, Instr.sliceAt, Instr.slice, Instr.sliceBounds, Instr.sliceBound, asIntOf, hu, hs, h0]
theorem R.sliceLH {t e : TypeId} {k : Nat} {x lo hi : Operand} {ao : Option Addr} {l c : Nat} {kd kh : IntKind} {i j : Int} (hu : ∀ w, (underlying t).run P w = .ok (.slice e) w) (hs : ∀ w, (sizeOf e).run P w = .ok k w) (hx : ev env x = some (.slice ao l c)) (hy : ev env lo = some (.int kd i)) (hz : ev env hi = some (.int kh j)) (h0 : 0 ≤ i ∧ i ≤ j) (h1 : j ≤ c) :
  Runs P ⟨dst, .slice t x (some lo) (some hi) none, ty, pos, aft, g⟩ env w (.slice (if c = i.toNat then ao else ao.map (·.add (i.toNat * k))) (j.toNat - i.toNat) (c - i.toNat)) w := by
 intro n a ha
 have h2 : 0 ≤ j := by omega
 have h3 : ¬ max j 0 < i := by omega
 simp [execOp, ha.eval hx, ha.eval hy, ha.eval hz, Instr.sliceAt, Instr.slice, Instr.sliceBounds, Instr.sliceBound, asIntOf, hu, hs, h0, h1, h2]
 exact fun h => absurd h h3
theorem R.build {t : TypeId} {parts : Array (Nat × Operand)} {v : Value} (ps : List (Nat × Value)) (hp : parts.toList.map (fun p => (p.1, ev env p.2)) = ps.map (fun p => (p.1, some p.2))) (hb : ∀ w, (Instr.build t ps.toArray).run P w = .ok v w) :
  Runs P ⟨dst, .build t parts, ty, pos, aft, g⟩ env w v w := by
 intro n a ha
 have e : (parts.map fun (i, x) => (i, a.eval x)) = ps.toArray := by
  have key : ∀ (l : List (Nat × Operand)) (ps : List (Nat × Value)), l.map (fun p => (p.1, ev env p.2)) = ps.map (fun p => (p.1, some p.2)) → l.map (fun p => (p.1, a.eval p.2)) = ps := by
   intro l
   induction l with
   | nil => intro ps h; cases ps with
    | nil => rfl
    | cons _ _ => simp at h
   | cons x r ih =>
    intro ps h
    cases ps with
    | nil => simp at h
    | cons y s =>
     simp only [List.map_cons, List.cons.injEq, Prod.mk.injEq] at h
     simp only [List.map_cons, List.cons.injEq]
     refine ⟨?_, ih s h.2⟩
     rw [ha.eval h.1.2, h.1.1]
  apply Array.toList_inj.1
  simpa using key parts.toList ps hp
 simp [execOp, e, hb]
end
section
variable {P : Program} {env : Env} {w : World} {dst : Option Tmp} {ty : TypeId} {pos : String} {aft : Array Edge} {g : Option (Nat × Bool)}
theorem evs {n : Nat} {a : Act} (ha : Ok n env a) : ∀ (l : List Operand) (vs : List Value), l.map (ev env) = vs.map some → l.map a.eval = vs
 | [], [], _ => rfl
 | [], _ :: _, h => by simp at h
 | _ :: _, [], h => by simp at h
 | x :: l, v :: vs, h => by
  simp only [List.map_cons, List.cons.injEq] at h ⊢
  exact ⟨ha.eval h.1, evs ha l vs h.2⟩
theorem F.call {f : FuncId} {xs : Array Operand} {ts : Array TypeId} {vs : List Value} (hf : ∀ args w, (callFunc f args).run P w = .ok (.enter f args) w) (hx : xs.toList.map (ev env) = vs.map some) :
  RunsF P ⟨dst, .call ⟨.value (.func f), xs, ts⟩, ty, pos, aft, g⟩ env w f vs.toArray := by
 intro n a ha
 have e : xs.map a.eval = vs.toArray := by
  apply Array.toList_inj.1
  simpa using evs ha xs.toList vs hx
 simp [execOp, resolve, invoke, Deferred.ofValue, Act.eval, e, hf]
theorem F.callV {f : FuncId} {x : Operand} {fs cs : List Value} {xs : Array Operand} {ts : Array TypeId} {vs : List Value} (hf : ∀ args w, (callFunc f args).run P w = .ok (.enter f args) w) (hv : ev env x = some (.func (.func f) fs.toArray cs.toArray)) (hx : xs.toList.map (ev env) = vs.map some) :
  RunsF P ⟨dst, .call ⟨.value x, xs, ts⟩, ty, pos, aft, g⟩ env w f (fs ++ vs ++ cs).toArray := by
 intro n a ha
 have e : xs.map a.eval = vs.toArray := by
  apply Array.toList_inj.1
  simpa using evs ha xs.toList vs hx
 simp [execOp, resolve, invoke, Deferred.ofValue, ha.eval hv, e, hf]
end
section
variable {P : Program} {n : Nat} {ops : Array Oper} {Q : Exit → Act → World → Prop} {rest : List Oper} {env : Env} {w w' : World} {v : Value} {d : Nat} {op : Op} {ty : TypeId} {pos : String} {aft : Array Edge}
theorem Sub.of {env' env : Env} (h : env'.map (fun p => get env p.1) = env'.map (fun p => some p.2)) : Sub env' env := by
 induction env' with
 | nil => exact Sub.nil
 | cons p r ih =>
  obtain ⟨k, u⟩ := p
  simp only [List.map_cons, List.cons.injEq] at h
  exact Sub.cons h.1 (ih h.2)
theorem WO.o (hn : Nat.blt d n = true) (hr : Runs P ⟨some d, op, ty, pos, aft, none⟩ env w v w') (h : WO P n ops Q rest ((d, v) :: env) w') : WO P n ops Q (⟨some d, op, ty, pos, aft, none⟩ :: rest) env w := WO.op rfl rfl hn hr h
theorem WO.mv {x : Operand} (hn : Nat.blt d n = true) (hx : ev env x = some v) (h : WO P n ops Q rest ((d, v) :: env) w) : WO P n ops Q (⟨some d, .move x, ty, pos, aft, none⟩ :: rest) env w := WO.op rfl rfl hn (R.move hx) h
theorem WO.a {x : Operand} (hn : Nat.blt d n = true) (hx : ev env x = some v) (h : WO P n ops Q rest ((d, v) :: env) w) : WO P n ops Q (⟨some d, .assign x, ty, pos, aft, none⟩ :: rest) env w := WO.op rfl rfl hn (R.assign hx) h
theorem WO.nr {id : Nat} {l : List Oper} {y : Code} {Q' : Exit → Act → World → Prop} (h : WO P n l.toArray (Exit.then (fun a w => y.wp P Q a w) Q) l env w) : WO P n ops (Exit.then (fun a w => ((Code.region id l.toArray false).seq y).wp P Q a w) Q') [] env w := WO.nil (WX.next (WC.seq (WC.region h)))
theorem WO.z {j dj d : Nat} {b c : Bool} (h1 : ((ops[j]?).bind (·.dst), get env dj, c, Nat.blt d n) = (some dj, some (.bool c), !b, true)) (h : WO P n ops Q rest ((d, undef) :: env) w) : WO P n ops Q (⟨some d, op, ty, pos, aft, some (j, b)⟩ :: rest) env w := by
 simp only [Prod.mk.injEq] at h1
 exact WO.no h1.1 h1.2.1 h1.2.2.1 h1.2.2.2 h
theorem WC.sr {id : Nat} {l : List Oper} {y : Code} (h : WO P n l.toArray (Exit.then (fun a w => y.wp P Q a w) Q) l env w) : WC P n ((Code.region id l.toArray false).seq y) Q env w := WC.seq (WC.region h)
theorem WC.ks {id : Nat} {l : List Oper} {y : Code} {Q' : Exit → Act → World → Prop} (h : WO P n l.toArray (Exit.then (fun a w => y.wp P Q a w) Q) l env w) : WC P n .skip (Exit.then (fun a w => ((Code.region id l.toArray false).seq y).wp P Q a w) Q') env w := WC.skip (WX.next (WC.seq (WC.region h)))
theorem dT {p : Prop} [Decidable p] (h : p) : decide p = true := decide_eq_true h
theorem dF {p : Prop} [Decidable p] (h : ¬p) : decide p = false := decide_eq_false h
end
open Go.RowKit
structure Keep (S : Nat → Prop) (w w' : World) : Prop where
 os : w'.os = w.os
 tape : w'.tape = w.tape
 output : w'.output = w.output
 drawn : w.drawn ≤ w'.drawn
 size : w.heap.size ≤ w'.heap.size
 block : ∀ k, k < w.heap.size → ¬ S k → w'.heap[k]? = w.heap[k]?
abbrev Ext (w w' : World) : Prop := Keep (fun _ => False) w w'
section
variable {w w' w'' : World} {S T : Nat → Prop}
theorem Keep.refl (S : Nat → Prop) (w : World) : Keep S w w := ⟨rfl, rfl, rfl, Nat.le_refl _, Nat.le_refl _, fun _ _ _ => rfl⟩
theorem Keep.mono (h : Keep S w w') (hs : ∀ k, k < w.heap.size → S k → T k) : Keep T w w' := ⟨h.os, h.tape, h.output, h.drawn, h.size, fun k hk hn => h.block k hk (fun hS => hn (hs k hk hS))⟩
theorem Keep.trans (h : Keep S w w') (h' : Keep T w' w'') (hs : ∀ k, k < w.heap.size → T k → S k) : Keep S w w'' :=
 ⟨h'.os.trans h.os, h'.tape.trans h.tape, h'.output.trans h.output, Nat.le_trans h.drawn h'.drawn, Nat.le_trans h.size h'.size, fun k hk hn => (h'.block k (Nat.lt_of_lt_of_le hk h.size) (fun hT => hn (hs k hk hT))).trans (h.block k hk hn)⟩
theorem Keep.ext (h : Keep S w w') (h' : Ext w' w'') : Keep S w w'' := h.trans h' (fun _ _ h => h.elim)
theorem Keep.blk (h : Keep S w w') {b : Nat} {cs : List Value} {e : TypeId} (hb : Blk w b cs e) (hn : ¬ S b) : Blk w' b cs e := by
 unfold Blk at *
 rw [h.block b (Blk.lt hb) hn]; exact hb
theorem Keep.cell (h : Keep S w w') {a : Addr} {v : Value} (hc : w.cell? a = some v) (hn : ¬ S a.block) : w'.cell? a = some v := by
 rw [World.cell?_of_block (w := w) (h.block a.block (World.block_lt_of_cell? w a hc) hn)]; exact hc
theorem Keep.cells (h : Keep S w w') {b o : Nat} {cs : List Value} (hc : Cells w b o cs) (hn : ¬ S b) : Cells w' b o cs := fun j v hv => h.cell (hc j v hv) hn
theorem Keep.alloc (w : World) (o : Obj) : Ext w (w.alloc o) := ⟨rfl, rfl, rfl, Nat.le_refl _, by simp, fun k hk _ => Below.heap_alloc w o k hk⟩
theorem Keep.drew (w : World) : Ext w w.drew := ⟨rfl, rfl, rfl, Nat.le_succ _, Nat.le_refl _, fun _ _ _ => rfl⟩
end
theorem Blk.alloc (w : World) (cs : List Value) (e : TypeId) : Blk (w.alloc (.cells cs.toArray e)) w.heap.size cs e := heap_alloc_new w _
theorem Blk.set {w : World} {b o : Nat} {cs : List Value} {e : TypeId} (h : Blk w b cs e) (v : Value) : Blk (w.setCell ⟨b, o, none⟩ v) b (cs.set o v) e := by
 unfold Blk at *
 rw [heap_setCell_same w b o cs.toArray e v h]
 simp
theorem Keep.setCell (w : World) (b o : Nat) (v : Value) : Keep (fun k => k = b) w (w.setCell ⟨b, o, none⟩ v) :=
 ⟨rfl, rfl, rfl, Nat.le_refl _, by simp, fun k _ hn => heap_setCell_other w ⟨b, o, none⟩ k v hn⟩
section
variable {P : Program} {n : Nat} {ops : Array Oper} {Q : Exit → Act → World → Prop} {o : Oper} {rest : List Oper} {env : Env} {w : World}
def Makes (P : Program) (o : Oper) (env : Env) (w : World) (R : Value → World → Prop) : Prop := ∃ v w', Runs P o env w v w' ∧ R v w'
def Makes0 (P : Program) (o : Oper) (env : Env) (w : World) (R : World → Prop) : Prop := ∃ w', Runs0 P o env w w' ∧ R w'
theorem WO.mem {d : Nat} {R : Value → World → Prop} (hg : o.guard = none) (hd : o.dst = some d) (hn : Nat.blt d n = true) (hr : Makes P o env w R) (h : ∀ v w', R v w' → WO P n ops Q rest ((d, v) :: env) w') : WO P n ops Q (o :: rest) env w := by
 obtain ⟨v, w', h1, h2⟩ := hr
 exact WO.op hg hd hn h1 (h v w' h2)
theorem WO.mem0 {R : World → Prop} (hg : o.guard = none) (hd : o.dst = none) (hr : Makes0 P o env w R) (h : ∀ w', R w' → WO P n ops Q rest env w') : WO P n ops Q (o :: rest) env w := by
 obtain ⟨w', h1, h2⟩ := hr
 exact WO.op0 hg hd h1 (h w' h2)
end
def New (w : World) (cs : List Value) (e : TypeId) (b : Nat) (w' : World) : Prop := b = w.heap.size ∧ w'.heap.size = w.heap.size + 1 ∧ Blk w' b cs e ∧ Ext w w'
theorem New.mk (w : World) (cs : List Value) (e : TypeId) : New w cs e w.heap.size (w.alloc (.cells cs.toArray e)) := ⟨rfl, by simp, Blk.alloc w cs e, Keep.alloc w _⟩
def Wrote (w : World) (b : Nat) (cs : List Value) (e : TypeId) (w' : World) : Prop := w'.heap.size = w.heap.size ∧ Blk w' b cs e ∧ Keep (fun k => k = b) w w'
section
variable {P : Program} {env : Env} {w : World} {dst : Option Tmp} {ty : TypeId} {pos : String} {aft : Array Edge} {g : Option (Nat × Bool)}
theorem M.box {e : TypeId} {x : Operand} {v : Value} {cs : List Value} (hx : ev env x = some v) (hc : v.cells = cs.toArray) :
  Makes P ⟨dst, .box e x, ty, pos, aft, g⟩ env w (fun u w' => ∃ b, u = .pointer (some ⟨b, 0, none⟩) ∧ New w cs e b w') := by
 refine ⟨.pointer (some ⟨w.heap.size, 0, none⟩), w.alloc (.cells cs.toArray e), ?_, _, rfl, New.mk w cs e⟩
 intro n a ha
 simp [execOp, ha.eval hx, Instr.box, newVar, newRow, hc]
theorem M.alloc {e : TypeId} {z : Value} {cs : List Value} (hz : ∀ w, (zeroValue e).run P w = .ok z w) (hc : z.cells = cs.toArray) :
  Makes P ⟨dst, .alloc e, ty, pos, aft, g⟩ env w (fun u w' => ∃ b, u = .pointer (some ⟨b, 0, none⟩) ∧ New w cs e b w') := by
 refine ⟨.pointer (some ⟨w.heap.size, 0, none⟩), w.alloc (.cells cs.toArray e), ?_, _, rfl, New.mk w cs e⟩
 intro n a ha
 simp [execOp, Instr.alloc, hz, newVar, newRow, hc]
theorem M.store {t : TypeId} {x y : Operand} {b o : Nat} {cs : List Value} {e : TypeId} {v : Value} (hs : ∀ w, (sizeOf t).run P w = .ok 1 w) (hx : ev env x = some (.pointer (some ⟨b, o, none⟩))) (hy : ev env y = some v) (h1 : v.oneCell' = true) (hc : v.cells = #[v]) (hb : Blk w b cs e) (ho : o < cs.length) :
  Makes0 P ⟨dst, .store t x y, ty, pos, aft, g⟩ env w (fun w' => Wrote w b (cs.set o v) e w') := by
 refine ⟨w.setCell ⟨b, o, none⟩ v, ?_, by simp, hb.set v, Keep.setCell w b o v⟩
 intro n a ha
 have hcell : w.cell? ⟨b, o, none⟩ = some cs[o] := by
  have := hb.cells o cs[o] (List.getElem?_eq_getElem ho)
  simpa using this
 have hst : ∀ m, (Go.store ⟨b, o, none⟩ v m).run P w = .ok () (w.setCell ⟨b, o, none⟩ v) := by
  intro m
  rw [run_store P w _ v m h1]
  simp [hcell, hb.frozen]
 simp [execOp, ha.eval hx, ha.eval hy, Instr.storeAt, Instr.sureAddr, storeVar, hs, hc, storeCells, addr_add, hst]
theorem M.storeK {t : TypeId} {k : Nat} {x y : Operand} {b o : Nat} {cs us : List Value} {e : TypeId} {v : Value} (hs : ∀ w, (sizeOf t).run P w = .ok k w) (hx : ev env x = some (.pointer (some ⟨b, o, none⟩))) (hy : ev env y = some v) (hv : v.cells = us.toArray) (hk : us.length = k) (h1 : ∀ u ∈ us, u.oneCell' = true) (hb : Blk w b cs e) (ho : o + k ≤ cs.length) :
  Makes0 P ⟨dst, .store t x y, ty, pos, aft, g⟩ env w (fun w' => Wrote w b (cs.take o ++ us ++ cs.drop (o + k)) e w') := by
 have key : ∀ (us : List Value) (i : Nat) (w : World) (cs : List Value), (∀ u ∈ us, u.oneCell' = true) → Blk w b cs e → o + i + us.length ≤ cs.length →
   ∃ w', (storeCells ⟨b, o, none⟩ us i).run P w = .ok () w' ∧ Wrote w b (cs.take (o + i) ++ us ++ cs.drop (o + i + us.length)) e w' := by
  intro us
  induction us with
  | nil =>
   intro i w cs _ hb _
   refine ⟨w, by simp [storeCells], rfl, ?_, Keep.refl _ _⟩
   simpa using hb
  | cons u r ih =>
   intro i w cs h1 hb hl
   simp only [List.length_cons] at hl
   have hcell : w.cell? ⟨b, o + i, none⟩ = some cs[o + i] := by
    have := hb.cells (o + i) cs[o + i] (List.getElem?_eq_getElem (by omega))
    simpa using this
   have hst : ∀ m, (Go.store ⟨b, o + i, none⟩ u m).run P w = .ok () (w.setCell ⟨b, o + i, none⟩ u) := by
    intro m
    rw [run_store P w _ u m (h1 u (by simp))]
    simp [hcell, hb.frozen]
   obtain ⟨w', hr, hsz, hB, hK⟩ := ih (i + 1) (w.setCell ⟨b, o + i, none⟩ u) (cs.set (o + i) u) (fun x hx => h1 x (by simp [hx])) (hb.set u) (by simp; omega)
   refine ⟨w', ?_, by rw [hsz]; simp, ?_, (Keep.setCell w b (o + i) u).trans hK (fun _ _ h => h)⟩
   · simp [storeCells, addr_add, hst, hr]
   ·
    have e1 : (cs.set (o + i) u).take (o + (i + 1)) = cs.take (o + i) ++ [u] := by
     rw [show o + (i + 1) = (o + i) + 1 from by omega, List.take_succ_eq_append_getElem (by simp; omega)]
     simp [List.take_set_of_le]
    have e2 : (cs.set (o + i) u).drop (o + (i + 1) + r.length) = cs.drop (o + i + (u :: r).length) := by
     rw [List.drop_set_of_lt (by omega)]
     simp only [List.length_cons, Nat.add_assoc, Nat.add_comm 1]
    rw [e1, e2] at hB
    simpa using hB
 obtain ⟨w', hr, hW⟩ := key us 0 w cs h1 hb (by omega)
 refine ⟨w', ?_, by simpa [hk] using hW⟩
 intro n a ha
 simp [execOp, ha.eval hx, ha.eval hy, Instr.storeAt, Instr.sureAddr, storeVar, hs, hv, hk, hr]
theorem M.buildSlice {t e : TypeId} {len k : Nat} {parts : Array (Nat × Operand)} {z : Value} {cs : List Value} (ps : List (Nat × Value)) (hu : ∀ w, (underlying t).run P w = .ok (.slice e) w) (hs : ∀ w, (sizeOf e).run P w = .ok k w) (hz : ∀ w, (zeroValue e).run P w = .ok z w)
  (hlen : len * k ≠ 0 ∧ len * k ≤ 16777216) (hp : parts.toList.map (fun p => (p.1, ev env p.2)) = ps.map (fun p => (p.1, some p.2))) (hf : Instr.fill (fun i => some (i * k, k)) ((Array.range (len * k)).map (z.cells[· % z.cells.size]!)) ps = some cs.toArray) :
  Makes P ⟨dst, .buildSlice t len parts, ty, pos, aft, g⟩ env w (fun u w' => ∃ b, u = .slice (some ⟨b, 0, none⟩) len len ∧ New w cs e b w') := by
 refine ⟨.slice (some ⟨w.heap.size, 0, none⟩) len len, w.alloc (.cells cs.toArray e), ?_, _, rfl, New.mk w cs e⟩
 intro n a ha
 have e1 : (parts.map fun (i, x) => (i, a.eval x)) = ps.toArray := by
  have key : ∀ (l : List (Nat × Operand)) (ps : List (Nat × Value)), l.map (fun p => (p.1, ev env p.2)) = ps.map (fun p => (p.1, some p.2)) → l.map (fun p => (p.1, a.eval p.2)) = ps := by
   intro l
   induction l with
   | nil => intro ps h; cases ps with
    | nil => rfl
    | cons _ _ => simp at h
   | cons x r ih =>
    intro ps h
    cases ps with
    | nil => simp at h
    | cons y s =>
     simp only [List.map_cons, List.cons.injEq, Prod.mk.injEq] at h
     simp only [List.map_cons, List.cons.injEq]
     refine ⟨?_, ih s h.2⟩
     rw [ha.eval h.1.2, h.1.1]
  apply Array.toList_inj.1
  simpa using key parts.toList ps hp
 have h2 : ¬ (16777216 < len * k) := by omega
 simp [execOp, e1, Instr.buildSlice, hu, hs, hz, hlen.1, h2, hf, newRow]
theorem made1 (z : Value) (n : Nat) (hz : z.cells = #[z]) : madeCells z.cells (n * 1) = (List.replicate n z).toArray := by
 rw [hz]
 apply Array.ext
 · simp [madeCells]
 ·
  intro i h1 h2
  simp [madeCells, Nat.mod_one]
theorem M.make {t e : TypeId} {k by' : Nat} {z : Value} {x y : Operand} {m : Nat} {kl kc : IntKind} {zs : List Value} (hu : P.underlying t = some (.slice e)) (he : (P.info? e).map (fun i => (i.zero, i.size, i.bytes)) = some (some z, k, by')) (hx : ev env x = some (.int kl (m : Int))) (hy : ev env y = some (.int kc (m : Int)))
  (hb : by' * m ≤ 281474976710656) (hm : m ≤ 9223372036854775807) (hz : madeCells z.cells (m * k) = zs.toArray) :
  Makes P ⟨dst, .makeSlice t x y, ty, pos, aft, g⟩ env w (fun u w' => ∃ b, u = .slice (some ⟨b, 0, none⟩) m m ∧ New w zs e b w') := by
 obtain ⟨i, hi, hz0, hz1, hz2⟩ := info_parts he
 refine ⟨.slice (some ⟨w.heap.size, 0, none⟩) m m, w.alloc (.cells zs.toArray e), ?_, _, rfl, New.mk w zs e⟩
 intro n a ha
 have := run_make (P := P) w t e i z hu hi hz0 kl kc (m : Int) (m : Int) (by omega) (by omega) (by rw [hz2]; omega) (by omega)
 rw [hz1] at this
 simp only [Int.toNat_natCast, hz] at this
 simp [execOp, ha.eval hx, ha.eval hy, this]
theorem Cells.add {w : World} {b o : Nat} {cs : List Value} (h : Cells w b o cs) : ∀ q u, cs[q]? = some u → w.cell? ((⟨b, o, none⟩ : Addr).add q) = some u := fun q u hq => by rw [addr_add]; exact h q u hq
theorem M.append {t e : TypeId} {k by' : Nat} {z : Value} {x y : Operand} {v : Value} {m : Nat} {xs : List Value} {a0 : Addr} {j c : Nat} {news : List Value} (hu : P.underlying t = some (.slice e)) (he : (P.info? e).map (fun i => (i.zero, i.size, i.bytes)) = some (some z, k, by')) (hzs : z.cells.size = k) (hk : 0 < k)
  (hx : ev env x = some v) (hy : ev env y = some (.slice (some a0) j c)) (hown : w.ownsRow 0 e k v m xs) (hl : news.length = j * k) (hnews : ∀ q u, news[q]? = some u → w.cell? (a0.add q) = some u) (h1 : ∀ u ∈ news, u.oneCell' = true) (hmax : m + j ≤ 9223372036854775807) (hby : (m + j) * by' ≤ 140737488355328) :
  Makes P ⟨dst, .call ⟨.builtin .append, #[x, y], #[t, t]⟩, ty, pos, aft, g⟩ env w (fun u w' => w'.ownsRow 0 e k u (m + j) (xs ++ news) ∧ (u.ownBlock = v.ownBlock ∨ ∃ g, u.ownBlock = some g ∧ w.heap.size ≤ g) ∧ Keep (fun k => v.ownBlock = some k) w w' ∧ (u = .slice none 0 0 ↔ v = .slice none 0 0 ∧ j = 0)) := by
 obtain ⟨i, hi, hz0, hz1, hz2⟩ := info_parts he
 subst hz1
 subst hz2
 have hlen : (xs ++ news).length = (m + j) * i.size := by rw [List.length_append, hown.1, hl, Nat.add_mul]
 have hmx : m + j ≤ maxLen := by simpa [maxLen] using hmax
 suffices H : ∃ v' w', (Builtin.append_ #[t, t] ty #[v, .slice (some a0) j c]).run P w = .ok v' w' ∧ (w'.ownsRow 0 e i.size v' (m + j) (xs ++ news) ∧ (v'.ownBlock = v.ownBlock ∨ ∃ g, v'.ownBlock = some g ∧ w.heap.size ≤ g) ∧ Keep (fun k => v.ownBlock = some k) w w' ∧ (v' = .slice none 0 0 ↔ v = .slice none 0 0 ∧ j = 0)) by
  obtain ⟨v', w', hr, h⟩ := H
  refine ⟨v', w', ?_, h⟩
  intro n a ha
  simp [execOp, resolve, invoke, builtin, ha.eval hx, ha.eval hy, hr]
 have grown : ∀ (old : Nat), old < m + j →
   (w.drew.alloc (.cells (xs.toArray ++ news.toArray ++ Builtin.zeroCells z.cells (grownCap w (m + j) old e - (m + j))) e)).ownsRow 0 e i.size
    (.slice (some ⟨w.heap.size, 0, none⟩) (m + j) (grownCap w (m + j) old e)) (m + j) (xs ++ news) := by
  intro old ho
  have hge := grownCap_ge w (m + j) old e
  have hcm : grownCap w (m + j) old e ≤ maxLen := grownCap_le_maxLen w (m + j) old e hmx
  refine ⟨hlen, .inr ⟨w.heap.size, _, _, rfl, Nat.zero_le _, heap_alloc_new w.drew _, hge, hcm, ?_, ?_⟩⟩
  ·
   simp only [Array.size_append, List.size_toArray, size_zeroCells, hzs, hown.1, hl, ← Nat.add_mul]
   congr 1
   omega
  ·
   simp only [Array.toList_append, List.append_assoc]
   rw [← List.append_assoc, ← hlen]
   exact List.take_left
 have kp : ∀ (o1 : Obj) (S : Nat → Prop), Keep S w (w.drew.alloc o1) := fun o1 S => ((Keep.refl S w).ext (Keep.drew w)).ext (Keep.alloc _ _)
 rcases hown.2 with ⟨rfl, rfl⟩ | ⟨g0, cap, cur, rfl, hbg, hg0, hnc, hcm, hcs, htake⟩
 ·
  have hxs : xs = [] := List.eq_nil_of_length_eq_zero (by simpa using hown.1)
  subst hxs
  by_cases hj : j = 0
  ·
   subst hj
   have hn : news = [] := List.eq_nil_of_length_eq_zero (by simpa using hl)
   subst hn
   refine ⟨.slice none 0 0, w, ?_, World.ownsRow_nil w 0 e i.size, .inl rfl, Keep.refl _ _, by simp⟩
   simp [Builtin.append_, run_underlying hu, sizeOf, typeInfo, hi, Builtin.lenOf, Builtin.firstCells, loadCells, loadCellsFrom]
  ·
   have hr := run_append_nil (P := P) w t ty e i z hu hi hz0 a0 j c news hl hnews (by omega) (by omega) (by have hb := hby; simp only [Nat.zero_add] at hb; omega)
   have hgr := grown 0 (by omega)
   simp only [Nat.zero_add, List.nil_append, Array.empty_append] at hgr ⊢
   exact ⟨_, _, hr, hgr, .inr ⟨_, rfl, Nat.le_refl _⟩, kp _ _, by simp [hj]⟩
 ·
  by_cases hroom : m + j ≤ cap
  ·
   have hfit : m * i.size + news.length ≤ cur.size := by rw [hl, hcs, ← Nat.add_mul]; exact Nat.mul_le_mul_right _ hroom
   have hr := run_append_room (P := P) w t ty e i hu hi g0 m cap cur hg0 a0 j c news hl hnews h1 hroom hfit
   refine ⟨_, _, hr, ⟨hlen, .inr ⟨g0, cap, _, rfl, hbg, setRow_heap w g0 cur _ e _ hg0, hroom, hcm, ?_, ?_⟩⟩, .inl rfl, ⟨rfl, rfl, rfl, Nat.le_refl _, by simp, fun k _ hk => setRow_other w g0 k _ (fun e => hk (by simp [Value.ownBlock, e]))⟩, by simp⟩
   ·
    simp only [List.size_toArray, List.length_append, List.length_take, List.length_drop, Array.length_toList]
    omega
   ·
    rw [htake, ← hlen]
    exact List.take_left
  ·
   have holds : ∀ q u, xs[q]? = some u → w.cell? ((⟨g0, 0, none⟩ : Addr).add q) = some u := hown.cells (g := g0) rfl
   have hr := run_append_grow (P := P) w t ty e i z hu hi hz0 ⟨g0, 0, none⟩ m cap xs hown.1 holds a0 j c news hl hnews (by omega) (by omega) (growslice_fits (by omega) hby)
   exact ⟨_, _, hr, grown cap (by omega), .inr ⟨_, rfl, Nat.le_refl _⟩, kp _ _, by simp⟩
end
section
variable {P : Program} {n : Nat} {ops : Array Oper} {Q : Exit → Act → World → Prop} {o : Oper} {rest : List Oper} {env : Env} {w : World} {v : Value}
def WQ (P : Program) (n : Nat) (ops : Array Oper) (Q : Exit → Act → World → Prop) (w : World) (l : List Oper) (env : Env) : Prop :=
 ∀ a, Ok n env a → wpQuiet P ops (Ext w) (fun a' => ∀ w', Ext w w' → Q .normal a' w') l a
theorem WC.quiet {id : Nat} {l : List Oper} (hm : P.follows .mixedOrders = true) (hB : Region.lexB .any l.toArray = true) (h : WQ P n l.toArray Q w l env) : WC P n (.region id l.toArray true) Q env w :=
 fun a ha => wp_region_quiet (C := Ext w) hm hB (Keep.drew w) (by simpa using h a ha)
theorem WQ.op {d : Nat} (hg : o.guard = none) (hd : o.dst = some d) (hn : Nat.blt d n = true) (hr : ∀ w', Ext w w' → Runs P o env w' v w') (h : WQ P n ops Q w rest ((d, v) :: env)) : WQ P n ops Q w (o :: rest) env := by
 intro a ha
 unfold wpQuiet
 rw [if_pos (by simp [Region.wanted, hg])]
 refine ⟨v, ?_, by rw [hd]; exact h _ (ha.put hn)⟩
 intro w' hw'
 unfold Oper.quietAt
 rw [hr w' hw' n a ha]
 exact ⟨rfl, rfl⟩
theorem WQ.call {d : Nat} {f : FuncId} {args : Array Value} (hg : o.guard = none) (hd : o.dst = some d) (hn : Nat.blt d n = true) (hr : ∀ w', RunsF P o env w' f args)
  (hc : ∀ w', Ext w w' → Calls P f args w' (fun e w'' => e = .returned v ∧ Ext w' w'')) (h : WQ P n ops Q w rest ((d, v) :: env)) : WQ P n ops Q w (o :: rest) env := by
 intro a ha
 unfold wpQuiet
 rw [if_pos (by simp [Region.wanted, hg])]
 refine ⟨v, ?_, by rw [hd]; exact h _ (ha.put hn)⟩
 intro w' hw'
 unfold Oper.quietAt
 rw [hr w' n a ha]
 exact ⟨rfl, (hc w' hw').mono fun e w'' ⟨he, hk⟩ => ⟨he, hw'.ext hk⟩⟩
theorem WQ.yes {j dj : Nat} {b c : Bool} {dst : Option Tmp} {op : Op} {ty : TypeId} {pos : String} {aft : Array Edge} (hj : (ops[j]?).bind (·.dst) = some dj) (hget : get env dj = some (.bool c)) (hc : c = b)
  (h : WQ P n ops Q w (⟨dst, op, ty, pos, aft, none⟩ :: rest) env) : WQ P n ops Q w (⟨dst, op, ty, pos, aft, some (j, b)⟩ :: rest) env := by
 intro a ha
 have h1 := h a ha
 have hy : yielded ops a.tmps j = some c := by
  have := ha.get dj _ hget
  simp [yielded, hj, this]
 unfold wpQuiet at h1 ⊢
 have e1 : Region.wanted ⟨dst, op, ty, pos, aft, none⟩ (yielded ops a.tmps) = true := rfl
 have e2 : Region.wanted ⟨dst, op, ty, pos, aft, some (j, b)⟩ (yielded ops a.tmps) = true := by simp [Region.wanted, hy, hc]
 rw [if_pos e1] at h1
 rw [if_pos e2]
 exact h1
theorem WQ.no {j dj d : Nat} {b c : Bool} {op : Op} {ty : TypeId} {pos : String} {aft : Array Edge} (hj : (ops[j]?).bind (·.dst) = some dj) (hget : get env dj = some (.bool c)) (hc : c = !b) (hn : Nat.blt d n = true)
  (h : WQ P n ops Q w rest ((d, undef) :: env)) : WQ P n ops Q w (⟨some d, op, ty, pos, aft, some (j, b)⟩ :: rest) env := by
 intro a ha
 have hy : yielded ops a.tmps j = some c := by
  have := ha.get dj _ hget
  simp [yielded, hj, this]
 unfold wpQuiet
 have e2 : Region.wanted ⟨some d, op, ty, pos, aft, some (j, b)⟩ (yielded ops a.tmps) = false := by simp [Region.wanted, hy, hc]
 rw [if_neg (by rw [e2]; simp)]
 exact h _ (ha.put hn)
theorem WQ.noU {j dj d : Nat} {b : Bool} {op : Op} {ty : TypeId} {pos : String} {aft : Array Edge} (hj : (ops[j]?).bind (·.dst) = some dj) (hget : get env dj = some undef) (hn : Nat.blt d n = true)
  (h : WQ P n ops Q w rest ((d, undef) :: env)) : WQ P n ops Q w (⟨some d, op, ty, pos, aft, some (j, b)⟩ :: rest) env := by
 intro a ha
 have hy : yielded ops a.tmps j = none := by
  have := ha.get dj _ hget
  simp [yielded, hj, this, undef]
 unfold wpQuiet
 have e2 : Region.wanted ⟨some d, op, ty, pos, aft, some (j, b)⟩ (yielded ops a.tmps) = false := by simp [Region.wanted, hy]
 rw [if_neg (by rw [e2]; simp)]
 exact h _ (ha.put hn)
theorem WQ.nil (h : ∀ w', Ext w w' → WX n .normal Q env w') : WQ P n ops Q w [] env := fun a ha w' hw' => h w' hw' a ha
theorem WQ.cases {p : Prop} {l : List Oper} (h1 : p → WQ P n ops Q w l env) (h2 : ¬ p → WQ P n ops Q w l env) : WQ P n ops Q w l env := by
 by_cases h : p
 · exact h1 h
 · exact h2 h
theorem WQ.sub {env' : Env} {l : List Oper} (hs : Sub env' env) (h : WQ P n ops Q w l env') : WQ P n ops Q w l env := fun a ha => h a (ha.sub hs)
end
def NQ (Q : Exit → Act → World → Prop) : Exit → Act → World → Prop
 | .normal, a, w => Q .normal a w
 | _, _, _ => False
def wpAnyC (P : Program) (md : Region.Mode) (ops : Array Oper) (Q : Exit → Act → World → Prop) (S : World → Prop) (L : List Nat) : Nat → Array Bool → Act → World → Prop
 | 0, listed, a, w => Region.ready md ops listed = [] ∧ Q .normal a w
 | fuel + 1, listed, a, w =>
  (Region.ready md ops listed = [] → Q .normal a w) ∧
  ∀ i ∈ Region.ready md ops listed, wpOp P ops Q i (fun a' w' => (i ∉ L → S w → S w') ∧ wpAnyC P md ops Q S L fuel (listed.setIfInBounds i true) a' w') a w
def waitsFor (md : Region.Mode) (ops : Array Oper) (i j : Nat) : Bool := match ops[j]? with
 | none => true
 | some o => o.after.any fun e => Region.binds md e && e.on == i
section
variable {P : Program} {n : Nat} {ops : Array Oper} {Q : Exit → Act → World → Prop} {md : Region.Mode} {S : World → Prop} {L : List Nat}
theorem wpAny_of_c : ∀ (fuel : Nat) (listed : Array Bool) (a : Act) (w : World), wpAnyC P md ops Q S L fuel listed a w → wpAny P md ops Q fuel listed a w
 | 0, _, _, _, h => h
 | fuel + 1, _, _, _, h => ⟨h.1, fun i hi => wpOp_mono (fun a' w' h' => wpAny_of_c fuel _ a' w' h'.2) (h.2 i hi)⟩
theorem wpAnyC_first {i : Nat} {oi : Oper} {v : Value} (hi : ops[i]? = some oi) (hsel : ∀ (j : Nat) (o : Oper) cs b, ops[j]? = some o → o.op ≠ .select cs b)
  (hQ : ∀ c a w, Q (.panic c) (a.put oi.dst v) w → Q (.panic c) a w) (hL : ∀ j ∈ L, waitsFor md ops i j = true) (hiL : i ∉ L) :
  ∀ (fuel : Nat) (listed : Array Bool) (a : Act) (w : World),
   (∀ j oj, ops[j]? = some oj → j ≠ i → listed.getD j true = false → (∀ e ∈ oj.after, Region.binds md e = true → e.on ≠ i) → oi.apart ops oj = true) →
   i ∈ Region.ready md ops listed → YieldsIf P ops S oi v a → S w →
   wpAnyC P md ops Q S L fuel (listed.setIfInBounds i true) (a.put oi.dst v) w → wpAnyC P md ops Q S L (fuel + 1) listed a w := by
 intro fuel
 induction fuel with
 | zero =>
  intro listed a w _ hr hy hS H
  refine ⟨fun h => (by rw [h] at hr; cases hr), fun j hj => ?_⟩
  by_cases hji : j = i
  · subst hji; exact hy.wpOp hi hS ⟨fun _ _ => hS, H⟩
  ·
   have := ready_mono hj hji
   rw [H.1] at this
   cases this
 | succ fuel ih =>
  intro listed a w hfree hr hy hS H
  refine ⟨fun h => (by rw [h] at hr; cases hr), fun j hj => ?_⟩
  by_cases hji : j = i
  · subst hji; exact hy.wpOp hi hS ⟨fun _ _ => hS, H⟩
  ·
   have h1 := H.2 j (ready_mono hj hji)
   obtain ⟨hjun, oj, hoj, hall⟩ := mem_ready.1 hj
   have hnot : ∀ e ∈ oj.after, Region.binds md e = true → e.on ≠ i := by
    intro e he hb heq
    have h2 := hall e he hb
    have h0 := (mem_ready.1 hr).1
    rw [heq] at h2
    rcases Nat.lt_or_ge i listed.size with h' | h'
    · simp [h'] at h0 h2; rw [h0] at h2; cases h2
    · simp [Array.getElem?_eq_none h'] at h2
   have hjL : j ∉ L := by
    intro hjL
    have := hL j hjL
    unfold waitsFor at this
    rw [hoj] at this
    obtain ⟨e, he, hb⟩ := Array.any_eq_true'.1 this
    simp only [Bool.and_eq_true, beq_iff_eq] at hb
    exact hnot e he hb.1 hb.2
   have h2 := wpOp_putIf hoj (hfree j oj hoj hji hjun hnot) (fun cs b => hsel i oi cs b hi) (fun cs b => hsel j oj cs b hoj) hQ hy h1
   have hfree' : ∀ k ok, ops[k]? = some ok → k ≠ i → (listed.setIfInBounds j true).getD k true = false →
     (∀ e ∈ ok.after, Region.binds md e = true → e.on ≠ i) → oi.apart ops ok = true := by
    intro k ok hk hki hun hno
    refine hfree k ok hk hki ?_ hno
    by_cases hjk : j = k
    · subst hjk; exact hjun
    · rw [getD_set_ne true hjk] at hun; exact hun
   refine wpOp_mono (fun a' w' h3 => ⟨h3.2.1, ih (listed.setIfInBounds j true) a' w' hfree' (ready_mono hr (Ne.symm hji)) h3.1 (h3.2.1 hjL hS) ?_⟩) h2
   rw [Array.setIfInBounds_comm _ _ hji]
   exact h3.2.2
theorem wpAnyC_firstW {i : Nat} {oi : Oper} {v : Value} (hi : ops[i]? = some oi) (hsel : ∀ (j : Nat) (o : Oper) cs b, ops[j]? = some o → o.op ≠ .select cs b)
  (hQ : ∀ c a w, Q (.panic c) (a.put oi.dst v) w → Q (.panic c) a w) :
  ∀ (fuel : Nat) (listed : Array Bool) (a : Act) (w : World),
   (∀ j oj, ops[j]? = some oj → j ≠ i → listed.getD j true = false → (∀ e ∈ oj.after, Region.binds md e = true → e.on ≠ i) → oi.apart ops oj = true) →
   i ∈ Region.ready md ops listed → YieldsIf P ops (fun _ => True) oi v a →
   wpAnyC P md ops Q S L fuel (listed.setIfInBounds i true) (a.put oi.dst v) w → wpAnyC P md ops Q S L (fuel + 1) listed a w := by
 intro fuel
 induction fuel with
 | zero =>
  intro listed a w _ hr hy H
  refine ⟨fun h => (by rw [h] at hr; cases hr), fun j hj => ?_⟩
  by_cases hji : j = i
  · subst hji; exact hy.wpOp hi trivial ⟨fun _ h => h, H⟩
  ·
   have := ready_mono hj hji
   rw [H.1] at this
   cases this
 | succ fuel ih =>
  intro listed a w hfree hr hy H
  refine ⟨fun h => (by rw [h] at hr; cases hr), fun j hj => ?_⟩
  by_cases hji : j = i
  · subst hji; exact hy.wpOp hi trivial ⟨fun _ h => h, H⟩
  ·
   have h1 := H.2 j (ready_mono hj hji)
   obtain ⟨hjun, oj, hoj, hall⟩ := mem_ready.1 hj
   have hnot : ∀ e ∈ oj.after, Region.binds md e = true → e.on ≠ i := by
    intro e he hb heq
    have h2 := hall e he hb
    have h0 := (mem_ready.1 hr).1
    rw [heq] at h2
    rcases Nat.lt_or_ge i listed.size with h' | h'
    · simp [h'] at h0 h2; rw [h0] at h2; cases h2
    · simp [Array.getElem?_eq_none h'] at h2
   have h2 := wpOp_putIf hoj (hfree j oj hoj hji hjun hnot) (fun cs b => hsel i oi cs b hi) (fun cs b => hsel j oj cs b hoj) hQ hy h1
   have hfree' : ∀ k ok, ops[k]? = some ok → k ≠ i → (listed.setIfInBounds j true).getD k true = false →
     (∀ e ∈ ok.after, Region.binds md e = true → e.on ≠ i) → oi.apart ops ok = true := by
    intro k ok hk hki hun hno
    refine hfree k ok hk hki ?_ hno
    by_cases hjk : j = k
    · subst hjk; exact hjun
    · rw [getD_set_ne true hjk] at hun; exact hun
   refine wpOp_mono (fun a' w' h3 => ⟨h3.2.1, ih (listed.setIfInBounds j true) a' w' hfree' (ready_mono hr (Ne.symm hji)) h3.1 ?_⟩) h2
   rw [Array.setIfInBounds_comm _ _ hji]
   exact h3.2.2
end
def WD (P : Program) (n : Nat) (ops : Array Oper) (Q : Exit → Act → World → Prop) (S : World → Prop) (L : List Nat) (fuel : Nat) (listed : Array Bool) (env : Env) (w : World) : Prop :=
 ∀ a, Ok n env a → wpAnyC P .any ops (NQ Q) S L fuel listed a w
section
variable {P : Program} {n : Nat} {ops : Array Oper} {Q : Exit → Act → World → Prop} {S : World → Prop} {L : List Nat} {env : Env} {w : World} {fuel : Nat} {listed : Array Bool} {v : Value} {o : Oper}
theorem WC.draw {id : Nat} {l : List Oper} (S : World → Prop) (L : List Nat) (hm : P.follows .mixedOrders = true) (h : ∀ w', Ext w w' → w'.heap = w.heap → WD P n l.toArray Q S L l.length (Array.replicate l.length false) env w') : WC P n (.region id l.toArray true) Q env w := by
 intro a ha
 refine Code.wp_mono ?_ (wp_region_any (id := id) (Q := NQ Q) (ops := l.toArray) hm (wpAny_of_c (S := S) (L := L) _ _ _ _ ?_))
 ·
  intro e a w hq
  cases e <;> first | exact hq | exact hq.elim
 ·
  have := h w.drew (Keep.drew w) rfl a ha
  simpa using this
theorem WD.done (hr : Region.ready .any ops listed = []) (h : WX n .normal Q env w) : ∀ fuel, WD P n ops Q S L fuel listed env w
 | 0 => fun a ha => ⟨hr, h a ha⟩
 | _ + 1 => fun a ha => ⟨fun _ => h a ha, by rw [hr]; simp⟩
theorem WD.take (i : Nat) {d : Nat} (hi : ops[i]? = some o) (hs : (Region.noSelect ops && Region.free .any ops listed i && (Region.ready .any ops listed).contains i && L.all (waitsFor .any ops i) && !L.contains i) = true)
  (hg : o.guard = none) (hd : o.dst = some d) (hn : Nat.blt d n = true) (hS : S w) (hr : ∀ w', S w' → Runs P o env w' v w') (h : WD P n ops Q S L fuel (listed.setIfInBounds i true) ((d, v) :: env) w) : WD P n ops Q S L (fuel + 1) listed env w := by
 intro a ha
 simp only [Bool.and_eq_true, Bool.not_eq_true'] at hs
 obtain ⟨⟨⟨⟨h1, h2⟩, h3⟩, h4⟩, h5⟩ := hs
 refine wpAnyC_first hi (Region.noSelect_spec h1) (fun _ _ _ h => h) (by simpa using h4) (by simpa using h5) fuel listed a w (Region.free_spec hi h2) (by simpa using h3) (v := v) ?_ hS ?_
 · exact .inl ⟨by simp [Region.wanted, hg], fun w' hw' => hr w' hw' n a ha⟩
 · rw [hd]; exact h _ (ha.put hn)
theorem WD.takeW (i : Nat) {d : Nat} (hi : ops[i]? = some o) (hs : (Region.noSelect ops && Region.free .any ops listed i && (Region.ready .any ops listed).contains i) = true)
  (hg : o.guard = none) (hd : o.dst = some d) (hn : Nat.blt d n = true) (hr : ∀ w', Runs P o env w' v w') (h : WD P n ops Q S L fuel (listed.setIfInBounds i true) ((d, v) :: env) w) : WD P n ops Q S L (fuel + 1) listed env w := by
 intro a ha
 simp only [Bool.and_eq_true] at hs
 obtain ⟨⟨h1, h2⟩, h3⟩ := hs
 refine wpAnyC_firstW hi (Region.noSelect_spec h1) (fun _ _ _ h => h) fuel listed a w (Region.free_spec hi h2) (by simpa using h3) (v := v) ?_ ?_
 · exact .inl ⟨by simp [Region.wanted, hg], fun w' _ => hr w' n a ha⟩
 · rw [hd]; exact h _ (ha.put hn)
theorem mk_wpOp {i : Nat} {K : Act → World → Prop} {Q : Exit → Act → World → Prop} {a : Act} (hi : ops[i]? = some o) (hg : o.guard = none) (h : o.wp P a w K Q) : wpOp P ops Q i K a w := by
 unfold wpOp
 simp only [hi]
 rw [if_pos (by simp [Region.wanted, hg])]
 exact .inl h
theorem WD.mem (i : Nat) {d : Nat} {R : Value → World → Prop} (hi : ops[i]? = some o) (hr : Region.ready .any ops listed = [i]) (hg : o.guard = none) (hd : o.dst = some d) (hn : Nat.blt d n = true)
  (hm : Makes P o env w R) (h : ∀ v w', R v w' → (i ∉ L → S w') ∧ WD P n ops Q S L fuel (listed.setIfInBounds i true) ((d, v) :: env) w') : WD P n ops Q S L (fuel + 1) listed env w := by
 intro a ha
 refine ⟨fun h0 => (by rw [hr] at h0; cases h0), fun j hj => ?_⟩
 rw [hr] at hj
 have : j = i := by simpa using hj
 subst this
 obtain ⟨v, w', hrun, hR⟩ := hm
 refine mk_wpOp hi hg ?_
 unfold Oper.wp
 rw [hrun n a ha, Oper.upon_value, hd]
 exact ⟨fun h0 _ => (h v w' hR).1 h0, (h v w' hR).2 _ (ha.put hn)⟩
theorem WD.mem0 (i : Nat) {R : World → Prop} (hi : ops[i]? = some o) (hr : Region.ready .any ops listed = [i]) (hg : o.guard = none) (hd : o.dst = none)
  (hm : Makes0 P o env w R) (h : ∀ w', R w' → (i ∉ L → S w') ∧ WD P n ops Q S L fuel (listed.setIfInBounds i true) env w') : WD P n ops Q S L (fuel + 1) listed env w := by
 intro a ha
 refine ⟨fun h0 => (by rw [hr] at h0; cases h0), fun j hj => ?_⟩
 rw [hr] at hj
 have : j = i := by simpa using hj
 subst this
 obtain ⟨w', hrun, hR⟩ := hm
 refine mk_wpOp hi hg ?_
 unfold Oper.wp
 rw [hrun n a ha, Oper.upon_skip, hd]
 exact ⟨fun h0 _ => (h w' hR).1 h0, (h w' hR).2 _ ha.put0⟩
theorem WD.op (i : Nat) {d : Nat} (hi : ops[i]? = some o) (hr : Region.ready .any ops listed = [i]) (hg : o.guard = none) (hd : o.dst = some d) (hn : Nat.blt d n = true)
  (hm : Runs P o env w v w) (hS : S w) (h : WD P n ops Q S L fuel (listed.setIfInBounds i true) ((d, v) :: env) w) : WD P n ops Q S L (fuel + 1) listed env w :=
 WD.mem (R := fun u w' => u = v ∧ w' = w) i hi hr hg hd hn ⟨v, w, hm, rfl, rfl⟩ (by rintro u w' ⟨rfl, rfl⟩; exact ⟨fun _ => hS, h⟩)
theorem WD.call (i : Nat) {d : Nat} {f : FuncId} {args : Array Value} {R : Value → World → Prop} (hi : ops[i]? = some o) (hr : Region.ready .any ops listed = [i]) (hg : o.guard = none) (hd : o.dst = some d) (hn : Nat.blt d n = true)
  (hm : RunsF P o env w f args) (hc : Calls P f args w (fun e w' => ∃ v, e = .returned v ∧ R v w')) (h : ∀ v w', R v w' → (i ∉ L → S w') ∧ WD P n ops Q S L fuel (listed.setIfInBounds i true) ((d, v) :: env) w') : WD P n ops Q S L (fuel + 1) listed env w := by
 intro a ha
 refine ⟨fun h0 => (by rw [hr] at h0; cases h0), fun j hj => ?_⟩
 rw [hr] at hj
 have : j = i := by simpa using hj
 subst this
 refine mk_wpOp hi hg ?_
 unfold Oper.wp
 rw [hm n a ha, Oper.upon_enter]
 refine hc.mono ?_
 rintro e w' ⟨v, rfl, hR⟩
 simp only [hd]
 exact ⟨fun h0 _ => (h v w' hR).1 h0, (h v w' hR).2 _ (ha.put hn)⟩
end
abbrev Rel (α : Type) := (Nat → Prop) → World → α → List Value → Prop
def SlR {α : Type} (k : Nat) (R : Rel α) (D : Nat → Prop) (w : World) (v : Value) (l : List α) : Prop :=
 ∃ ao cap, v = .slice ao l.length cap ∧ l.length ≤ cap ∧ cap ≤ 9223372036854775807 ∧
  ∀ i x, l[i]? = some x → ∃ b o cs, ao = some ⟨b, o, none⟩ ∧ D b ∧ cs.length = k ∧ Cells w b (o + i * k) cs ∧ R D w x cs
def RInt : Rel Int := fun _ _ x cs => cs = [.int .i64 x]
def RPair : Rel (Int × Int) := fun _ _ p cs => cs = [.int .i64 p.1, .int .i64 p.2]
def RSl {α : Type} (k : Nat) (R : Rel α) : Rel (List α) := fun D w l cs => ∃ v, cs = [v] ∧ SlR k R D w v l
def Stable {α : Type} (R : Rel α) : Prop := ∀ (D D' : Nat → Prop) (w w' : World), (∀ b, D b → D' b) → (∀ b, D b → b < w.heap.size → w'.heap[b]? = w.heap[b]?) → ∀ x cs, R D w x cs → R D' w' x cs
theorem Cells.same {w w' : World} {b o : Nat} {cs : List Value} (h : Cells w b o cs) (hk : b < w.heap.size → w'.heap[b]? = w.heap[b]?) : Cells w' b o cs := by
 intro j v hv
 have h1 := h j v hv
 have hlt := World.block_lt_of_cell? w _ h1
 rw [World.cell?_of_block (w := w) (hk hlt)]
 exact h1
theorem stable_int : Stable RInt := fun _ _ _ _ _ _ _ _ h => h
theorem stable_pair : Stable RPair := fun _ _ _ _ _ _ _ _ h => h
theorem SlR.stable {α : Type} {k : Nat} {R : Rel α} (hR : Stable R) {D D' : Nat → Prop} {w w' : World} (hD : ∀ b, D b → D' b) (hk : ∀ b, D b → b < w.heap.size → w'.heap[b]? = w.heap[b]?) {v : Value} {l : List α} (h : SlR k R D w v l) : SlR k R D' w' v l := by
 obtain ⟨ao, cap, rfl, h1, h2, h3⟩ := h
 refine ⟨ao, cap, rfl, h1, h2, fun i x hx => ?_⟩
 obtain ⟨b, o, cs, ha, hb, hl, hc, hr⟩ := h3 i x hx
 exact ⟨b, o, cs, ha, hD b hb, hl, hc.same (hk b hb), hR D D' w w' hD hk x cs hr⟩
theorem SlR.keep {α : Type} {k : Nat} {R : Rel α} (hR : Stable R) {D S : Nat → Prop} {w w' : World} {v : Value} {l : List α} (h : SlR k R D w v l) (hk : Keep S w w') (hS : ∀ b, D b → b < w.heap.size → ¬ S b) : SlR k R D w' v l :=
 h.stable hR (fun _ h => h) (fun b hb hlt => hk.block b hlt (hS b hb hlt))
theorem SlR.ext {α : Type} {k : Nat} {R : Rel α} (hR : Stable R) {D : Nat → Prop} {w w' : World} {v : Value} {l : List α} (h : SlR k R D w v l) (hk : Ext w w') : SlR k R D w' v l := h.keep hR hk (fun _ _ _ h => h)
theorem SlR.wide {α : Type} {k : Nat} {R : Rel α} (hR : Stable R) {D D' : Nat → Prop} {w : World} {v : Value} {l : List α} (h : SlR k R D w v l) (hD : ∀ b, D b → D' b) : SlR k R D' w v l := h.stable hR hD (fun _ _ _ => rfl)
theorem SlR.nil {α : Type} {k : Nat} {R : Rel α} {D : Nat → Prop} {w : World} : SlR k R D w (.slice none 0 0) ([] : List α) := ⟨none, 0, rfl, Nat.le_refl _, by omega, fun i x h => by simp at h⟩
theorem SlR.ofBlk {α : Type} {k : Nat} {R : Rel α} {D : Nat → Prop} {w : World} {b n cap : Nat} {cs : List Value} {e : TypeId} {l : List α} (hb : Blk w b cs e) (hD : D b) (hn : n = l.length) (hc : l.length ≤ cap) (hm : cap ≤ 9223372036854775807)
  (he : ∀ i x, l[i]? = some x → ∃ us, us.length = k ∧ (∀ j u, us[j]? = some u → cs[i * k + j]? = some u) ∧ R D w x us) : SlR k R D w (.slice (some ⟨b, 0, none⟩) n cap) l := by
 subst hn
 refine ⟨_, _, rfl, hc, hm, fun i x hx => ?_⟩
 obtain ⟨us, h1, h2, h3⟩ := he i x hx
 refine ⟨b, 0, us, rfl, hD, h1, ?_, h3⟩
 exact hb.cells.part (i * k) h2
theorem SlR.ofBlk1 {α : Type} {R : Rel α} {D : Nat → Prop} {w : World} {b n cap : Nat} {cs : List Value} {e : TypeId} {l : List α} (enc : α → Value) (hR : ∀ x, x ∈ l → R D w x [enc x]) (hb : Blk w b cs e) (hD : D b) (hcs : cs.take n = l.map enc) (hn : n = l.length) (hc : l.length ≤ cap) (hm : cap ≤ 9223372036854775807) : SlR 1 R D w (.slice (some ⟨b, 0, none⟩) n cap) l := by
 refine SlR.ofBlk hb hD hn hc hm (fun i x hx => ⟨[enc x], rfl, ?_, hR x (List.mem_of_getElem? hx)⟩)
 intro j u hu
 cases j with
 | zero =>
  simp at hu
  subst hu
  have hlt : i < l.length := (List.getElem?_eq_some_iff.1 hx).1
  have h1 : (cs.take n)[i]? = some (enc x) := by rw [hcs]; simp [hx]
  rw [List.getElem?_take] at h1
  simp only [Nat.mul_one, Nat.add_zero]
  rw [if_pos (by omega)] at h1
  exact h1
 | succ j => simp at hu
theorem SlR.ofRow1 {α : Type} {R : Rel α} {D : Nat → Prop} {w : World} {v : Value} {n : Nat} {e : TypeId} {l : List α} (enc : α → Value) (hR : ∀ x, x ∈ l → R D w x [enc x]) (h : w.ownsRow 0 e 1 v n (l.map enc)) (hD : ∀ g, v.ownBlock = some g → D g) : SlR 1 R D w v l := by
 obtain ⟨h1, h2⟩ := h
 have hn : l.length = n := by simpa using h1
 rcases h2 with ⟨rfl, rfl⟩ | ⟨g, cap, cur, rfl, _, hg, hnc, hcm, _, htake⟩
 ·
  have : l = [] := List.eq_nil_of_length_eq_zero hn
  subst this
  exact SlR.nil
 ·
  have hb : Blk w g cur.toList e := by unfold Blk; simpa using hg
  refine SlR.ofBlk1 enc hR hb (hD g rfl) (by simpa using htake) hn.symm (by omega) (by simpa [maxLen] using hcm)
theorem SlR.ofRowK {α : Type} {k : Nat} {R : Rel α} {D : Nat → Prop} {w : World} {v : Value} {n : Nat} {e : TypeId} {l : List α} (hk : 0 < k) (enc : α → List Value) (hl : ∀ x, (enc x).length = k) (hR : ∀ x, x ∈ l → R D w x (enc x)) (h : w.ownsRow 0 e k v n (l.flatMap enc)) (hD : ∀ g, v.ownBlock = some g → D g) : SlR k R D w v l := by
 have flat : ∀ (l : List α), (l.flatMap enc).length = l.length * k := by
  intro l
  induction l with
  | nil => simp
  | cons x r ih => simp [hl, ih, Nat.add_mul, Nat.add_comm]
 have at' : ∀ (l : List α) (i : Nat) (x : α), l[i]? = some x → ∀ j u, (enc x)[j]? = some u → (l.flatMap enc)[i * k + j]? = some u := by
  intro l
  induction l with
  | nil => intro i x h; simp at h
  | cons y r ih =>
   intro i x hx j u hu
   have hj : j < k := by rw [← hl x]; exact (List.getElem?_eq_some_iff.1 hu).1
   cases i with
   | zero =>
    simp at hx
    subst hx
    simp only [List.flatMap_cons, Nat.zero_mul, Nat.zero_add]
    rw [List.getElem?_append_left (by rw [hl]; exact hj)]
    exact hu
   | succ i =>
    simp only [List.getElem?_cons_succ] at hx
    simp only [List.flatMap_cons]
    rw [List.getElem?_append_right (by rw [hl, Nat.succ_mul]; omega), hl]
    have := ih i x hx j u hu
    rw [show (i + 1) * k + j - k = i * k + j from by rw [Nat.succ_mul]; omega]
    exact this
 obtain ⟨h1, h2⟩ := h
 have hn : l.length = n := by
  rw [flat] at h1
  exact Nat.eq_of_mul_eq_mul_right hk h1
 rcases h2 with ⟨rfl, rfl⟩ | ⟨g, cap, cur, rfl, _, hg, hnc, hcm, _, htake⟩
 ·
  have : l = [] := List.eq_nil_of_length_eq_zero hn
  subst this
  exact SlR.nil
 ·
  have hb : Blk w g cur.toList e := by unfold Blk; simpa using hg
  refine SlR.ofBlk hb (hD g rfl) hn.symm (by omega) (by simpa [maxLen] using hcm) (fun i x hx => ⟨enc x, hl x, ?_, hR x (List.mem_of_getElem? hx)⟩)
  intro j u hu
  have h3 := at' l i x hx j u hu
  rw [← htake, List.getElem?_take] at h3
  split at h3
  · exact h3
  · cases h3
theorem own_keep {w w' : World} {S : Nat → Prop} {e : TypeId} {k : Nat} {v : Value} {n : Nat} {xs : List Value} (h : w.ownsRow 0 e k v n xs) (hk : Keep S w w') (hS : ∀ g, v.ownBlock = some g → ¬ S g) : w'.ownsRow 0 e k v n xs := by
 obtain ⟨h1, h2⟩ := h
 refine ⟨h1, ?_⟩
 rcases h2 with h2 | ⟨g, cap, cur, rfl, hb, hg, r⟩
 · exact .inl h2
 ·
  refine .inr ⟨g, cap, cur, rfl, hb, ?_, r⟩
  rw [hk.block g (Array.getElem?_eq_some_iff.1 hg).1 (hS g rfl)]
  exact hg
theorem own_lt {w : World} {e : TypeId} {k : Nat} {v : Value} {n : Nat} {xs : List Value} (h : w.ownsRow 0 e k v n xs) {g : Nat} (hg : v.ownBlock = some g) : g < w.heap.size := (World.ownsRow.lt h g hg).2
theorem own_blk {w : World} {b n cap : Nat} {cs : List Value} {e : TypeId} {k : Nat} (h : Blk w b cs e) (hn : n ≤ cap) (hc : cap ≤ 9223372036854775807) (hl : cs.length = cap * k) : w.ownsRow 0 e k (.slice (some ⟨b, 0, none⟩) n cap) n (cs.take (n * k)) := by
 refine ⟨by rw [List.length_take, hl]; exact Nat.min_eq_left (Nat.mul_le_mul_right _ hn), .inr ⟨b, cap, cs.toArray, rfl, Nat.zero_le _, h, hn, by simpa [maxLen] using hc, by simpa using hl, by simp⟩⟩
theorem own_form {w : World} {e : TypeId} {k : Nat} {v : Value} {n : Nat} {xs : List Value} (h : w.ownsRow 0 e k v n xs) : ∃ ao c, v = .slice ao n c := by
 rcases h.2 with ⟨rfl, rfl⟩ | ⟨g, cap, cur, rfl, _⟩ <;> exact ⟨_, _, rfl⟩
theorem own_nil (w : World) (e : TypeId) (k : Nat) : w.ownsRow 0 e k (.slice none 0 0) 0 [] := World.ownsRow_nil w 0 e k
section
variable {α : Type} {c : Nat} {enc : α → List Value}
theorem flat_len (hc : ∀ x, (enc x).length = c) : ∀ (L : List α), (L.flatMap enc).length = L.length * c
 | [] => by simp
 | x :: r => by simp [hc, flat_len hc r, Nat.add_mul, Nat.add_comm]
theorem flat_take (hc : ∀ x, (enc x).length = c) : ∀ (k : Nat) (L : List α), (L.flatMap enc).take (k * c) = (L.take k).flatMap enc
 | 0, L => by simp
 | k + 1, [] => by simp
 | k + 1, x :: r => by
  rw [List.take_succ_cons, List.flatMap_cons, List.flatMap_cons, Nat.succ_mul, Nat.add_comm, List.take_append, hc]
  rw [List.take_of_length_le (by rw [hc]; omega), show c + k * c - c = k * c from by omega, flat_take hc k r]
theorem flat_drop (hc : ∀ x, (enc x).length = c) : ∀ (k : Nat) (L : List α), (L.flatMap enc).drop (k * c) = (L.drop k).flatMap enc
 | 0, L => by simp
 | k + 1, [] => by simp
 | k + 1, x :: r => by
  rw [List.drop_succ_cons, List.flatMap_cons, Nat.succ_mul, Nat.add_comm, List.drop_append, hc]
  rw [List.drop_of_length_le (by rw [hc]; omega), show c + k * c - c = k * c from by omega, flat_drop hc k r, List.nil_append]
theorem flat_set (hc : ∀ x, (enc x).length = c) {L : List α} {k : Nat} (hk : k < L.length) (x : α) (sp : List Value) :
  (L.flatMap enc ++ sp).take (k * c) ++ enc x ++ (L.flatMap enc ++ sp).drop (k * c + c) = (L.set k x).flatMap enc ++ sp := by
 have hl := flat_len hc L
 have h1 : (k + 1) * c ≤ L.length * c := Nat.mul_le_mul_right _ hk
 have h2 : (k + 1) * c = k * c + c := Nat.succ_mul _ _
 rw [List.take_append_of_le_length (by omega), List.drop_append_of_le_length (by omega), flat_take hc, ← h2, flat_drop hc]
 rw [List.set_eq_take_append_cons_drop, if_pos hk]
 simp
theorem own_open (hc : ∀ x, (enc x).length = c) (hc0 : 0 < c) {w : World} {e : TypeId} {v : Value} {n : Nat} {L : List α} (h : w.ownsRow 0 e c v n (L.flatMap enc)) (hL : L ≠ []) :
  ∃ g cap sp, v = .slice (some ⟨g, 0, none⟩) n cap ∧ n = L.length ∧ n ≤ cap ∧ cap ≤ 9223372036854775807 ∧ Blk w g (L.flatMap enc ++ sp) e ∧ (L.flatMap enc ++ sp).length = cap * c := by
 obtain ⟨h1, h2⟩ := h
 have hn : L.length = n := by
  rw [flat_len hc] at h1
  exact Nat.eq_of_mul_eq_mul_right hc0 h1
 rcases h2 with ⟨_, rfl⟩ | ⟨g, cap, cur, rfl, _, hg, hnc, hcm, hcs, htake⟩
 · exact absurd (List.eq_nil_of_length_eq_zero hn) hL
 ·
  refine ⟨g, cap, cur.toList.drop (n * c), rfl, hn.symm, hnc, by simpa [maxLen] using hcm, ?_, ?_⟩
  ·
   rw [← htake, List.take_append_drop]
   unfold Blk
   simpa using hg
  ·
   rw [← htake, List.take_append_drop]
   simpa using hcs
theorem own_shut (hc : ∀ x, (enc x).length = c) {w : World} {e : TypeId} {g cap k : Nat} {L : List α} {sp : List Value} (hb : Blk w g (L.flatMap enc ++ sp) e) (hl : (L.flatMap enc ++ sp).length = cap * c) (hk : k ≤ L.length) (hkc : k ≤ cap) (hm : cap ≤ 9223372036854775807) :
  w.ownsRow 0 e c (.slice (some ⟨g, 0, none⟩) k cap) k ((L.take k).flatMap enc) := by
 have h := own_blk (k := c) hb hkc hm hl
 have h1 : k * c ≤ L.length * c := Nat.mul_le_mul_right _ hk
 rw [List.take_append_of_le_length (by rw [flat_len hc]; exact h1), flat_take hc] at h
 exact h
end
section
variable {α : Type} {f : α → Value}
theorem map_flat (l : List α) : l.map f = l.flatMap (fun x => [f x]) := by
 induction l with
 | nil => rfl
 | cons x r ih => simp [ih]
theorem own_open1 {w : World} {e : TypeId} {v : Value} {n : Nat} {L : List α} (h : w.ownsRow 0 e 1 v n (L.map f)) (hL : L ≠ []) :
  ∃ g cap sp, v = .slice (some ⟨g, 0, none⟩) n cap ∧ n = L.length ∧ n ≤ cap ∧ cap ≤ 9223372036854775807 ∧ Blk w g (L.map f ++ sp) e ∧ (L.map f ++ sp).length = cap := by
 rw [map_flat] at h
 obtain ⟨g, cap, sp, h1, h2, h3, h4, h5, h6⟩ := own_open (c := 1) (fun _ => rfl) (by decide) h hL
 rw [← map_flat] at h5 h6
 exact ⟨g, cap, sp, h1, h2, h3, h4, h5, by rw [h6, Nat.mul_one]⟩
theorem own_shut1 {w : World} {e : TypeId} {g cap : Nat} {L : List α} {sp : List Value} (hb : Blk w g (L.map f ++ sp) e) (hl : (L.map f ++ sp).length = cap) (hm : cap ≤ 9223372036854775807) :
  w.ownsRow 0 e 1 (.slice (some ⟨g, 0, none⟩) L.length cap) L.length (L.map f) := by
 have h := own_blk (k := 1) (n := L.length) hb (by rw [← hl]; simp) hm (by rw [hl, Nat.mul_one])
 rw [Nat.mul_one, List.take_append_of_le_length (by simp), List.take_of_length_le (by simp)] at h
 exact h
theorem own_len1 {w : World} {e : TypeId} {v : Value} {n : Nat} {L : List α} (h : w.ownsRow 0 e 1 v n (L.map f)) : n = L.length := by
 have := h.1
 simpa using this.symm
end
structure Mat {α : Type} (enc : α → Value) (e eo : TypeId) (B : Nat) (w : World) (bo : Nat) (rv : List Value) (rows : List (List α)) : Prop where
 out : Blk w bo rv eo
 len : rv.length = rows.length
 row : ∀ (i : Nat) (v : Value) (r : List α), rv[i]? = some v → rows[i]? = some r → w.ownsRow 0 e 1 v r.length (r.map enc)
 far : ∀ (i : Nat) (v : Value) (g : Nat), rv[i]? = some v → v.ownBlock = some g → B ≤ g ∧ g ≠ bo
 apart : ∀ (i j : Nat) (vi vj : Value) (g : Nat), i ≠ j → rv[i]? = some vi → rv[j]? = some vj → vi.ownBlock = some g → vj.ownBlock ≠ some g
section
variable {α : Type} {enc : α → Value} {e eo : TypeId} {B : Nat} {w w' w1 w2 : World} {bo : Nat} {rv : List Value} {rows : List (List α)}
theorem Mat.keep {S : Nat → Prop} (h : Mat enc e eo B w bo rv rows) (hk : Keep S w w') (hbo : ¬ S bo) (hS : ∀ (i : Nat) v g, rv[i]? = some v → v.ownBlock = some g → ¬ S g) : Mat enc e eo B w' bo rv rows :=
 ⟨hk.blk h.out hbo, h.len, fun i v r hv hr => own_keep (h.row i v r hv hr) hk (fun g hg => hS i v g hv hg), h.far, h.apart⟩
theorem Mat.ext (h : Mat enc e eo B w bo rv rows) (hk : Ext w w') : Mat enc e eo B w' bo rv rows := h.keep hk (fun h => h) (fun _ _ _ _ _ h => h)
theorem Mat.at (h : Mat enc e eo B w bo rv rows) {i : Nat} (hi : i < rows.length) : ∃ v r, rv[i]? = some v ∧ rows[i]? = some r :=
 ⟨_, _, List.getElem?_eq_getElem (by rw [h.len]; exact hi), List.getElem?_eq_getElem hi⟩
theorem Mat.blk (h : Mat enc e eo B w bo rv rows) {i : Nat} {v : Value} {g : Nat} (hv : rv[i]? = some v) (hg : v.ownBlock = some g) : g < w.heap.size := by
 have hi : i < rows.length := by rw [← h.len]; exact (List.getElem?_eq_some_iff.1 hv).1
 exact own_lt (h.row i v _ hv (List.getElem?_eq_getElem hi)) hg
theorem Mat.push (h : Mat enc e eo B w bo rv rows) (hB : B ≤ w.heap.size) {i : Nat} {v v' : Value} {r : List α} {x : α} (hv : rv[i]? = some v) (_hr : rows[i]? = some r)
  (hown : w1.ownsRow 0 e 1 v' (r.length + 1) (r.map enc ++ [enc x])) (hfr : v'.ownBlock = v.ownBlock ∨ ∃ g, v'.ownBlock = some g ∧ w.heap.size ≤ g) (hk : Keep (fun q => v.ownBlock = some q) w w1)
  (hst : Wrote w1 bo (rv.set i v') eo w2) : Mat enc e eo B w2 bo (rv.set i v') (rows.set i (r ++ [x])) := by
 obtain ⟨hs2, hB2, hk2⟩ := hst
 have hbo := h.out.lt
 have hnew : ∀ g, v'.ownBlock = some g → B ≤ g ∧ g ≠ bo ∧ (v.ownBlock = some g ∨ w.heap.size ≤ g) := by
  intro g hg
  rcases hfr with h1 | ⟨g', h1, h2⟩
  ·
   rw [h1] at hg
   have := h.far i v g hv hg
   exact ⟨this.1, this.2, .inl hg⟩
  ·
   rw [h1] at hg
   cases hg
   exact ⟨by omega, by omega, .inr h2⟩
 have hi : i < rv.length := (List.getElem?_eq_some_iff.1 hv).1
 refine ⟨hB2, by simp [h.len], ?_, ?_, ?_⟩
 ·
  intro j u s hu hs
  by_cases hij : i = j
  ·
   subst hij
   rw [List.getElem?_set_self hi] at hu
   rw [List.getElem?_set_self (by rw [← h.len]; exact hi)] at hs
   cases hu; cases hs
   have h1 := own_keep hown hk2 (fun g hg h => by have := (hnew g hg).2.1; exact this h)
   simpa using h1
  ·
   rw [List.getElem?_set_ne hij] at hu hs
   have h1 := h.row j u s hu hs
   have h2 := own_keep h1 hk (fun g hg hv' => h.apart i j v u g hij hv hu hv' hg)
   exact own_keep h2 hk2 (fun g hg h' => (h.far j u g hu hg).2 h')
 ·
  intro j u g hu hg
  by_cases hij : i = j
  ·
   subst hij
   rw [List.getElem?_set_self hi] at hu
   cases hu
   exact ⟨(hnew g hg).1, (hnew g hg).2.1⟩
  ·
   rw [List.getElem?_set_ne hij] at hu
   exact h.far j u g hu hg
 ·
  intro j k u s g hjk hu hs hg hg'
  by_cases hij : i = j
  ·
   subst hij
   rw [List.getElem?_set_self hi] at hu
   rw [List.getElem?_set_ne hjk] at hs
   cases hu
   rcases (hnew g hg).2.2 with h1 | h1
   · exact h.apart i k v s g hjk hv hs h1 hg'
   · have := h.blk hs hg'; omega
  ·
   rw [List.getElem?_set_ne hij] at hu
   by_cases hik : i = k
   ·
    subst hik
    rw [List.getElem?_set_self hi] at hs
    cases hs
    rcases (hnew g hg').2.2 with h1 | h1
    · exact h.apart i j v u g hij hv hu h1 hg
    · have := h.blk hu hg; omega
   ·
    rw [List.getElem?_set_ne hik] at hs
    exact h.apart j k u s g hjk hu hs hg hg'
theorem Mat.sl {R : Rel α} {D : Nat → Prop} (h : Mat enc e eo B w bo rv rows) (hR : ∀ x, R D w x [enc x]) (hbo : D bo) (hD : ∀ (i : Nat) v g, rv[i]? = some v → v.ownBlock = some g → D g) {n cap : Nat} (hn : n = rows.length) (hc : rows.length ≤ cap) (hm : cap ≤ 9223372036854775807) : SlR 1 (RSl 1 R) D w (.slice (some ⟨bo, 0, none⟩) n cap) rows := by
 refine SlR.ofBlk h.out hbo hn hc hm (fun i r hr => ?_)
 have hi : i < rows.length := (List.getElem?_eq_some_iff.1 hr).1
 obtain ⟨v, r', hv, hr'⟩ := h.at hi
 rw [hr] at hr'
 cases hr'
 refine ⟨[v], rfl, ?_, v, rfl, ?_⟩
 ·
  intro j u hu
  cases j with
  | zero => simp at hu; subst hu; simpa using hv
  | succ j => simp at hu
 · exact SlR.ofRow1 enc (fun x _ => hR x) (h.row i v r hv hr) (fun g hg => hD i v g hv hg)
theorem Mat.start {n : Nat} (hb : Blk w bo (List.replicate n (.slice none 0 0)) eo) : Mat enc e eo B w bo (List.replicate n (.slice none 0 0)) (List.replicate n ([] : List α)) := by
 have hnil : ∀ (i : Nat) v, (List.replicate n (Value.slice none 0 0))[i]? = some v → v = .slice none 0 0 := by
  intro i v hv
  have := List.mem_of_getElem? hv
  exact List.eq_of_mem_replicate this
 refine ⟨hb, by simp, ?_, ?_, ?_⟩
 ·
  intro i v r hv hr
  have h1 := hnil i v hv
  have h2 := List.eq_of_mem_replicate (List.mem_of_getElem? hr)
  subst h1; subst h2
  exact own_nil _ _ _
 ·
  intro i v g hv hg
  rw [hnil i v hv] at hg; simp [Value.ownBlock] at hg
 ·
  intro i j vi vj g _ hvi _ hg
  rw [hnil i vi hvi] at hg; simp [Value.ownBlock] at hg
end
section
variable {P : Program} {env : Env} {w : World} {dst : Option Tmp} {ty : TypeId} {pos : String} {aft : Array Edge} {g : Option (Nat × Bool)}
theorem R.cutHi {t e : TypeId} {k : Nat} {x hi : Operand} {ao : Option Addr} {l c : Nat} {kd : IntKind} {i : Int} (hu : ∀ w, (underlying t).run P w = .ok (.slice e) w) (hs : ∀ w, (sizeOf e).run P w = .ok k w) (hx : ev env x = some (.slice ao l c)) (hy : ev env hi = some (.int kd i)) (h0 : 0 ≤ i ∧ i ≤ c) :
  Runs P ⟨dst, .slice t x none (some hi) none, ty, pos, aft, g⟩ env w (.slice ao i.toNat c) w := by
 have h := R.sliceHi (dst := dst) (ty := ty) (pos := pos) (aft := aft) (g := g) (w := w) hu hs hx hy h0
 have e1 : (if c = 0 then ao else ao.map (·.add (0 * k))) = ao := by
  cases ao <;> simp [Addr.add]
 rwa [e1] at h
theorem M.buildSlice0 {t e : TypeId} {k : Nat} (hu : ∀ w, (underlying t).run P w = .ok (.slice e) w) (hs : ∀ w, (sizeOf e).run P w = .ok k w) :
  Makes P ⟨dst, .buildSlice t 0 #[], ty, pos, aft, g⟩ env w (fun u w' => ∃ b, u = .slice (some ⟨b, 0, none⟩) 0 0 ∧ New w [] e b w') := by
 refine ⟨.slice (some ⟨w.heap.size, 0, none⟩) 0 0, w.alloc (.cells #[] e), ?_, _, rfl, New.mk w [] e⟩
 intro n a ha
 have e1 : Array.range 0 = #[] := rfl
 simp [execOp, Instr.buildSlice, hu, hs, Instr.fill, newRow, e1]
theorem run_storeCells_blk {b : Nat} {e : TypeId} : ∀ (us : List Value) (o i : Nat) (w : World) (cs : List Value), (∀ u ∈ us, u.oneCell' = true) → Blk w b cs e → o + i + us.length ≤ cs.length →
   ∃ w', (storeCells ⟨b, o, none⟩ us i).run P w = .ok () w' ∧ Wrote w b (cs.take (o + i) ++ us ++ cs.drop (o + i + us.length)) e w' := by
 intro us
 induction us with
 | nil =>
  intro o i w cs _ hb _
  refine ⟨w, by simp [storeCells], rfl, ?_, Keep.refl _ _⟩
  simpa using hb
 | cons u r ih =>
  intro o i w cs h1 hb hl
  simp only [List.length_cons] at hl
  have hcell : w.cell? ⟨b, o + i, none⟩ = some cs[o + i] := by
   have := hb.cells (o + i) cs[o + i] (List.getElem?_eq_getElem (by omega))
   simpa using this
  have hst : ∀ m, (Go.store ⟨b, o + i, none⟩ u m).run P w = .ok () (w.setCell ⟨b, o + i, none⟩ u) := by
   intro m
   rw [run_store P w _ u m (h1 u (by simp))]
   simp [hcell, hb.frozen]
  obtain ⟨w', hr, hsz, hB, hK⟩ := ih o (i + 1) (w.setCell ⟨b, o + i, none⟩ u) (cs.set (o + i) u) (fun x hx => h1 x (by simp [hx])) (hb.set u) (by simp; omega)
  refine ⟨w', ?_, by rw [hsz]; simp, ?_, (Keep.setCell w b (o + i) u).trans hK (fun _ _ h => h)⟩
  · simp [storeCells, addr_add, hst, hr]
  ·
   have e1 : (cs.set (o + i) u).take (o + (i + 1)) = cs.take (o + i) ++ [u] := by
    rw [show o + (i + 1) = (o + i) + 1 from by omega, List.take_succ_eq_append_getElem (by simp; omega)]
    simp [List.take_set_of_le]
   have e2 : (cs.set (o + i) u).drop (o + (i + 1) + r.length) = cs.drop (o + i + (u :: r).length) := by
    rw [List.drop_set_of_lt (by omega)]
    simp only [List.length_cons, Nat.add_assoc, Nat.add_comm 1]
   rw [e1, e2] at hB
   simpa using hB
theorem M.clear {t e : TypeId} {k : Nat} {z : Value} {x : Operand} {b o m c : Nat} {cs : List Value} {zs : List Value} (hu : ∀ w, (underlying t).run P w = .ok (.slice e) w) (hz : ∀ w, (zeroValue e).run P w = .ok z w) (hx : ev env x = some (.slice (some ⟨b, o, none⟩) m c)) (hm : 0 < m) (hzs : Builtin.zeroCells z.cells m = zs.toArray) (hl : zs.length = m * k) (h1 : ∀ u ∈ zs, u.oneCell' = true) (hb : Blk w b cs e) (ho : o + m * k ≤ cs.length) :
  Makes P ⟨dst, .call ⟨.builtin .clear, #[x], #[t]⟩, ty, pos, aft, g⟩ env w (fun u w' => u = .tuple #[] ∧ Wrote w b (cs.take o ++ zs ++ cs.drop (o + m * k)) e w') := by
 obtain ⟨w', hr, hW⟩ := run_storeCells_blk (P := P) zs o 0 w cs h1 hb (by rw [hl]; omega)
 refine ⟨.tuple #[], w', ?_, rfl, by rw [← hl]; simpa using hW⟩
 intro n a ha
 obtain ⟨m', rfl⟩ : ∃ m', m = m' + 1 := ⟨m - 1, by omega⟩
 have hrun : (Builtin.clear_ #[t] ty #[.slice (some ⟨b, o, none⟩) (m' + 1) c]).run P w = .ok (.tuple #[]) w' := by
  simp [Builtin.clear_, hu, hz, hzs, hr]
 simp [execOp, resolve, invoke, builtin, ha.eval hx, hrun]
end
open Go.ChangeShapes Go.WideShapes Go.ChangeAt Go.RowKit
section
variable {H : Type} {enc : TypeId × Value → H} {P : Program} {w w' W W' : World} {base : Nat} {sp : Nat → Bool} {held : Bool}
theorem Ext.kept (h : Ext W W') (may : MemPlace → Prop) : W.keptBut W' may := by
 refine ⟨h.os, h.output, fun i hi => ?_⟩
 rw [h.block i hi (fun h => h)]
 cases hx : W.heap[i]? with
 | none => rfl
 | some o => cases o <;> simp
theorem Ext.same (h : Ext W W') {p : MemPlace} (hp : p.block < W.heap.size) : W.sameAt W' p := by
 cases p with
 | cell b off => exact World.cell?_of_block (w := W) (w' := W') (a := ⟨b, off, none⟩) (h.block b hp (fun h => h))
 | map b => exact h.block b hp (fun h => h)
theorem Ext.frozen (h : Ext W W') {b off : Nat} (hb : b < W.heap.size) : W'.frozen? ⟨b, off, none⟩ = W.frozen? ⟨b, off, none⟩ := by
 unfold World.frozen?
 rw [h.block b hb (fun h => h)]
theorem TrodAll.carry : ∀ {ts : List TypeId} {vs : List Value} {ds : List (DataW H)} {ps : List MemPlace}, DataW.TrodAll enc P w base sp held ts vs ds ps → (∀ p ∈ ps, w.sameAt w' p) → DataW.TrodAll enc P w' base sp held ts vs ds ps
 | [], [], [], _, h, _ => h
 | _ :: _, _ :: _, _ :: _, _, ⟨p, q, ⟨n, h1⟩, h2, e⟩, hs =>
  ⟨p, q, ⟨n, DataW.trod_carry n _ _ _ h1 (fun x hx => hs x (by rw [e]; exact List.mem_append_left _ hx))⟩, TrodAll.carry h2 (fun x hx => hs x (by rw [e]; exact List.mem_append_right _ hx)), e⟩
theorem post_ext {f : Func} {s : ChangeSpec} {apart fresh handsOn again : Bool} {args : Array Value} {ds gs : List (DataW H)} {before : List MemPlace} {tb : TypeId}
  (hl : laidOutB P = true) (hm : mapsRowed P = true) (hz : ((List.range P.types.size).all fun t => match P.underlying t with | some (.slice e) => decide (0 < P.cellsOf e) | _ => true) = true)
  (hts : ∀ t ∈ f.params.toList, t < P.types.size) (hv : s.vars = []) (hr : f.resultTypes = #[tb]) (htb : P.underlying tb = some .bool)
  (hW : DataW.Whole enc P f.params.toList s.vars apart W args.toList ds gs before) (hs : (s.fn H (ds ++ gs)).results = [.lit (.bool true)] ∧ (s.fn H (ds ++ gs)).args = ds ∧ (s.fn H (ds ++ gs)).vars = []) (hk : Ext W W') :
  s.post enc P f apart fresh handsOn again W args (.bool true) W' := by
 have hlt := hW.lt
 have hW' := hW
 obtain ⟨p, q, hA, hV, rfl, hz', hn⟩ := hW'
 rw [hv] at hV
 obtain ⟨rfl, rfl⟩ := trodVars_none hV
 rw [List.append_nil] at hlt hz' hn
 simp only [List.append_nil] at hs
 have hsame : ∀ x ∈ p, W.sameAt W' x := fun x hx => Ext.same hk (hlt x hx)
 have hargs : ∀ sp : Nat → Bool, (∀ x ∈ p, sp x.block = true) → DataW.TrodAll enc P W' 0 sp true f.params.toList args.toList ds p := fun sp hsp =>
  TrodAll.carry (DataW.TrodAll.respare (kids_rows hl hm) (slices_full_of P hz) hts hA hsp) hsame
 have hres : ∀ (b : Nat) (sp : Nat → Bool) (hd : Bool), DataW.TrodAll enc P W' b sp hd f.resultTypes.toList ((Value.bool true).resultList f.resultTypes.size) [.lit (.bool true)] [] := by
  intro b sp hd
  rw [hr]
  exact trodAll_cons_mk (shut_bool htb _) trodAll_mk0
 have hvs : ∀ sp : Nat → Bool, DataW.TrodVars enc P W' sp s.vars [] [] := fun sp => by rw [hv]; rfl
 have hok : ∀ (j : Nat) (t : TypeId) (r : Value), f.resultTypes[j]? = some t → ((Value.bool true).resultList f.resultTypes.size)[j]? = some r → Value.okWide P W' .any 0 t r :=
  ok_one hr rfl (okWide_bool_mk htb _)
 have hold : ∀ x ∈ p, (fun b => decide (b < W.heap.size)) x.block = true := fun x hx => by simpa using hlt x hx
 refine ⟨ds, [], p ++ [], [], p, [], hW, ?_, ?_, ?_, Ext.kept hk _, fun _ => ?_⟩
 · rw [List.append_nil, hs.1]; exact hres _ _ _
 · rw [List.append_nil, hs.2.1]; exact hargs _ hold
 · rw [List.append_nil, hs.2.2]; exact hvs _
 ·
  refine ⟨hok, _, _, ([] ++ p) ++ [], ⟨[] ++ p, [], trodAll_append (hargs _ (fun _ _ => rfl)) (hres _ _ _), hvs _, rfl, ?_, ?_⟩, ?_⟩
  ·
   intro b off hp
   have hp' : MemPlace.cell b off ∈ p := by simpa using hp
   exact (Ext.frozen hk (show b < W.heap.size from hlt _ hp')).trans (hz' b off hp')
  ·
   intro ha
   simpa using hn ha
  ·
   intro x hx _
   simpa using hx
theorem cells_at {b o n : Nat} {cs : List Value} (h : w.cells? base ⟨b, o, none⟩ n = some cs) : cs.length = n ∧ Cells w b o cs := by
 obtain ⟨_, h1, h2⟩ := World.cells?_some h
 refine ⟨h1, fun j v hv => ?_⟩
 have hj : j < n := by rw [← h1]; exact (List.getElem?_eq_some_iff.1 hv).1
 have := h2 j hj
 rw [hv] at this
 rw [← this, addr_add]
theorem slR_of {α : Type} {R : Rel α} {t e : TypeId} {c fuel : Nat} {cs : List Value} {x : DataW H × List MemPlace} (ht : P.underlying t = some (.slice e)) (hc : P.cellsOf e = c) (hc0 : 0 < c)
  (hR : ∀ (n : Nat) (cs : List Value) (y : DataW H × List MemPlace), DataW.trod enc P w base sp held n e cs = some y → ∃ z, R (fun _ => True) w z cs) (h : DataW.trod enc P w base sp held fuel t cs = some x) : ∃ v l, cs = [v] ∧ SlR c R (fun _ => True) w v l := by
 rcases DataW.trod_slice ht h with ⟨rfl, _⟩ | ⟨a, len, cap, elems, rest, n, _, rfl, _, _, hlc, hcm, hel, hat, _⟩
 · exact ⟨_, [], rfl, SlR.nil⟩
 ·
  rw [hc] at hat
  have hget : ∀ i : Nat, i < len → ∃ z cs', w.cells? base (a.add (i * c)) c = some cs' ∧ R (fun _ => True) w z cs' := by
   intro i hi
   have h1 := hat i hi
   obtain ⟨y, hy⟩ : ∃ y, elems[i]? = some y := ⟨_, List.getElem?_eq_getElem (by omega)⟩
   rw [hy, Option.bind_eq_some_iff] at h1
   obtain ⟨cs', h2, h3⟩ := h1
   obtain ⟨z, hz⟩ := hR n cs' y h3
   exact ⟨z, cs', h2, hz⟩
  have hlist : ∀ k, k ≤ len → ∃ l : List α, l.length = k ∧ ∀ (i : Nat) z, l[i]? = some z → ∃ cs', w.cells? base (a.add (i * c)) c = some cs' ∧ R (fun _ => True) w z cs' := by
   intro k
   induction k with
   | zero => intro _; exact ⟨[], rfl, fun i z h => by simp at h⟩
   | succ k ih =>
    intro hk
    obtain ⟨l, h1, h2⟩ := ih (by omega)
    obtain ⟨z, cs', h3, h4⟩ := hget k (by omega)
    refine ⟨l ++ [z], by simp [h1], fun i y hy => ?_⟩
    by_cases e : i < l.length
    · rw [List.getElem?_append_left e] at hy; exact h2 i y hy
    ·
     rw [List.getElem?_append_right (by omega)] at hy
     have hi : i = k := by
      have := (List.getElem?_eq_some_iff.1 hy).1
      simp at this; omega
     subst hi
     rw [h1, Nat.sub_self] at hy
     simp at hy
     subst hy
     exact ⟨cs', h3, h4⟩
  obtain ⟨l, hl, hle⟩ := hlist len (Nat.le_refl _)
  subst hl
  refine ⟨_, l, rfl, some a, cap, rfl, hlc, by simpa [maxLen] using hcm, fun i z hz => ?_⟩
  obtain ⟨cs', h3, h4⟩ := hle i z hz
  obtain ⟨_, h5, h6⟩ := World.cells?_some h3
  have hspot : a.spot = none := by
   have hi : 0 < l.length := by have := (List.getElem?_eq_some_iff.1 hz).1; omega
   obtain ⟨_, cs0, h7, _⟩ := hget 0 hi
   obtain ⟨_, h8, h9⟩ := World.cells?_some h7
   have h10 := h9 0 hc0
   obtain ⟨u, hu⟩ : ∃ u, cs0[0]? = some u := ⟨_, List.getElem?_eq_getElem (by omega)⟩
   rw [hu] at h10
   have h11 := World.cell?_spot h10
   simpa [Addr.add] using h11
  obtain ⟨b, o, s⟩ := a
  simp at hspot
  subst hspot
  exact ⟨b, o, cs', rfl, trivial, h5, (cells_at (by rw [addr_add] at h3; exact h3)).2, h4⟩
theorem rint_of {e : TypeId} {n : Nat} {cs : List Value} {y : DataW H × List MemPlace} (he : P.underlying e = some (.int .i64)) (h : DataW.trod enc P w base sp held n e cs = some y) : ∃ z, RInt (fun _ => True) w z cs := by
 obtain ⟨z, h1, _⟩ := DataW.trod_int he h
 exact ⟨z, h1⟩
end
end Go.GL
namespace Go.Proofs.YtldhllpogdikdaaGreat
open Go.GL Go.ChangeShapes Go.WideShapes Go.ChangeAt Go.RowKit
theorem own : ownKnob Tryz.prog.godebug = none := by kernel_rfl
end Go.Proofs.YtldhllpogdikdaaGreat
namespace Go.GL
open Go.RowKit
section
variable {P : Program} {env : Env} {w : World} {dst : Option Tmp} {ty : TypeId} {pos : String} {aft : Array Edge} {g : Option (Nat × Bool)}
theorem M.append0 {t e : TypeId} {x y : Operand} {a1 ao : Option Addr} {l1 c1 c : Nat} {r : Option Value × Nat × Nat} (hu : P.underlying t = some (.slice e)) (he : (P.info? e).map (fun i => (i.zero, i.size, i.bytes)) = some r)
  (hx : ev env x = some (.slice a1 l1 c1)) (hy : ev env y = some (.slice ao 0 c)) (hle : l1 ≤ c1) :
  Makes P ⟨dst, .call ⟨.builtin .append, #[x, y], #[t, t]⟩, ty, pos, aft, g⟩ env w (fun u w' => u = .slice a1 l1 c1 ∧ w' = w) := by
 obtain ⟨i, hi⟩ : ∃ i, P.info? e = some i := by
  cases h : P.info? e with
  | none => rw [h] at he; cases he
  | some i => exact ⟨i, rfl⟩
 refine ⟨_, w, ?_, rfl, rfl⟩
 intro n a ha
 have : (Builtin.append_ #[t, t] ty #[.slice a1 l1 c1, .slice ao 0 c]).run P w = .ok (.slice a1 l1 c1) w := by
  cases a1 <;> cases ao <;> simp [Builtin.append_, run_underlying hu, sizeOf, typeInfo, hi, Builtin.lenOf, Builtin.firstCells, loadCells, loadCellsFrom, storeCells, hle]
 simp [execOp, resolve, invoke, builtin, ha.eval hx, ha.eval hy, this]
end
open Go.RowKit
section
variable {P : Program} {env : Env} {w : World} {dst : Option Tmp} {ty : TypeId} {pos : String} {aft : Array Edge} {g : Option (Nat × Bool)}
theorem not_decide_eq {p : Prop} [Decidable p] : (!decide p) = decide (¬ p) := by by_cases h : p <;> simp [h]
theorem R.notU {t : TypeId} {x : Operand} {b c : Bool} (hx : ev env x = some (.bool b)) (hc : (!b) = c) : Runs P ⟨dst, .unOp .not t x, ty, pos, aft, g⟩ env w (.bool c) w := by
 intro n a ha; simp [execOp, ha.eval hx, Op.unary, hc]
theorem R.makeFunc {fn : Fn} {first captured : Array Operand} {fs cs : List Value} (hf : first.toList.map (ev env) = fs.map some) (hc : captured.toList.map (ev env) = cs.map some) : Runs P ⟨dst, .makeFunc fn first captured, ty, pos, aft, g⟩ env w (.func fn fs.toArray cs.toArray) w := by
 intro n a ha
 have e1 : first.map a.eval = fs.toArray := by apply Array.toList_inj.1; simpa using evs ha first.toList fs hf
 have e2 : captured.map a.eval = cs.toArray := by apply Array.toList_inj.1; simpa using evs ha captured.toList cs hc
 simp [execOp, Instr.makeFunc, e1, e2]
theorem R.neg {t : TypeId} {x : Operand} {k : IntKind} {m : Int} (hx : ev env x = some (.int k m)) (hr : k.wrap (-m) = -m) : Runs P ⟨dst, .unOp .neg t x, ty, pos, aft, g⟩ env w (.int k (-m)) w := by
 intro n a ha; simp [execOp, ha.eval hx, Op.unary, Op.intArith, hr]
theorem R.maxI {x y : Operand} {t t' : TypeId} {m j : Int} (hx : ev env x = some (.int .i64 m)) (hy : ev env y = some (.int .i64 j)) : Runs P ⟨dst, .call ⟨.builtin .max, #[x, y], #[t, t']⟩, ty, pos, aft, g⟩ env w (.int .i64 (max m j)) w := by
 intro n a ha
 have e : (if j > m then j else m) = max m j := by split <;> omega
 simp [execOp, resolve, invoke, builtin, ha.eval hx, ha.eval hy, run_max_int2, e]
theorem R.minI {x y : Operand} {t t' : TypeId} {m j : Int} (hx : ev env x = some (.int .i64 m)) (hy : ev env y = some (.int .i64 j)) : Runs P ⟨dst, .call ⟨.builtin .min, #[x, y], #[t, t']⟩, ty, pos, aft, g⟩ env w (.int .i64 (min m j)) w := by
 intro n a ha
 have e : (if j < m then j else m) = min m j := by split <;> omega
 simp [execOp, resolve, invoke, builtin, ha.eval hx, ha.eval hy, run_min_int2, e]
theorem R.lenStr {x : Operand} {ts : Array TypeId} {t : TypeId} {s : ByteArray} (ht : ts = #[t]) (hu : P.underlying t = some .string) (hx : ev env x = some (.string s)) :
  Runs P ⟨dst, .call ⟨.builtin .len, #[x], ts⟩, ty, pos, aft, g⟩ env w (.int .i64 s.size) w := by
 subst ht
 intro n a ha
 simp [execOp, resolve, invoke, builtin, ha.eval hx, run_len_string (h := hu), goInt]
theorem R.indexStr {t : TypeId} {x y : Operand} {s : ByteArray} {k : IntKind} {i : Int} (hu : P.underlying t = some .string) (hx : ev env x = some (.string s)) (hy : ev env y = some (.int k i)) (j : Nat) (hi : i = (j : Int)) (hj : j < s.size) :
  Runs P ⟨dst, .index t x y, ty, pos, aft, g⟩ env w (.int .u8 (s[j].toNat : Int)) w := by
 subst hi
 intro n a ha
 have h0 : (0 : Int) ≤ (j : Int) ∧ (j : Int) < (s.size : Int) := ⟨by omega, by omega⟩
 simp [execOp, ha.eval hx, ha.eval hy, run_index_string (h := hu), h0]
theorem R.eqStr {t t' : TypeId} {x y : Operand} {a b : ByteArray} (hx : ev env x = some (.string a)) (hy : ev env y = some (.string b)) : Runs P ⟨dst, .binOp .eql t x y t', ty, pos, aft, g⟩ env w (.bool (decide (a.toList = b.toList))) w := by
 intro n c hc
 have e : (a.toList == b.toList) = decide (a.toList = b.toList) := by by_cases h : a.toList = b.toList <;> simp [h]
 simp [execOp, hc.eval hx, hc.eval hy, eqGuard_at_string, binOp_string_eql, e]
end
inductive Tm where
 | mk (op n : Int) (kids : List Tm)
def Tm.op : Tm → Int | .mk o _ _ => o
def Tm.n : Tm → Int | .mk _ n _ => n
def Tm.kids : Tm → List Tm | .mk _ _ k => k
mutual
theorem Tm.ind {p : Tm → Prop} (h : ∀ t : Tm, (∀ k ∈ t.kids, p k) → p t) : ∀ t, p t
 | .mk o n ks => h (.mk o n ks) (Tm.indL h ks)
theorem Tm.indL {p : Tm → Prop} (h : ∀ t : Tm, (∀ k ∈ t.kids, p k) → p t) : ∀ ks : List Tm, ∀ k ∈ ks, p k
 | [] => fun _ hk => by simp at hk
 | k :: r => fun x hx => by
  rcases List.mem_cons.1 hx with he | hx
  · rw [he]; exact Tm.ind h k
  · exact Tm.indL h r x hx
end
inductive St where
 | mk (act cost var n : Int) (term : Tm) (thn els : List St) (bounds : List Int)
def St.act : St → Int | .mk a _ _ _ _ _ _ _ => a
def St.cost : St → Int | .mk _ a _ _ _ _ _ _ => a
def St.var : St → Int | .mk _ _ a _ _ _ _ _ => a
def St.n : St → Int | .mk _ _ _ a _ _ _ _ => a
def St.term : St → Tm | .mk _ _ _ _ a _ _ _ => a
def St.thn : St → List St | .mk _ _ _ _ _ a _ _ => a
def St.els : St → List St | .mk _ _ _ _ _ _ a _ => a
def St.bounds : St → List Int | .mk _ _ _ _ _ _ _ a => a
mutual
theorem St.ind {p : St → Prop} (h : ∀ s : St, (∀ k ∈ s.thn, p k) → (∀ k ∈ s.els, p k) → p s) : ∀ s, p s
 | .mk a b c d e f g i => h (.mk a b c d e f g i) (St.indL h f) (St.indL h g)
theorem St.indL {p : St → Prop} (h : ∀ s : St, (∀ k ∈ s.thn, p k) → (∀ k ∈ s.els, p k) → p s) : ∀ ks : List St, ∀ k ∈ ks, p k
 | [] => fun _ hk => by simp at hk
 | k :: r => fun x hx => by
  rcases List.mem_cons.1 hx with he | hx
  · rw [he]; exact St.ind h k
  · exact St.indL h r x hx
end
theorem Sts.ind {p : List St → Prop} (h : ∀ l : List St, (∀ s ∈ l, p s.thn ∧ p s.els) → p l) (l : List St) : p l :=
 h l (St.indL (p := fun s => p s.thn ∧ p s.els) (fun s h1 h2 => ⟨h _ h1, h _ h2⟩) l)
structure Vr where
 name : ByteArray
 kind : Int
 low : Int
 high : Int
 init : Int
structure Ht where
 name : ByteArray
 low : Int
 high : Int
 term : Tm
structure Fl where
 vars : List Vr
 hatches : List Ht
 body : List St
structure Ins where
 secret : List Int
 pub : List Int
 random : List Int
structure Nd where
 kind : Int
 at_ : Int
 next : Int
 other : Int
def RT : Nat → Rel Tm
 | 0 => fun _ _ _ _ => False
 | k + 1 => fun D w t cs => ∃ v, cs = [.int .i64 t.op, .int .i64 t.n, v] ∧ SlR 3 (RT k) D w v t.kids
def RTm : Rel Tm := fun D w t cs => ∃ k, RT k D w t cs
theorem SlR.map {α : Type} {k : Nat} {R R' : Rel α} {D : Nat → Prop} {w : World} {v : Value} {l : List α} (h : SlR k R D w v l) (hR : ∀ x cs, x ∈ l → R D w x cs → R' D w x cs) : SlR k R' D w v l := by
 obtain ⟨ao, cap, h1, h2, h3, h4⟩ := h
 refine ⟨ao, cap, h1, h2, h3, fun i x hx => ?_⟩
 obtain ⟨b, o, cs, h5, h6, h7, h8, h9⟩ := h4 i x hx
 exact ⟨b, o, cs, h5, h6, h7, h8, hR x cs (List.mem_of_getElem? hx) h9⟩
theorem RT.succ : ∀ (k : Nat) (D : Nat → Prop) (w : World) (t : Tm) (cs : List Value), RT k D w t cs → RT (k + 1) D w t cs
 | 0, _, _, _, _, h => h.elim
 | k + 1, D, w, t, cs, ⟨v, h1, h2⟩ => ⟨v, h1, h2.map (fun x cs _ h => RT.succ k D w x cs h)⟩
theorem RT.le {k j : Nat} (hkj : k ≤ j) {D : Nat → Prop} {w : World} {t : Tm} {cs : List Value} (h : RT k D w t cs) : RT j D w t cs := by
 induction hkj with
 | refl => exact h
 | step _ ih => exact RT.succ _ _ _ _ _ ih
theorem stable_rt : ∀ k, Stable (RT k)
 | 0 => fun _ _ _ _ _ _ _ _ h => h.elim
 | k + 1 => fun D D' w w' hD hk t cs ⟨v, h1, h2⟩ => ⟨v, h1, h2.stable (stable_rt k) hD hk⟩
theorem stable_tm : Stable RTm := fun D D' w w' hD hk t cs ⟨k, h⟩ => ⟨k, stable_rt k D D' w w' hD hk t cs h⟩
theorem RTm.get {D : Nat → Prop} {w : World} {t : Tm} {cs : List Value} (h : RTm D w t cs) : ∃ v, cs = [.int .i64 t.op, .int .i64 t.n, v] ∧ SlR 3 RTm D w v t.kids := by
 obtain ⟨k, h⟩ := h
 cases k with
 | zero => exact h.elim
 | succ k =>
  obtain ⟨v, h1, h2⟩ := h
  exact ⟨v, h1, h2.map (fun x cs _ h => ⟨k, h⟩)⟩
theorem SlR.exists {α : Type} {k : Nat} {R : Nat → Rel α} (hR : ∀ (i j : Nat), i ≤ j → ∀ D w x cs, R i D w x cs → R j D w x cs) {D : Nat → Prop} {w : World} {v : Value} {l : List α} (h : SlR k (fun D w x cs => ∃ i, R i D w x cs) D w v l) : ∃ i, SlR k (R i) D w v l := by
 obtain ⟨ao, cap, h1, h2, h3, h4⟩ := h
 have key : ∀ m, m ≤ l.length → ∃ i, ∀ (j : Nat) x, j < m → l[j]? = some x → ∃ b o cs, ao = some ⟨b, o, none⟩ ∧ D b ∧ cs.length = k ∧ Cells w b (o + j * k) cs ∧ R i D w x cs := by
  intro m
  induction m with
  | zero => intro _; exact ⟨0, fun j x h => absurd h (Nat.not_lt_zero _)⟩
  | succ m ih =>
   intro hm
   obtain ⟨i, hi⟩ := ih (by omega)
   obtain ⟨x, hx⟩ : ∃ x, l[m]? = some x := ⟨_, List.getElem?_eq_getElem (by omega)⟩
   obtain ⟨b, o, cs, h5, h6, h7, h8, i', h9⟩ := h4 m x hx
   refine ⟨max i i', fun j y hj hy => ?_⟩
   by_cases e : j = m
   ·
    subst e
    rw [hx] at hy; cases hy
    exact ⟨b, o, cs, h5, h6, h7, h8, hR _ _ (Nat.le_max_right ..) _ _ _ _ h9⟩
   ·
    obtain ⟨b, o, cs, h5, h6, h7, h8, h9⟩ := hi j y (by omega) hy
    exact ⟨b, o, cs, h5, h6, h7, h8, hR _ _ (Nat.le_max_left ..) _ _ _ _ h9⟩
 obtain ⟨i, hi⟩ := key l.length (Nat.le_refl _)
 exact ⟨i, ao, cap, h1, h2, h3, fun j x hx => hi j x (List.getElem?_eq_some_iff.1 hx).1 hx⟩
theorem RTm.put {D : Nat → Prop} {w : World} {t : Tm} {v : Value} (h : SlR 3 RTm D w v t.kids) : RTm D w t [.int .i64 t.op, .int .i64 t.n, v] := by
 obtain ⟨i, hi⟩ := SlR.exists (R := RT) (fun i j hij D w x cs h => h.le hij) h
 exact ⟨i + 1, v, rfl, hi⟩
def RS : Nat → Rel St
 | 0 => fun _ _ _ _ => False
 | k + 1 => fun D w s cs => ∃ v1 v2 v3 v4, cs = [.int .i64 s.act, .int .i64 s.cost, .int .i64 s.var, .int .i64 s.n, .int .i64 s.term.op, .int .i64 s.term.n, v1, v2, v3, v4] ∧ SlR 3 RTm D w v1 s.term.kids ∧ SlR 10 (RS k) D w v2 s.thn ∧ SlR 10 (RS k) D w v3 s.els ∧ SlR 1 RInt D w v4 s.bounds
def RSt : Rel St := fun D w s cs => ∃ k, RS k D w s cs
theorem RS.succ : ∀ (k : Nat) (D : Nat → Prop) (w : World) (s : St) (cs : List Value), RS k D w s cs → RS (k + 1) D w s cs
 | 0, _, _, _, _, h => h.elim
 | k + 1, D, w, t, cs, ⟨v1, v2, v3, v4, h0, h1, h2, h3, h4⟩ => ⟨v1, v2, v3, v4, h0, h1, h2.map (fun x cs _ h => RS.succ k D w x cs h), h3.map (fun x cs _ h => RS.succ k D w x cs h), h4⟩
theorem RS.le {k j : Nat} (hkj : k ≤ j) {D : Nat → Prop} {w : World} {s : St} {cs : List Value} (h : RS k D w s cs) : RS j D w s cs := by
 induction hkj with
 | refl => exact h
 | step _ ih => exact RS.succ _ _ _ _ _ ih
theorem stable_rs : ∀ k, Stable (RS k)
 | 0 => fun _ _ _ _ _ _ _ _ h => h.elim
 | k + 1 => fun D D' w w' hD hk t cs ⟨v1, v2, v3, v4, h0, h1, h2, h3, h4⟩ => ⟨v1, v2, v3, v4, h0, h1.stable stable_tm hD hk, h2.stable (stable_rs k) hD hk, h3.stable (stable_rs k) hD hk, h4.stable stable_int hD hk⟩
theorem stable_st : Stable RSt := fun D D' w w' hD hk t cs ⟨k, h⟩ => ⟨k, stable_rs k D D' w w' hD hk t cs h⟩
theorem RSt.get {D : Nat → Prop} {w : World} {s : St} {cs : List Value} (h : RSt D w s cs) : ∃ v1 v2 v3 v4, cs = [.int .i64 s.act, .int .i64 s.cost, .int .i64 s.var, .int .i64 s.n, .int .i64 s.term.op, .int .i64 s.term.n, v1, v2, v3, v4] ∧ SlR 3 RTm D w v1 s.term.kids ∧ SlR 10 RSt D w v2 s.thn ∧ SlR 10 RSt D w v3 s.els ∧ SlR 1 RInt D w v4 s.bounds := by
 obtain ⟨k, h⟩ := h
 cases k with
 | zero => exact h.elim
 | succ k =>
  obtain ⟨v1, v2, v3, v4, h0, h1, h2, h3, h4⟩ := h
  exact ⟨v1, v2, v3, v4, h0, h1, h2.map (fun x cs _ h => ⟨k, h⟩), h3.map (fun x cs _ h => ⟨k, h⟩), h4⟩
theorem RSt.put {D : Nat → Prop} {w : World} {s : St} {v1 v2 v3 v4 : Value} (h1 : SlR 3 RTm D w v1 s.term.kids) (h2 : SlR 10 RSt D w v2 s.thn) (h3 : SlR 10 RSt D w v3 s.els) (h4 : SlR 1 RInt D w v4 s.bounds) :
  RSt D w s [.int .i64 s.act, .int .i64 s.cost, .int .i64 s.var, .int .i64 s.n, .int .i64 s.term.op, .int .i64 s.term.n, v1, v2, v3, v4] := by
 obtain ⟨i, hi⟩ := SlR.exists (R := RS) (fun i j hij D w x cs h => h.le hij) h2
 obtain ⟨j, hj⟩ := SlR.exists (R := RS) (fun i j hij D w x cs h => h.le hij) h3
 exact ⟨max i j + 1, v1, v2, v3, v4, rfl, h1, hi.map (fun x cs _ h => h.le (Nat.le_max_left ..)), hj.map (fun x cs _ h => h.le (Nat.le_max_right ..)), h4⟩
def RVr : Rel Vr := fun _ _ v cs => cs = [.string v.name, .int .i64 v.kind, .int .i64 v.low, .int .i64 v.high, .int .i64 v.init]
def RHt : Rel Ht := fun D w h cs => ∃ v, cs = [.string h.name, .int .i64 h.low, .int .i64 h.high, .int .i64 h.term.op, .int .i64 h.term.n, v] ∧ SlR 3 RTm D w v h.term.kids
def RNd : Rel Nd := fun _ _ x cs => cs = [.int .i64 x.kind, .int .i64 x.at_, .int .i64 x.next, .int .i64 x.other]
theorem stable_vr : Stable RVr := fun _ _ _ _ _ _ _ _ h => h
theorem stable_nd : Stable RNd := fun _ _ _ _ _ _ _ _ h => h
theorem stable_ht : Stable RHt := fun _ _ _ _ hD hk _ _ ⟨v, h1, h2⟩ => ⟨v, h1, h2.stable stable_tm hD hk⟩
structure RFl (D : Nat → Prop) (w : World) (f : Fl) (v1 v2 v3 : Value) : Prop where
 vars : SlR 5 RVr D w v1 f.vars
 hatches : SlR 6 RHt D w v2 f.hatches
 body : SlR 10 RSt D w v3 f.body
theorem RFl.ext {D : Nat → Prop} {w w' : World} {f : Fl} {v1 v2 v3 : Value} (h : RFl D w f v1 v2 v3) (hk : Ext w w') : RFl D w' f v1 v2 v3 := ⟨h.vars.ext stable_vr hk, h.hatches.ext stable_ht hk, h.body.ext stable_st hk⟩
theorem SlR.form {α : Type} {k : Nat} {R : Rel α} {D : Nat → Prop} {w : World} {v : Value} {l : List α} (h : SlR k R D w v l) : ∃ ao cap, v = .slice ao l.length cap := by
 obtain ⟨ao, cap, h1, _⟩ := h
 exact ⟨ao, cap, h1⟩
theorem SlR.max {α : Type} {k : Nat} {R : Rel α} {D : Nat → Prop} {w : World} {v : Value} {l : List α} (h : SlR k R D w v l) : l.length ≤ 9223372036854775807 := by
 obtain ⟨ao, cap, h1, h2, h3, _⟩ := h
 omega
theorem SlR.at {α : Type} {k : Nat} {R : Rel α} {D : Nat → Prop} {w : World} {ao : Option Addr} {n cap : Nat} {l : List α} (h : SlR k R D w (.slice ao n cap) l) {i : Nat} {x : α} (hx : l[i]? = some x) : ∃ b o cs, ao = some ⟨b, o, none⟩ ∧ cs.length = k ∧ Cells w b (o + i * k) cs ∧ R D w x cs := by
 obtain ⟨ao', cap', h1, h2, h3, h4⟩ := h
 cases h1
 obtain ⟨b, o, cs, h5, _, h7, h8, h9⟩ := h4 i x hx
 exact ⟨b, o, cs, h5, h7, h8, h9⟩
theorem SlR.one {α : Type} {k : Nat} {R : Rel α} {D : Nat → Prop} {w : World} {v : Value} {l : List α} (h : SlR k R D w v l) : v.oneCell' = true := by
 obtain ⟨ao, cap, rfl, _⟩ := h
 rfl
theorem RTm.one {D : Nat → Prop} {w : World} {t : Tm} {cs : List Value} (h : RTm D w t cs) : ∀ u ∈ cs, u.oneCell' = true := by
 obtain ⟨v, rfl, hs⟩ := h.get
 simp only [List.mem_cons, List.not_mem_nil, or_false, forall_eq_or_imp, forall_eq]
 exact ⟨rfl, rfl, SlR.one hs⟩
theorem RSt.one {D : Nat → Prop} {w : World} {s : St} {cs : List Value} (h : RSt D w s cs) : ∀ u ∈ cs, u.oneCell' = true := by
 obtain ⟨v1, v2, v3, v4, rfl, h1, h2, h3, h4⟩ := h.get
 simp only [List.mem_cons, List.not_mem_nil, or_false, forall_eq_or_imp, forall_eq]
 exact ⟨rfl, rfl, rfl, rfl, rfl, rfl, SlR.one h1, SlR.one h2, SlR.one h3, SlR.one h4⟩
theorem RHt.one {D : Nat → Prop} {w : World} {x : Ht} {cs : List Value} (h : RHt D w x cs) : ∀ u ∈ cs, u.oneCell' = true := by
 obtain ⟨v, rfl, hs⟩ := h
 simp only [List.mem_cons, List.not_mem_nil, or_false, forall_eq_or_imp, forall_eq]
 exact ⟨rfl, rfl, rfl, rfl, rfl, SlR.one hs⟩
theorem RVr.one {D : Nat → Prop} {w : World} {x : Vr} {cs : List Value} (h : RVr D w x cs) : ∀ u ∈ cs, u.oneCell' = true := by
 obtain rfl := h
 simp [Value.oneCell']
theorem RNd.one {D : Nat → Prop} {w : World} {x : Nd} {cs : List Value} (h : RNd D w x cs) : ∀ u ∈ cs, u.oneCell' = true := by
 obtain rfl := h
 simp [Value.oneCell']
theorem SlR.drop {α : Type} {k : Nat} {R : Rel α} {D : Nat → Prop} {w : World} {ao : Option Addr} {n c : Nat} {l : List α} (h : SlR k R D w (.slice ao n c) l) (i : Nat) (hi : i ≤ l.length) : SlR k R D w (.slice (if c = i then ao else ao.map (·.add (i * k))) (n - i) (c - i)) (l.drop i) := by
 obtain ⟨ao', cap', h1, h2, h3, h4⟩ := h
 cases h1
 refine ⟨_, _, by rw [List.length_drop], by rw [List.length_drop]; omega, by omega, fun j x hx => ?_⟩
 rw [List.getElem?_drop] at hx
 obtain ⟨b, o, cs, h5, h6, h7, h8, h9⟩ := h4 (i + j) x hx
 have hlt := (List.getElem?_eq_some_iff.1 hx).1
 refine ⟨b, o + i * k, cs, ?_, h6, h7, ?_, h9⟩
 ·
  rw [if_neg (by omega), h5]
  simp [addr_add]
 · rw [show o + i * k + j * k = o + (i + j) * k by rw [Nat.add_mul, Nat.add_assoc]]; exact h8
theorem SlR.take {α : Type} {k : Nat} {R : Rel α} {D : Nat → Prop} {w : World} {ao : Option Addr} {n c : Nat} {l : List α} (h : SlR k R D w (.slice ao n c) l) (i : Nat) (hi : i ≤ l.length) : SlR k R D w (.slice ao i c) (l.take i) := by
 obtain ⟨ao', cap', h1, h2, h3, h4⟩ := h
 cases h1
 refine ⟨_, _, by rw [List.length_take, Nat.min_eq_left hi], by rw [List.length_take]; omega, h3, fun j x hx => ?_⟩
 rw [List.getElem?_take] at hx
 split at hx
 · exact h4 j x hx
 · cases hx
theorem SlR.len_cap {α : Type} {k : Nat} {R : Rel α} {D : Nat → Prop} {w : World} {ao : Option Addr} {n c : Nat} {l : List α} (h : SlR k R D w (.slice ao n c) l) : n = l.length ∧ l.length ≤ c := by
 obtain ⟨ao', cap', h1, h2, h3, h4⟩ := h
 cases h1
 exact ⟨rfl, h2⟩
theorem slotI {k : IntKind} {a b : Int} {o : Option Value} (h : o = some (.int k a)) (e : a = b) : o = some (.int k b) := by rw [h, e]
theorem Cells.sub {w : World} {b o : Nat} {cs : List Value} (h : Cells w b o cs) (i n : Nat) : Cells w b (o + i) ((cs.drop i).take n) := by
 refine h.part i (fun j v hj => ?_)
 rw [List.getElem?_take] at hj
 split at hj
 · rw [List.getElem?_drop] at hj; exact hj
 · cases hj
open Go.ChangeShapes Go.WideShapes Go.ChangeAt Go.RowKit
section
variable {H : Type} {enc : TypeId × Value → H} {P : Program} {w w' W W' : World} {base : Nat} {sp : Nat → Bool} {held : Bool}
theorem slR_of2 {α : Type} {R : Rel α} {t e : TypeId} {c fuel : Nat} {cs : List Value} {x : DataW H × List MemPlace} (ht : P.underlying t = some (.slice e)) (hc : P.cellsOf e = c) (hc0 : 0 < c)
  (hR : ∀ (n : Nat), fuel = n + 1 → ∀ (cs : List Value) (y : DataW H × List MemPlace), DataW.trod enc P w base sp held n e cs = some y → ∃ z, R (fun _ => True) w z cs) (h : DataW.trod enc P w base sp held fuel t cs = some x) : ∃ v l, cs = [v] ∧ SlR c R (fun _ => True) w v l := by
 rcases DataW.trod_slice ht h with ⟨rfl, _⟩ | ⟨a, len, cap, elems, rest, n, hfu, rfl, _, _, hlc, hcm, hel, hat, _⟩
 · exact ⟨_, [], rfl, SlR.nil⟩
 ·
  rw [hc] at hat
  have hget : ∀ i : Nat, i < len → ∃ z cs', w.cells? base (a.add (i * c)) c = some cs' ∧ R (fun _ => True) w z cs' := by
   intro i hi
   have h1 := hat i hi
   obtain ⟨y, hy⟩ : ∃ y, elems[i]? = some y := ⟨_, List.getElem?_eq_getElem (by omega)⟩
   rw [hy, Option.bind_eq_some_iff] at h1
   obtain ⟨cs', h2, h3⟩ := h1
   obtain ⟨z, hz⟩ := hR n hfu cs' y h3
   exact ⟨z, cs', h2, hz⟩
  have hlist : ∀ k, k ≤ len → ∃ l : List α, l.length = k ∧ ∀ (i : Nat) z, l[i]? = some z → ∃ cs', w.cells? base (a.add (i * c)) c = some cs' ∧ R (fun _ => True) w z cs' := by
   intro k
   induction k with
   | zero => intro _; exact ⟨[], rfl, fun i z h => by simp at h⟩
   | succ k ih =>
    intro hk
    obtain ⟨l, h1, h2⟩ := ih (by omega)
    obtain ⟨z, cs', h3, h4⟩ := hget k (by omega)
    refine ⟨l ++ [z], by simp [h1], fun i y hy => ?_⟩
    by_cases e : i < l.length
    · rw [List.getElem?_append_left e] at hy; exact h2 i y hy
    ·
     rw [List.getElem?_append_right (by omega)] at hy
     have hi : i = k := by
      have := (List.getElem?_eq_some_iff.1 hy).1
      simp at this; omega
     subst hi
     rw [h1, Nat.sub_self] at hy
     simp at hy
     subst hy
     exact ⟨cs', h3, h4⟩
  obtain ⟨l, hl, hle⟩ := hlist len (Nat.le_refl _)
  subst hl
  refine ⟨_, l, rfl, some a, cap, rfl, hlc, by simpa [maxLen] using hcm, fun i z hz => ?_⟩
  obtain ⟨cs', h3, h4⟩ := hle i z hz
  obtain ⟨_, h5, h6⟩ := World.cells?_some h3
  have hspot : a.spot = none := by
   have hi : 0 < l.length := by have := (List.getElem?_eq_some_iff.1 hz).1; omega
   obtain ⟨_, cs0, h7, _⟩ := hget 0 hi
   obtain ⟨_, h8, h9⟩ := World.cells?_some h7
   have h10 := h9 0 hc0
   obtain ⟨u, hu⟩ : ∃ u, cs0[0]? = some u := ⟨_, List.getElem?_eq_getElem (by omega)⟩
   rw [hu] at h10
   have h11 := World.cell?_spot h10
   simpa [Addr.add] using h11
  obtain ⟨b, o, s⟩ := a
  simp at hspot
  subst hspot
  exact ⟨b, o, cs', rfl, trivial, h5, (cells_at (by rw [addr_add] at h3; exact h3)).2, h4⟩
theorem field_of {fs : Array Field} {m : Nat} {cs : List Value} {xs : List (DataW H × List MemPlace)} (hx : xs.length = fs.size) (hat : ∀ (i : Nat) (f : Field), fs[i]? = some f → DataW.trod enc P w base sp held m f.type ((cs.drop f.offset).take (P.cellsOf f.type)) = xs[i]?) (i : Nat) {f : Field} (hf : fs[i]? = some f) {c : Nat} (hc : P.cellsOf f.type = c) :
  ∃ y, DataW.trod enc P w base sp held m f.type ((cs.drop f.offset).take c) = some y := by
 have h := hat i f hf
 have hi := (Array.getElem?_eq_some_iff.1 hf).1
 rw [List.getElem?_eq_getElem (show i < xs.length by omega), hc] at h
 exact ⟨_, h⟩
end
end Go.GL
namespace Go.Proofs.YtldhllpogdikdaaGreat
open Go.GL Go.ChangeShapes Go.WideShapes Go.ChangeAt Go.RowKit
section
variable {H : Type} {enc : TypeId × Value → H} {w : World} {base : Nat} {sp : Nat → Bool} {held : Bool}
theorem cellsInt : Tryz.prog.cellsOf 3 = 1 := by kernel_rfl
theorem cellsTm : Tryz.prog.cellsOf 84 = 3 := by kernel_rfl
theorem cellsSt : Tryz.prog.cellsOf 86 = 10 := by kernel_rfl
set_option maxRecDepth 100000 in
theorem open_tm : ∀ (k : Nat) (cs : List Value) (x : DataW H × List MemPlace), DataW.trod enc Tryz.prog w base sp held k 84 cs = some x → ∃ t, RTm (fun _ => True) w t cs := by
 intro k
 induction k using Nat.strongRecOn with
 | _ k ih =>
 intro cs x h
 obtain ⟨xs, m, hk, _, hl, hx, hat⟩ := DataW.trod_struct Tryz.underlying84 h
 rw [cellsTm] at hl
 match cs, hl with
 | [c0, c1, c2], _ =>
  obtain ⟨y0, h0⟩ := field_of hx hat 0 rfl (c := 1) (by kernel_rfl)
  obtain ⟨y1, h1⟩ := field_of hx hat 1 rfl (c := 1) (by kernel_rfl)
  obtain ⟨y2, h2⟩ := field_of hx hat 2 rfl (c := 1) (by kernel_rfl)
  obtain ⟨n0, e0, _⟩ := DataW.trod_int Tryz.underlying81 h0
  obtain ⟨n1, e1, _⟩ := DataW.trod_int Tryz.underlying3 h1
  obtain ⟨v, l, e2, hsl⟩ := slR_of2 Tryz.underlying82 cellsTm (by decide) (fun n hn cs y hy => ih n (by omega) cs y hy) h2
  simp at e0 e1 e2
  subst e0; subst e1; subst e2
  exact ⟨.mk n0 n1 l, RTm.put (t := .mk n0 n1 l) hsl⟩
set_option maxRecDepth 100000 in
theorem open_st : ∀ (k : Nat) (cs : List Value) (x : DataW H × List MemPlace), DataW.trod enc Tryz.prog w base sp held k 86 cs = some x → ∃ t, RSt (fun _ => True) w t cs := by
 intro k
 induction k using Nat.strongRecOn with
 | _ k ih =>
 intro cs x h
 obtain ⟨xs, m, hk, _, hl, hx, hat⟩ := DataW.trod_struct Tryz.underlying86 h
 rw [cellsSt] at hl
 match cs, hl with
 | [c0, c1, c2, c3, c4, c5, c6, c7, c8, c9], _ =>
  obtain ⟨y0, h0⟩ := field_of hx hat 0 rfl (c := 1) (by kernel_rfl)
  obtain ⟨y1, h1⟩ := field_of hx hat 1 rfl (c := 1) (by kernel_rfl)
  obtain ⟨y2, h2⟩ := field_of hx hat 2 rfl (c := 1) (by kernel_rfl)
  obtain ⟨y3, h3⟩ := field_of hx hat 3 rfl (c := 1) (by kernel_rfl)
  obtain ⟨y4, h4⟩ := field_of hx hat 4 rfl (c := 3) (by kernel_rfl)
  obtain ⟨y5, h5⟩ := field_of hx hat 5 rfl (c := 1) (by kernel_rfl)
  obtain ⟨y6, h6⟩ := field_of hx hat 6 rfl (c := 1) (by kernel_rfl)
  obtain ⟨y7, h7⟩ := field_of hx hat 7 rfl (c := 1) (by kernel_rfl)
  obtain ⟨n0, e0, _⟩ := DataW.trod_int Tryz.underlying80 h0
  obtain ⟨n1, e1, _⟩ := DataW.trod_int Tryz.underlying3 h1
  obtain ⟨n2, e2, _⟩ := DataW.trod_int Tryz.underlying3 h2
  obtain ⟨n3, e3, _⟩ := DataW.trod_int Tryz.underlying3 h3
  obtain ⟨t, ht⟩ := open_tm _ _ _ h4
  obtain ⟨v4, e4, hks⟩ := ht.get
  obtain ⟨v5, l5, e5, hs5⟩ := slR_of2 Tryz.underlying24 cellsSt (by decide) (fun n hn cs y hy => ih n (by omega) cs y hy) h5
  obtain ⟨v6, l6, e6, hs6⟩ := slR_of2 Tryz.underlying24 cellsSt (by decide) (fun n hn cs y hy => ih n (by omega) cs y hy) h6
  obtain ⟨v7, l7, e7, hs7⟩ := slR_of2 Tryz.underlying50 cellsInt (by decide) (fun n hn cs y hy => rint_of Tryz.underlying3 hy) h7
  simp at e0 e1 e2 e3 e4 e5 e6 e7
  obtain ⟨e4, e42, e43⟩ := e4
  subst e0; subst e1; subst e2; subst e3; subst e4; subst e42; subst e43; subst e5; subst e6; subst e7
  exact ⟨.mk n0 n1 n2 n3 t l5 l6 l7, RSt.put (s := .mk n0 n1 n2 n3 t l5 l6 l7) hks hs5 hs6 hs7⟩
set_option maxRecDepth 100000 in
theorem open_vr (k : Nat) (cs : List Value) (x : DataW H × List MemPlace) (h : DataW.trod enc Tryz.prog w base sp held k 125 cs = some x) : ∃ t, RVr (fun _ => True) w t cs := by
 obtain ⟨xs, m, hk, _, hl, hx, hat⟩ := DataW.trod_struct Tryz.underlying125 h
 rw [show Tryz.prog.cellsOf 125 = 5 by kernel_rfl] at hl
 match cs, hl with
 | [c0, c1, c2, c3, c4], _ =>
  obtain ⟨y0, h0⟩ := field_of hx hat 0 rfl (c := 1) (by kernel_rfl)
  obtain ⟨y1, h1⟩ := field_of hx hat 1 rfl (c := 1) (by kernel_rfl)
  obtain ⟨y2, h2⟩ := field_of hx hat 2 rfl (c := 1) (by kernel_rfl)
  obtain ⟨y3, h3⟩ := field_of hx hat 3 rfl (c := 1) (by kernel_rfl)
  obtain ⟨y4, h4⟩ := field_of hx hat 4 rfl (c := 1) (by kernel_rfl)
  obtain ⟨n0, e0, _⟩ := DataW.trod_string Tryz.underlying9 h0
  obtain ⟨n1, e1, _⟩ := DataW.trod_int Tryz.underlying121 h1
  obtain ⟨n2, e2, _⟩ := DataW.trod_int Tryz.underlying3 h2
  obtain ⟨n3, e3, _⟩ := DataW.trod_int Tryz.underlying3 h3
  obtain ⟨n4, e4, _⟩ := DataW.trod_int Tryz.underlying3 h4
  simp at e0 e1 e2 e3 e4
  subst e0; subst e1; subst e2; subst e3; subst e4
  exact ⟨⟨n0, n1, n2, n3, n4⟩, rfl⟩
set_option maxRecDepth 100000 in
theorem open_ht (k : Nat) (cs : List Value) (x : DataW H × List MemPlace) (h : DataW.trod enc Tryz.prog w base sp held k 109 cs = some x) : ∃ t, RHt (fun _ => True) w t cs := by
 obtain ⟨xs, m, hk, _, hl, hx, hat⟩ := DataW.trod_struct Tryz.underlying109 h
 rw [show Tryz.prog.cellsOf 109 = 6 by kernel_rfl] at hl
 match cs, hl with
 | [c0, c1, c2, c3, c4, c5], _ =>
  obtain ⟨y0, h0⟩ := field_of hx hat 0 rfl (c := 1) (by kernel_rfl)
  obtain ⟨y1, h1⟩ := field_of hx hat 1 rfl (c := 1) (by kernel_rfl)
  obtain ⟨y2, h2⟩ := field_of hx hat 2 rfl (c := 1) (by kernel_rfl)
  obtain ⟨y3, h3⟩ := field_of hx hat 3 rfl (c := 3) (by kernel_rfl)
  obtain ⟨n0, e0, _⟩ := DataW.trod_string Tryz.underlying9 h0
  obtain ⟨n1, e1, _⟩ := DataW.trod_int Tryz.underlying3 h1
  obtain ⟨n2, e2, _⟩ := DataW.trod_int Tryz.underlying3 h2
  obtain ⟨t, ht⟩ := open_tm _ _ _ h3
  obtain ⟨v3, e3, hks⟩ := ht.get
  simp at e0 e1 e2 e3
  obtain ⟨e3, e32, e33⟩ := e3
  subst e0; subst e1; subst e2; subst e3; subst e32; subst e33
  exact ⟨⟨n0, n1, n2, t⟩, _, rfl, hks⟩
set_option maxRecDepth 100000 in
theorem open_flat {r : Reach} {b0 : Nat} {v : Value} {d : DataW H} {ps : List MemPlace} (hval : Value.okWide Tryz.prog w r b0 26 v) (hd : DataW.Trod enc Tryz.prog w base sp held 26 v d ps) :
  ∃ f v1 v2 v3, v = .agg #[v1, v2, v3] ∧ RFl (fun _ => True) w f v1 v2 v3 := by
 unfold Value.okWide at hval
 rw [Tryz.underlying26] at hval
 obtain ⟨cs, rfl, hsz, _⟩ := hval
 obtain ⟨k, hn⟩ := hd
 obtain ⟨xs, m, _, _, hl, hx, hat⟩ := DataW.trod_struct Tryz.underlying26 hn
 rw [show Tryz.prog.cellsOf 26 = 3 by kernel_rfl] at hsz
 obtain ⟨l⟩ := cs
 match l, hsz with
 | [c0, c1, c2], _ =>
  obtain ⟨y0, h0⟩ := field_of hx hat 0 rfl (c := 1) (by kernel_rfl)
  obtain ⟨y1, h1⟩ := field_of hx hat 1 rfl (c := 1) (by kernel_rfl)
  obtain ⟨y2, h2⟩ := field_of hx hat 2 rfl (c := 1) (by kernel_rfl)
  obtain ⟨v0, l0, e0, hs0⟩ := slR_of Tryz.underlying22 (show Tryz.prog.cellsOf 125 = 5 by kernel_rfl) (by decide) (fun n cs y hy => open_vr n cs y hy) h0
  obtain ⟨v1, l1, e1, hs1⟩ := slR_of Tryz.underlying23 (show Tryz.prog.cellsOf 109 = 6 by kernel_rfl) (by decide) (fun n cs y hy => open_ht n cs y hy) h1
  obtain ⟨v2, l2, e2, hs2⟩ := slR_of Tryz.underlying24 cellsSt (by decide) (fun n cs y hy => open_st n cs y hy) h2
  simp [Value.cells] at e0 e1 e2
  subst e0; subst e1; subst e2
  exact ⟨⟨l0, l1, l2⟩, _, _, _, rfl, hs0, hs1, hs2⟩
end
end Go.Proofs.YtldhllpogdikdaaGreat
namespace Go.GL
mutual
def Tm.nodes : Tm → Nat
 | .mk _ _ ks => 1 + tnodes ks
def tnodes : List Tm → Nat
 | [] => 0
 | k :: r => k.nodes + tnodes r
end
mutual
def Tm.depth : Tm → Nat
 | .mk _ _ ks => tdepth ks + 1
def tdepth : List Tm → Nat
 | [] => 0
 | k :: r => max k.depth (tdepth r)
end
mutual
def St.nodes : St → Nat
 | .mk _ _ _ _ t f g _ => 1 + t.nodes + snodes f + snodes g
def snodes : List St → Nat
 | [] => 0
 | s :: r => s.nodes + snodes r
end
mutual
def St.bulk : St → Nat
 | .mk _ _ _ _ t f g b => 1 + t.nodes + b.length + sbulk f + sbulk g
def sbulk : List St → Nat
 | [] => 0
 | s :: r => s.bulk + sbulk r
end
mutual
def St.size : St → Nat
 | .mk _ _ _ _ _ f g _ => 1 + ssize f + ssize g
def ssize : List St → Nat
 | [] => 0
 | s :: r => s.size + ssize r
end
mutual
def St.depth : St → Nat
 | .mk _ _ _ _ _ f g _ => max (sdepth f + 1) (sdepth g + 1)
def sdepth : List St → Nat
 | [] => 0
 | s :: r => max s.depth (sdepth r)
end
mutual
/-- Some term of a step is nested too deep. -/
def St.tdeep : St → Bool
 | .mk _ _ _ _ t f g _ => decide (12 < t.depth) || stdeep f || stdeep g
def stdeep : List St → Bool
 | [] => false
 | s :: r => s.tdeep || stdeep r
end
theorem Tm.nodes_eq (t : Tm) : t.nodes = 1 + tnodes t.kids := by cases t; rfl
theorem Tm.depth_eq (t : Tm) : t.depth = tdepth t.kids + 1 := by cases t; rfl
theorem St.nodes_eq (s : St) : s.nodes = 1 + s.term.nodes + snodes s.thn + snodes s.els := by cases s; rfl
theorem St.bulk_eq (s : St) : s.bulk = 1 + s.term.nodes + s.bounds.length + sbulk s.thn + sbulk s.els := by cases s; rfl
theorem St.size_eq (s : St) : s.size = 1 + ssize s.thn + ssize s.els := by cases s; rfl
theorem St.depth_eq (s : St) : s.depth = max (sdepth s.thn + 1) (sdepth s.els + 1) := by cases s; rfl
theorem St.tdeep_eq (s : St) : s.tdeep = (decide (12 < s.term.depth) || stdeep s.thn || stdeep s.els) := by cases s; rfl
theorem tnodes_append (a b : List Tm) : tnodes (a ++ b) = tnodes a + tnodes b := by
 induction a with
 | nil => simp [tnodes]
 | cons x r ih => simp [tnodes, ih, Nat.add_assoc]
theorem tdepth_append (a b : List Tm) : tdepth (a ++ b) = max (tdepth a) (tdepth b) := by
 induction a with
 | nil => simp [tdepth]
 | cons x r ih => simp [tdepth, ih, Nat.max_assoc]
theorem snodes_append (a b : List St) : snodes (a ++ b) = snodes a + snodes b := by
 induction a with
 | nil => simp [snodes]
 | cons x r ih => simp [snodes, ih, Nat.add_assoc]
theorem sbulk_append (a b : List St) : sbulk (a ++ b) = sbulk a + sbulk b := by
 induction a with
 | nil => simp [sbulk]
 | cons x r ih => simp [sbulk, ih, Nat.add_assoc]
theorem ssize_append (a b : List St) : ssize (a ++ b) = ssize a + ssize b := by
 induction a with
 | nil => simp [ssize]
 | cons x r ih => simp [ssize, ih, Nat.add_assoc]
theorem sdepth_append (a b : List St) : sdepth (a ++ b) = max (sdepth a) (sdepth b) := by
 induction a with
 | nil => simp [sdepth]
 | cons x r ih => simp [sdepth, ih, Nat.max_assoc]
theorem stdeep_append (a b : List St) : stdeep (a ++ b) = (stdeep a || stdeep b) := by
 induction a with
 | nil => simp [stdeep]
 | cons x r ih => simp [stdeep, ih, Bool.or_assoc]
theorem take_get {α : Type} {l : List α} {i : Nat} {x : α} (h : l[i]? = some x) : l.take (i + 1) = l.take i ++ [x] := by
 rw [List.take_add_one, h]; rfl
theorem tnodes_take {l : List Tm} {i : Nat} {x : Tm} (h : l[i]? = some x) : tnodes (l.take (i + 1)) = tnodes (l.take i) + x.nodes := by rw [take_get h, tnodes_append]; simp [tnodes]
theorem tdepth_take {l : List Tm} {i : Nat} {x : Tm} (h : l[i]? = some x) : tdepth (l.take (i + 1)) = max (tdepth (l.take i)) x.depth := by rw [take_get h, tdepth_append]; simp [tdepth]
theorem snodes_take {l : List St} {i : Nat} {x : St} (h : l[i]? = some x) : snodes (l.take (i + 1)) = snodes (l.take i) + x.nodes := by rw [take_get h, snodes_append]; simp [snodes]
theorem sbulk_take {l : List St} {i : Nat} {x : St} (h : l[i]? = some x) : sbulk (l.take (i + 1)) = sbulk (l.take i) + x.bulk := by rw [take_get h, sbulk_append]; simp [sbulk]
theorem ssize_take {l : List St} {i : Nat} {x : St} (h : l[i]? = some x) : ssize (l.take (i + 1)) = ssize (l.take i) + x.size := by rw [take_get h, ssize_append]; simp [ssize]
theorem sdepth_take {l : List St} {i : Nat} {x : St} (h : l[i]? = some x) : sdepth (l.take (i + 1)) = max (sdepth (l.take i)) x.depth := by rw [take_get h, sdepth_append]; simp [sdepth]
theorem stdeep_take {l : List St} {i : Nat} {x : St} (h : l[i]? = some x) : stdeep (l.take (i + 1)) = (stdeep (l.take i) || x.tdeep) := by rw [take_get h, stdeep_append]; simp [stdeep]
theorem split_get {α : Type} {l : List α} {i : Nat} {x : α} (h : l[i]? = some x) : l = l.take i ++ x :: l.drop (i + 1) := by
 obtain ⟨h1, h2⟩ := List.getElem?_eq_some_iff.1 h
 rw [← h2, List.getElem_cons_drop, List.take_append_drop]
theorem sbulk_mem {l : List St} {x : St} (h : x ∈ l) : x.bulk ≤ sbulk l := by
 obtain ⟨i, hi⟩ := List.mem_iff_getElem?.1 h
 rw [split_get hi, sbulk_append]; simp [sbulk]; omega
theorem tnodes_split {l : List Tm} {i : Nat} {x : Tm} (h : l[i]? = some x) : tnodes l = tnodes (l.take i) + x.nodes + tnodes (l.drop (i + 1)) := by
 conv => lhs; rw [split_get h]
 rw [tnodes_append]; simp [tnodes, Nat.add_assoc]
theorem snodes_split {l : List St} {i : Nat} {x : St} (h : l[i]? = some x) : snodes l = snodes (l.take i) + x.nodes + snodes (l.drop (i + 1)) := by
 conv => lhs; rw [split_get h]
 rw [snodes_append]; simp [snodes, Nat.add_assoc]
theorem sbulk_split {l : List St} {i : Nat} {x : St} (h : l[i]? = some x) : sbulk l = sbulk (l.take i) + x.bulk + sbulk (l.drop (i + 1)) := by
 conv => lhs; rw [split_get h]
 rw [sbulk_append]; simp [sbulk, Nat.add_assoc]
theorem ssize_split {l : List St} {i : Nat} {x : St} (h : l[i]? = some x) : ssize l = ssize (l.take i) + x.size + ssize (l.drop (i + 1)) := by
 conv => lhs; rw [split_get h]
 rw [ssize_append]; simp [ssize, Nat.add_assoc]
theorem tlen_le (l : List Tm) : l.length ≤ tnodes l := by
 induction l with
 | nil => simp
 | cons x r ih => have := x.nodes_eq; simp [tnodes]; omega
theorem slen_le (l : List St) : l.length ≤ snodes l := by
 induction l with
 | nil => simp
 | cons x r ih => have := x.nodes_eq; simp [snodes]; omega
theorem sbulk_snodes : ∀ l : List St, snodes l ≤ sbulk l := by
 intro l
 induction l using Sts.ind with
 | h l ih =>
  have key : ∀ r : List St, (∀ s ∈ r, snodes s.thn ≤ sbulk s.thn ∧ snodes s.els ≤ sbulk s.els) → snodes r ≤ sbulk r := by
   intro r
   induction r with
   | nil => intro _; simp [snodes]
   | cons x r ih2 =>
    intro h
    have h1 := h x (List.mem_cons_self ..)
    have h2 := ih2 (fun s hs => h s (List.mem_cons_of_mem _ hs))
    have h3 := x.nodes_eq
    have h4 := x.bulk_eq
    simp only [snodes, sbulk]; omega
  exact key l ih
theorem ssize_snodes : ∀ l : List St, ssize l ≤ snodes l := by
 intro l
 induction l using Sts.ind with
 | h l ih =>
  have key : ∀ r : List St, (∀ s ∈ r, ssize s.thn ≤ snodes s.thn ∧ ssize s.els ≤ snodes s.els) → ssize r ≤ snodes r := by
   intro r
   induction r with
   | nil => intro _; simp [ssize]
   | cons x r ih2 =>
    intro h
    have h1 := h x (List.mem_cons_self ..)
    have h2 := ih2 (fun s hs => h s (List.mem_cons_of_mem _ hs))
    have h3 := x.nodes_eq
    have h4 := x.size_eq
    simp only [snodes, ssize]; omega
  exact key l ih
theorem slen_ssize (l : List St) : l.length ≤ ssize l := by
 induction l with
 | nil => simp
 | cons x r ih => have := x.size_eq; simp [ssize]; omega
theorem tdepth_nodes : ∀ l : List Tm, tdepth l ≤ tnodes l := by
 have key : ∀ l : List Tm, (∀ k ∈ l, k.depth ≤ k.nodes) → tdepth l ≤ tnodes l := by
  intro l
  induction l with
  | nil => intro _; simp [tdepth]
  | cons x r ih =>
   intro h
   have h1 := h x (List.mem_cons_self ..)
   have h2 := ih (fun k hk => h k (List.mem_cons_of_mem _ hk))
   simp only [tdepth, tnodes]; omega
 have all : ∀ t : Tm, t.depth ≤ t.nodes := by
  intro t
  induction t using Tm.ind with
  | h t ih =>
   have := key t.kids ih
   rw [t.depth_eq, t.nodes_eq]; omega
 exact fun l => key l (fun k _ => all k)
theorem sdepth_nodes : ∀ l : List St, sdepth l ≤ snodes l := by
 intro l
 induction l using Sts.ind with
 | h l ih =>
  have key : ∀ r : List St, (∀ s ∈ r, sdepth s.thn ≤ snodes s.thn ∧ sdepth s.els ≤ snodes s.els) → sdepth r ≤ snodes r := by
   intro r
   induction r with
   | nil => intro _; simp [sdepth]
   | cons x r ih2 =>
    intro h
    have h1 := h x (List.mem_cons_self ..)
    have h2 := ih2 (fun s hs => h s (List.mem_cons_of_mem _ hs))
    have h3 := x.nodes_eq
    have h4 := x.depth_eq
    simp only [snodes, sdepth]; omega
  exact key l ih
def hnodes : List Ht → Nat
 | [] => 0
 | h :: r => h.term.nodes + hnodes r
theorem hnodes_append (a b : List Ht) : hnodes (a ++ b) = hnodes a + hnodes b := by
 induction a with
 | nil => simp [hnodes]
 | cons x r ih => simp [hnodes, ih, Nat.add_assoc]
theorem hnodes_take {l : List Ht} {i : Nat} {x : Ht} (h : l[i]? = some x) : hnodes (l.take (i + 1)) = hnodes (l.take i) + x.term.nodes := by rw [take_get h, hnodes_append]; simp [hnodes]
theorem hnodes_split {l : List Ht} {i : Nat} {x : Ht} (h : l[i]? = some x) : hnodes l = hnodes (l.take i) + x.term.nodes + hnodes (l.drop (i + 1)) := by
 conv => lhs; rw [split_get h]
 rw [hnodes_append]; simp [hnodes, Nat.add_assoc]
theorem Nd.eq4 {a b : Nd} (h1 : a.kind = b.kind) (h2 : a.at_ = b.at_) (h3 : a.next = b.next) (h4 : a.other = b.other) : a = b := by
 cases a; cases b; simp_all
mutual
/-- The number of nodes of a step. -/
def St.wid : St → Nat
 | .mk a _ _ _ _ f g _ => 1 + widL f + widL g + (if a = 4 then 1 else 0)
def widL : List St → Nat
 | [] => 0
 | s :: r => s.wid + widL r
end
theorem St.wid_eq (s : St) : s.wid = 1 + widL s.thn + widL s.els + (if s.act = 4 then 1 else 0) := by cases s; rfl
theorem widL_append (a b : List St) : widL (a ++ b) = widL a + widL b := by
 induction a with
 | nil => simp [widL]
 | cons x r ih => simp [widL, ih, Nat.add_assoc]
theorem widL_take {l : List St} {i : Nat} {x : St} (h : l[i]? = some x) : widL (l.take (i + 1)) = widL (l.take i) + x.wid := by rw [take_get h, widL_append]; simp [widL]
theorem widL_split {l : List St} {i : Nat} {x : St} (h : l[i]? = some x) : widL l = widL (l.take i) + x.wid + widL (l.drop (i + 1)) := by
 conv => lhs; rw [split_get h]
 rw [widL_append]; simp [widL, Nat.add_assoc]
theorem widL_le : ∀ l : List St, widL l ≤ 2 * ssize l := by
 intro l
 induction l using Sts.ind with
 | h l ih =>
  have key : ∀ r : List St, (∀ s ∈ r, widL s.thn ≤ 2 * ssize s.thn ∧ widL s.els ≤ 2 * ssize s.els) → widL r ≤ 2 * ssize r := by
   intro r
   induction r with
   | nil => intro _; simp [widL]
   | cons x r ih2 =>
    intro h
    have h1 := h x (List.mem_cons_self ..)
    have h2 := ih2 (fun s hs => h s (List.mem_cons_of_mem _ hs))
    have h3 := x.wid_eq
    have h4 := x.size_eq
    have h5 : (if x.act = 4 then 1 else 0) ≤ 1 := by split <;> omega
    simp only [widL, ssize]; omega
  exact key l ih
mutual
def St.lay : St → Nat → Nat → Nat → List Nd
 | .mk a _ _ _ _ f g _, at_, node, e =>
  if a = 3 then ⟨3, at_, if f.isEmpty then e else (node + 1 : Nat), if g.isEmpty then e else (node + 1 + widL f : Nat)⟩ :: (layL f (at_ + 1) (node + 1) e ++ layL g (at_ + 1 + ssize f) (node + 1 + widL f) e)
  else if a = 4 then ⟨4, at_, (node + 1 : Nat), -1⟩ :: ⟨5, at_, if f.isEmpty then (node + 1 : Nat) else (node + 2 : Nat), e⟩ :: layL f (at_ + 1) (node + 2) (node + 1)
  else [⟨2, at_, e, -1⟩]
def layL : List St → Nat → Nat → Nat → List Nd
 | [], _, _, _ => []
 | s :: r, at_, node, after => s.lay at_ node (if r.isEmpty then after else node + s.wid) ++ layL r (at_ + s.size) (node + s.wid) after
end
theorem St.lay_eq (s : St) (at_ node e : Nat) : s.lay at_ node e =
  if s.act = 3 then ⟨3, at_, if s.thn.isEmpty then e else (node + 1 : Nat), if s.els.isEmpty then e else (node + 1 + widL s.thn : Nat)⟩ :: (layL s.thn (at_ + 1) (node + 1) e ++ layL s.els (at_ + 1 + ssize s.thn) (node + 1 + widL s.thn) e)
  else if s.act = 4 then ⟨4, at_, (node + 1 : Nat), -1⟩ :: ⟨5, at_, if s.thn.isEmpty then (node + 1 : Nat) else (node + 2 : Nat), e⟩ :: layL s.thn (at_ + 1) (node + 2) (node + 1)
  else [⟨2, at_, e, -1⟩] := by cases s; rw [St.lay]; rfl
def cfgN (f : Fl) : List Nd := ⟨0, -1, 1, -1⟩ :: (layL f.body 0 1 (1 + widL f.body) ++ [⟨1, -1, -1, -1⟩])
abbrev Hang := Nat × Bool
def setE (ns : List Nd) (to : Int) (e : Hang) : List Nd := ns.modify e.1 fun x => if e.2 then { x with other := to } else { x with next := to }
def setAll (ns : List Nd) (to : Int) (es : List Hang) : List Nd := es.foldl (fun ns e => setE ns to e) ns
structure Bd where
 nodes : List Nd
 step : Nat
mutual
def St.one : St → Nat → Bd → Bd × List Hang
 | .mk a _ _ _ _ f g _, at_, b =>
  if a = 3 then
   let x := listB f { nodes := b.nodes ++ [⟨3, b.step, -1, -1⟩], step := b.step + 1 } [(at_, false)]
   let y := listB g x.1 [(at_, true)]
   (y.1, x.2 ++ y.2)
  else if a = 4 then
   let x := listB f { nodes := setE (b.nodes ++ [⟨4, b.step, -1, -1⟩, ⟨5, b.step, -1, -1⟩]) (at_ + 1 : Nat) (at_, false), step := b.step + 1 } [(at_ + 1, false)]
   ({ x.1 with nodes := setAll x.1.nodes (at_ + 1 : Nat) x.2 }, [(at_ + 1, true)])
  else ({ nodes := b.nodes ++ [⟨2, b.step, -1, -1⟩], step := b.step + 1 }, [(at_, false)])
def listB : List St → Bd → List Hang → Bd × List Hang
 | [], b, ins => (b, ins)
 | s :: r, b, ins =>
  let x := s.one b.nodes.length { b with nodes := setAll b.nodes b.nodes.length ins }
  listB r x.1 x.2
end
theorem St.one_eq (s : St) (at_ : Nat) (b : Bd) : s.one at_ b =
  if s.act = 3 then
   ((listB s.els (listB s.thn { nodes := b.nodes ++ [⟨3, b.step, -1, -1⟩], step := b.step + 1 } [(at_, false)]).1 [(at_, true)]).1,
    (listB s.thn { nodes := b.nodes ++ [⟨3, b.step, -1, -1⟩], step := b.step + 1 } [(at_, false)]).2 ++ (listB s.els (listB s.thn { nodes := b.nodes ++ [⟨3, b.step, -1, -1⟩], step := b.step + 1 } [(at_, false)]).1 [(at_, true)]).2)
  else if s.act = 4 then
   ({ (listB s.thn { nodes := setE (b.nodes ++ [⟨4, b.step, -1, -1⟩, ⟨5, b.step, -1, -1⟩]) (at_ + 1 : Nat) (at_, false), step := b.step + 1 } [(at_ + 1, false)]).1 with
    nodes := setAll (listB s.thn { nodes := setE (b.nodes ++ [⟨4, b.step, -1, -1⟩, ⟨5, b.step, -1, -1⟩]) (at_ + 1 : Nat) (at_, false), step := b.step + 1 } [(at_ + 1, false)]).1.nodes (at_ + 1 : Nat)
     (listB s.thn { nodes := setE (b.nodes ++ [⟨4, b.step, -1, -1⟩, ⟨5, b.step, -1, -1⟩]) (at_ + 1 : Nat) (at_, false), step := b.step + 1 } [(at_ + 1, false)]).2 }, [(at_ + 1, true)])
  else ({ nodes := b.nodes ++ [⟨2, b.step, -1, -1⟩], step := b.step + 1 }, [(at_, false)]) := by cases s; rw [St.one]; rfl
theorem listB_cons (s : St) (r : List St) (b : Bd) (ins : List Hang) : listB (s :: r) b ins = listB r (s.one b.nodes.length { b with nodes := setAll b.nodes b.nodes.length ins }).1 (s.one b.nodes.length { b with nodes := setAll b.nodes b.nodes.length ins }).2 := by rw [listB]
def buildB (f : Fl) : List Nd :=
 setAll (listB f.body { nodes := [⟨0, -1, -1, -1⟩], step := 0 } [(0, false)]).1.nodes ((listB f.body { nodes := [⟨0, -1, -1, -1⟩], step := 0 } [(0, false)]).1.nodes.length : Nat) (listB f.body { nodes := [⟨0, -1, -1, -1⟩], step := 0 } [(0, false)]).2 ++ [⟨1, -1, -1, -1⟩]
theorem setE_len (ns : List Nd) (to : Int) (e : Hang) : (setE ns to e).length = ns.length := by simp [setE]
theorem setAll_len (es : List Hang) : ∀ (ns : List Nd) (to : Int), (setAll ns to es).length = ns.length := by
 induction es with
 | nil => intro ns to; rfl
 | cons e r ih => intro ns to; rw [setAll, List.foldl_cons, ← setAll, ih, setE_len]
theorem setAll_cons (e : Hang) (r : List Hang) (ns : List Nd) (to : Int) : setAll ns to (e :: r) = setAll (setE ns to e) to r := rfl
theorem setAll_append (a b : List Hang) (ns : List Nd) (to : Int) : setAll ns to (a ++ b) = setAll (setAll ns to a) to b := by simp [setAll, List.foldl_append]
theorem setE_comm (ns : List Nd) (to to' : Int) (e e' : Hang) (h : to = to' ∨ e ≠ e') : setE (setE ns to e) to' e' = setE (setE ns to' e') to e := by
 apply List.ext_getElem?
 intro i
 simp only [setE, List.getElem?_modify]
 obtain ⟨a, p⟩ := e
 obtain ⟨a', p'⟩ := e'
 dsimp only
 by_cases h1 : a = i <;> by_cases h2 : a' = i <;> simp only [h1, h2, if_true, if_false] <;> cases ns[i]? <;> simp
 rename_i x
 cases p <;> cases p' <;> simp
 ·
  rcases h with h | h
  · exact h.symm
  · exact absurd (by rw [h1, h2]) h
 ·
  rcases h with h | h
  · exact h.symm
  · exact absurd (by rw [h1, h2]) h
theorem setAll_setE (es : List Hang) : ∀ (ns : List Nd) (to to' : Int) (e : Hang), (to = to' ∨ e ∉ es) → setAll (setE ns to' e) to es = setE (setAll ns to es) to' e := by
 induction es with
 | nil => intro ns to to' e _; rfl
 | cons x r ih =>
  intro ns to to' e h
  rw [setAll_cons, setAll_cons, ← ih _ _ _ _ (h.imp id (fun h hm => h (List.mem_cons_of_mem _ hm)))]
  congr 1
  exact setE_comm _ _ _ _ _ (h.imp (fun h => h.symm) (fun h he => h (by rw [he]; exact List.mem_cons_self ..)))
theorem setAll_comm (es es' : List Hang) (ns : List Nd) (to : Int) : setAll (setAll ns to es) to es' = setAll (setAll ns to es') to es := by
 induction es generalizing ns with
 | nil => rfl
 | cons e r ih =>
  rw [setAll_cons, ih, setAll_cons, setAll_setE _ _ _ _ _ (.inl rfl)]
theorem setE_left {ns ms : List Nd} {to : Int} {e : Hang} (h : e.1 < ns.length) : setE (ns ++ ms) to e = setE ns to e ++ ms := by
 apply List.ext_getElem?
 intro i
 simp only [setE, List.getElem?_modify]
 by_cases h1 : i < ns.length
 · rw [List.getElem?_append_left h1, List.getElem?_append_left (by simpa using h1), List.getElem?_modify]
 ·
  rw [List.getElem?_append_right (by omega), List.getElem?_append_right (by simp; omega)]
  simp [show ¬ e.1 = i by omega]
theorem setAll_left {es : List Hang} : ∀ {ns ms : List Nd} {to : Int}, (∀ e ∈ es, e.1 < ns.length) → setAll (ns ++ ms) to es = setAll ns to es ++ ms := by
 induction es with
 | nil => intro ns ms to _; rfl
 | cons e r ih =>
  intro ns ms to h
  rw [setAll_cons, setAll_cons, setE_left (h e (List.mem_cons_self ..)), ih (fun x hx => by rw [setE_len]; exact h x (List.mem_cons_of_mem _ hx))]
theorem setE_last {ns : List Nd} {x : Nd} {to : Int} {p : Bool} {k : Nat} (hk : k = ns.length) : setE (ns ++ [x]) to (k, p) = ns ++ [if p then { x with other := to } else { x with next := to }] := by
 subst hk
 apply List.ext_getElem?
 intro i
 simp only [setE, List.getElem?_modify]
 by_cases h1 : i < ns.length
 · rw [List.getElem?_append_left h1, List.getElem?_append_left h1]; simp [show ¬ ns.length = i by omega]
 ·
  rw [List.getElem?_append_right (by omega), List.getElem?_append_right (by omega)]
  by_cases h2 : i = ns.length
  · subst h2; simp
  · rw [List.getElem?_eq_none (by simp; omega), List.getElem?_eq_none (by simp; omega)]; simp
theorem setE_mid {ns ms : List Nd} {x : Nd} {to : Int} {p : Bool} {k : Nat} (hk : k = ns.length) : setE (ns ++ x :: ms) to (k, p) = ns ++ (if p then { x with other := to } else { x with next := to }) :: ms := by
 have := setE_left (ns := ns ++ [x]) (ms := ms) (to := to) (e := (k, p)) (by simp; omega)
 rw [List.append_assoc, List.singleton_append, setE_last hk] at this
 simpa using this
mutual
def St.plainB : St → Bool
 | .mk a _ _ _ _ f g _ => (if a = 3 then true else if a = 4 then g.isEmpty else f.isEmpty && g.isEmpty) && plainL f && plainL g
def plainL : List St → Bool
 | [] => true
 | s :: r => s.plainB && plainL r
end
theorem St.plainB_eq (s : St) : s.plainB = ((if s.act = 3 then true else if s.act = 4 then s.els.isEmpty else s.thn.isEmpty && s.els.isEmpty) && plainL s.thn && plainL s.els) := by cases s; rw [St.plainB]; rfl
theorem plainL_mem {l : List St} (h : plainL l = true) : ∀ s ∈ l, s.plainB = true := by
 induction l with
 | nil => intro s hs; simp at hs
 | cons x r ih =>
  intro s hs
  rw [plainL, Bool.and_eq_true] at h
  rcases List.mem_cons.1 hs with rfl | hs
  · exact h.1
  · exact ih h.2 s hs
theorem plainL_of {l : List St} (h : ∀ s ∈ l, s.plainB = true) : plainL l = true := by
 induction l with
 | nil => rfl
 | cons x r ih => rw [plainL, h x (List.mem_cons_self ..), ih (fun s hs => h s (List.mem_cons_of_mem _ hs))]; rfl
structure BOk (l : List St) (b : Bd) (ins : List Hang) (c : Bd) (outs : List Hang) : Prop where
 len : c.nodes.length = b.nodes.length + widL l
 step : c.step = b.step + ssize l
 out : ∀ e ∈ outs, e ∈ ins ∨ b.nodes.length ≤ e.1
 lt : ∀ e ∈ outs, e.1 < c.nodes.length
 lay : ∀ after : Nat, setAll c.nodes after outs = setAll b.nodes (if l.isEmpty then after else b.nodes.length : Nat) ins ++ layL l b.step b.nodes.length after
structure OOk (s : St) (b : Bd) (c : Bd) (outs : List Hang) : Prop where
 len : c.nodes.length = b.nodes.length + s.wid
 step : c.step = b.step + s.size
 out : ∀ e ∈ outs, b.nodes.length ≤ e.1
 lt : ∀ e ∈ outs, e.1 < c.nodes.length
 lay : ∀ after : Nat, setAll c.nodes after outs = b.nodes ++ s.lay b.step b.nodes.length after
theorem one_built (s : St) (hp : s.plainB = true) (h1 : ∀ (b : Bd) (ins : List Hang), (∀ e ∈ ins, e.1 < b.nodes.length) → BOk s.thn b ins (listB s.thn b ins).1 (listB s.thn b ins).2)
  (h2 : ∀ (b : Bd) (ins : List Hang), (∀ e ∈ ins, e.1 < b.nodes.length) → BOk s.els b ins (listB s.els b ins).1 (listB s.els b ins).2) (b : Bd) : OOk s b (s.one b.nodes.length b).1 (s.one b.nodes.length b).2 := by
 rw [s.plainB_eq, Bool.and_eq_true, Bool.and_eq_true] at hp
 have hw := s.wid_eq
 have hz := s.size_eq
 rw [s.one_eq]
 by_cases a3 : s.act = 3
 ·
  rw [if_neg (show ¬ s.act = 4 by omega)] at hw
  simp only [if_pos a3]
  have H1 := h1 { nodes := b.nodes ++ [⟨3, b.step, -1, -1⟩], step := b.step + 1 } [(b.nodes.length, false)] (by simp)
  generalize hx : listB s.thn { nodes := b.nodes ++ [⟨3, b.step, -1, -1⟩], step := b.step + 1 } [(b.nodes.length, false)] = x at H1
  obtain ⟨len1, step1, out1, lt1, lay1⟩ := H1
  simp only [List.length_append, List.length_singleton] at len1 step1 out1 lay1
  have H2 := h2 x.1 [(b.nodes.length, true)] (by simp; omega)
  generalize hy : listB s.els x.1 [(b.nodes.length, true)] = y at H2
  obtain ⟨len2, step2, out2, lt2, lay2⟩ := H2
  refine ⟨by omega, by omega, ?_, ?_, ?_⟩
  ·
   intro e he
   rcases List.mem_append.1 he with he | he
   ·
    rcases out1 e he with h | h
    · rw [List.mem_singleton.1 h]; exact Nat.le_refl _
    · omega
   ·
    rcases out2 e he with h | h
    · rw [List.mem_singleton.1 h]; exact Nat.le_refl _
    · omega
  ·
   intro e he
   rcases List.mem_append.1 he with he | he
   · have := lt1 e he; omega
   · exact lt2 e he
  ·
   intro after
   have hnot : (b.nodes.length, true) ∉ x.2 := by
    intro h
    rcases out1 _ h with h | h
    · simp at h
    · dsimp only at h; omega
   rw [setAll_append, setAll_comm, lay2, setAll_left (by intro e he; rw [setAll_len]; exact lt1 e he)]
   rw [show ∀ (t : Int), setAll x.1.nodes t [(b.nodes.length, true)] = setE x.1.nodes t (b.nodes.length, true) from fun _ => rfl]
   rw [setAll_setE _ _ _ _ _ (.inr hnot), lay1]
   rw [show ∀ (t : Int) (ns : List Nd), setAll ns t [(b.nodes.length, false)] = setE ns t (b.nodes.length, false) from fun _ _ => rfl]
   rw [setE_last rfl, List.append_assoc, List.singleton_append, setE_mid rfl, s.lay_eq, if_pos a3]
   rw [List.append_assoc, List.cons_append, step1, len1]
   simp only [if_true, Bool.false_eq_true, if_false]
   congr 2
   apply Nd.eq4 <;> dsimp only
   · split <;> rfl
   · rw [apply_ite Nat.cast]
 ·
  by_cases a4 : s.act = 4
  ·
   rw [if_pos a4] at hw
   rw [if_neg a3, if_pos a4] at hp
   have he0 : s.els = [] := by simpa using hp.1.1
   rw [he0] at hw hz
   simp only [widL, ssize] at hw hz
   simp only [if_neg a3, if_pos a4]
   have hst : setE (b.nodes ++ [⟨4, b.step, -1, -1⟩, ⟨5, b.step, -1, -1⟩]) (b.nodes.length + 1 : Nat) (b.nodes.length, false) = b.nodes ++ [⟨4, b.step, (b.nodes.length + 1 : Nat), -1⟩, ⟨5, b.step, -1, -1⟩] := by rw [setE_mid rfl]; rfl
   rw [hst]
   have H1 := h1 { nodes := b.nodes ++ [⟨4, b.step, (b.nodes.length + 1 : Nat), -1⟩, ⟨5, b.step, -1, -1⟩], step := b.step + 1 } [(b.nodes.length + 1, false)] (by simp)
   generalize hx : listB s.thn { nodes := b.nodes ++ [⟨4, b.step, (b.nodes.length + 1 : Nat), -1⟩, ⟨5, b.step, -1, -1⟩], step := b.step + 1 } [(b.nodes.length + 1, false)] = x at H1
   obtain ⟨len1, step1, out1, lt1, lay1⟩ := H1
   simp only [List.length_append, List.length_cons, List.length_nil] at len1 step1 out1 lay1
   refine ⟨by rw [setAll_len]; omega, by dsimp only; omega, ?_, ?_, ?_⟩
   ·
    intro e he
    rw [List.mem_singleton.1 he]; dsimp only; omega
   ·
    intro e he
    rw [List.mem_singleton.1 he, setAll_len]; dsimp only; omega
   ·
    intro after
    dsimp only
    rw [lay1]
    simp only [show ∀ (t : Int) (ns : List Nd) (q : Bool), setAll ns t [(b.nodes.length + 1, q)] = setE ns t (b.nodes.length + 1, q) from fun _ _ _ => rfl]
    rw [show ∀ (x y : Nd), b.nodes ++ [x, y] = (b.nodes ++ [x]) ++ [y] from fun x y => by simp]
    rw [setE_last (by simp)]
    rw [List.append_assoc (b.nodes ++ [_]), List.singleton_append, setE_mid (by simp), s.lay_eq, if_neg a3, if_pos a4, List.append_assoc, List.singleton_append]
    simp only [if_true, Bool.false_eq_true, if_false]
    congr 3
    apply Nd.eq4 <;> dsimp only
    rw [apply_ite Nat.cast]
  ·
   rw [if_neg a4] at hw
   rw [if_neg a3, if_neg a4, Bool.and_eq_true, List.isEmpty_iff, List.isEmpty_iff] at hp
   rw [hp.1.1.1, hp.1.1.2] at hw hz
   simp only [widL, ssize] at hw hz
   simp only [if_neg a3, if_neg a4]
   refine ⟨by simp; omega, by dsimp only; omega, ?_, ?_, ?_⟩
   · intro e he; rw [List.mem_singleton.1 he]; exact Nat.le_refl _
   · intro e he; rw [List.mem_singleton.1 he]; simp
   ·
    intro after
    dsimp only
    rw [show ∀ (t : Int) (ns : List Nd), setAll ns t [(b.nodes.length, false)] = setE ns t (b.nodes.length, false) from fun _ _ => rfl]
    rw [setE_last rfl, s.lay_eq, if_neg a3, if_neg a4]
    rfl
theorem list_built (l : List St) : plainL l = true → ∀ (b : Bd) (ins : List Hang), (∀ e ∈ ins, e.1 < b.nodes.length) → BOk l b ins (listB l b ins).1 (listB l b ins).2 := by
 induction l using Sts.ind with
 | h l ih =>
 intro hp
 have key : ∀ r : List St, (∀ x ∈ r, x ∈ l) → ∀ (b : Bd) (ins : List Hang), (∀ e ∈ ins, e.1 < b.nodes.length) → BOk r b ins (listB r b ins).1 (listB r b ins).2 := by
  intro r
  induction r with
  | nil =>
   intro _ b ins hi
   rw [listB]
   exact ⟨by simp [widL], by simp [ssize], fun e he => .inl he, hi, fun after => by simp [layL]⟩
  | cons s r ihr =>
   intro hm b ins hi
   have hs := plainL_mem hp s (hm s (List.mem_cons_self ..))
   have hs2 := hs
   rw [s.plainB_eq, Bool.and_eq_true, Bool.and_eq_true] at hs2
   have H := one_built s hs (fun b ins h => (ih s (hm s (List.mem_cons_self ..))).1 hs2.1.2 b ins h) (fun b ins h => (ih s (hm s (List.mem_cons_self ..))).2 hs2.2 b ins h) { b with nodes := setAll b.nodes b.nodes.length ins }
   rw [listB_cons]
   dsimp only at H
   rw [setAll_len] at H
   generalize s.one b.nodes.length { b with nodes := setAll b.nodes b.nodes.length ins } = x at H
   obtain ⟨len1, step1, out1, lt1, lay1⟩ := H
   simp only [setAll_len] at len1 step1 out1 lt1 lay1
   have H2 := ihr (fun y hy => hm y (List.mem_cons_of_mem _ hy)) x.1 x.2 lt1
   generalize listB r x.1 x.2 = y at H2
   obtain ⟨len2, step2, out2, lt2, lay2⟩ := H2
   refine ⟨by simp only [widL]; omega, by simp only [ssize]; omega, ?_, lt2, ?_⟩
   ·
    intro e he
    rcases out2 e he with h | h
    · exact .inr (out1 e h)
    · exact .inr (by omega)
   ·
    intro after
    rw [lay2, lay1, layL, List.append_assoc, len1, step1]
    simp only [List.isEmpty_cons, Bool.false_eq_true, if_false]
 exact key l (fun x h => h)
theorem build_eq (f : Fl) (hp : plainL f.body = true) : buildB f = cfgN f := by
 have H := list_built f.body hp { nodes := [⟨0, -1, -1, -1⟩], step := 0 } [(0, false)] (by simp)
 unfold buildB cfgN
 generalize listB f.body { nodes := [⟨0, -1, -1, -1⟩], step := 0 } [(0, false)] = x at H ⊢
 obtain ⟨len1, step1, out1, lt1, lay1⟩ := H
 simp only [List.length_singleton] at len1 lay1
 rw [lay1, len1]
 rw [show ∀ (t : Int) (ns : List Nd), setAll ns t [((0 : Nat), false)] = setE ns t (0, false) from fun _ _ => rfl]
 have h1 : ∀ t : Int, setE [⟨0, -1, -1, -1⟩] t (0, false) = [⟨0, -1, t, -1⟩] := fun t => rfl
 rw [h1]
 have h2 : ((if f.body.isEmpty then 1 + widL f.body else 1 : Nat) : Int) = 1 := by
  split
  ·
   rename_i h
   have : f.body = [] := by simpa using h
   rw [this]; rfl
  · rfl
 rw [h2]
 rfl
theorem layL_len (l : List St) : plainL l = true → ∀ at_ node after, (layL l at_ node after).length = widL l := by
 intro hp at_ node after
 have H := list_built l hp { nodes := List.replicate node ⟨0, 0, 0, 0⟩, step := at_ } [] (by simp)
 have h1 := H.lay after
 have h2 := congrArg List.length h1
 rw [setAll_len, H.len] at h2
 simp [setAll] at h2
 exact h2.symm
theorem cfgN_len (f : Fl) (hp : plainL f.body = true) : (cfgN f).length = widL f.body + 2 := by
 simp [cfgN, layL_len _ hp]
structure Nums (ns : List Nd) (a n : Nat) : Prop where
 range : ∀ x ∈ ns, (a : Int) ≤ x.at_ ∧ x.at_ < (a + n : Nat)
 ord : ns.Pairwise fun x y => x.at_ ≤ y.at_
 all : ∀ k, k < n → ∃ x ∈ ns, x.at_ = (a + k : Nat)
theorem Nums.nil (a : Nat) : Nums [] a 0 := ⟨fun x h => by simp at h, List.Pairwise.nil, fun k h => by omega⟩
theorem Nums.append {ns ms : List Nd} {a n b m : Nat} (h : Nums ns a n) (h' : Nums ms b m) (hb : b = a + n) : Nums (ns ++ ms) a (n + m) := by
 subst hb
 refine ⟨fun x hx => ?_, ?_, fun k hk => ?_⟩
 ·
  rcases List.mem_append.1 hx with hx | hx
  · have := h.range x hx; omega
  · have := h'.range x hx; omega
 ·
  rw [List.pairwise_append]
  refine ⟨h.ord, h'.ord, fun x hx y hy => ?_⟩
  have := h.range x hx
  have := h'.range y hy
  omega
 ·
  by_cases hk2 : k < n
  ·
   obtain ⟨x, hx, e⟩ := h.all k hk2
   exact ⟨x, List.mem_append_left _ hx, e⟩
  ·
   obtain ⟨x, hx, e⟩ := h'.all (k - n) (by omega)
   exact ⟨x, List.mem_append_right _ hx, by rw [e]; omega⟩
theorem Nums.cons {ns : List Nd} {a n : Nat} {x : Nd} (h : Nums ns (a + 1) n) (hx : x.at_ = a) : Nums (x :: ns) a (n + 1) := by
 refine ⟨fun y hy => ?_, ?_, fun k hk => ?_⟩
 ·
  rcases List.mem_cons.1 hy with rfl | hy
  · omega
  · have := h.range y hy; omega
 ·
  rw [List.pairwise_cons]
  exact ⟨fun y hy => by have := h.range y hy; omega, h.ord⟩
 ·
  by_cases hk2 : k = 0
  · subst hk2; exact ⟨x, List.mem_cons_self .., hx⟩
  ·
   obtain ⟨y, hy, e⟩ := h.all (k - 1) (by omega)
   exact ⟨y, List.mem_cons_of_mem _ hy, by rw [e]; omega⟩
theorem Nums.again {ns : List Nd} {a n : Nat} {x : Nd} (h : Nums ns a n) (hn : 0 < n) (hx : x.at_ = a) : Nums (x :: ns) a n := by
 refine ⟨fun y hy => ?_, ?_, fun k hk => ?_⟩
 ·
  rcases List.mem_cons.1 hy with rfl | hy
  · omega
  · exact h.range y hy
 ·
  rw [List.pairwise_cons]
  exact ⟨fun y hy => by have := h.range y hy; omega, h.ord⟩
 ·
  obtain ⟨y, hy, e⟩ := h.all k hk
  exact ⟨y, List.mem_cons_of_mem _ hy, e⟩
theorem lay_nums (l : List St) : plainL l = true → ∀ a node after, Nums (layL l a node after) a (ssize l) := by
 induction l using Sts.ind with
 | h l ih =>
 intro hp
 have key : ∀ r : List St, (∀ x ∈ r, x ∈ l) → ∀ a node after, Nums (layL r a node after) a (ssize r) := by
  intro r
  induction r with
  | nil => intro _ a node after; exact Nums.nil a
  | cons s r ihr =>
   intro hm a node after
   have hs := plainL_mem hp s (hm s (List.mem_cons_self ..))
   rw [s.plainB_eq, Bool.and_eq_true, Bool.and_eq_true] at hs
   have h1 := (ih s (hm s (List.mem_cons_self ..))).1 hs.1.2
   have h2 := (ih s (hm s (List.mem_cons_self ..))).2 hs.2
   rw [layL, ssize]
   refine Nums.append ?_ (ihr (fun y hy => hm y (List.mem_cons_of_mem _ hy)) _ _ _) rfl
   generalize (if r.isEmpty = true then after else node + s.wid) = e
   have hz := s.size_eq
   rw [s.lay_eq]
   by_cases a3 : s.act = 3
   ·
    rw [if_pos a3, show s.size = (ssize s.thn + ssize s.els) + 1 by omega]
    exact Nums.cons (Nums.append (h1 _ _ _) (h2 _ _ _) rfl) rfl
   ·
    by_cases a4 : s.act = 4
    ·
     rw [if_neg a3, if_pos a4] at hs
     rw [if_neg a3, if_pos a4]
     have he0 : s.els = [] := by simpa using hs.1.1
     rw [he0] at hz
     simp only [ssize] at hz
     rw [show s.size = ssize s.thn + 1 by omega]
     exact Nums.again (Nums.cons (h1 _ _ _) rfl) (by omega) rfl
    ·
     rw [if_neg a3, if_neg a4, Bool.and_eq_true, List.isEmpty_iff, List.isEmpty_iff] at hs
     rw [if_neg a3, if_neg a4]
     rw [hs.1.1.1, hs.1.1.2] at hz
     simp only [ssize] at hz
     rw [show s.size = 0 + 1 by omega]
     exact Nums.cons (Nums.nil _) rfl
 exact key l (fun x h => h)
def fIdx {α : Type} (p : α → Bool) (l : List α) : Int := match l.findIdx? p with
 | some i => i
 | none => -1
theorem cfgN_first (f : Fl) (hp : plainL f.body = true) (k : Nat) (hk : k < ssize f.body) :
  ∃ i : Nat, i < (cfgN f).length ∧ fIdx (fun x : Nd => decide (x.at_ = (k : Int))) (cfgN f) = i ∧ (k + 1 < ssize f.body → ∃ j : Nat, fIdx (fun x : Nd => decide (x.at_ = ((k + 1 : Nat) : Int))) (cfgN f) = j ∧ i < j) := by
 have H := lay_nums f.body hp 0 1 (1 + widL f.body)
 have hex : ∀ k, k < ssize f.body → ∃ i, (cfgN f).findIdx? (fun x : Nd => decide (x.at_ = (k : Int))) = some i := by
  intro k hk
  obtain ⟨x, hx, e⟩ := H.all k hk
  rw [← Option.isSome_iff_exists, List.findIdx?_isSome, List.any_eq_true]
  exact ⟨x, by unfold cfgN; simp [hx], by rw [e]; simp⟩
 obtain ⟨i, hi⟩ := hex k hk
 have hi2 := List.findIdx?_eq_some_iff_getElem.1 hi
 obtain ⟨hlt, hpi, hno⟩ := hi2
 refine ⟨i, hlt, by rw [fIdx, hi], fun hk1 => ?_⟩
 obtain ⟨j, hj⟩ := hex (k + 1) hk1
 refine ⟨j, by rw [fIdx, hj], ?_⟩
 obtain ⟨hlt2, hpj, hno2⟩ := List.findIdx?_eq_some_iff_getElem.1 hj
 have e1 : (cfgN f)[i].at_ = k := of_decide_eq_true hpi
 have e2 : (cfgN f)[j].at_ = (k + 1 : Nat) := of_decide_eq_true hpj
 by_cases hij : i < j
 · exact hij
 ·
  exfalso
  by_cases he : i = j
  · subst he; omega
  ·
   have hji : j < i := by omega
   have hL : (cfgN f) = (⟨0, -1, 1, -1⟩ :: layL f.body 0 1 (1 + widL f.body)) ++ [⟨1, -1, -1, -1⟩] := by unfold cfgN; simp
   have hlen : i < (⟨0, -1, 1, -1⟩ :: layL f.body 0 1 (1 + widL f.body) : List Nd).length := by
    rcases Nat.lt_or_ge i (⟨0, -1, 1, -1⟩ :: layL f.body 0 1 (1 + widL f.body) : List Nd).length with h | h
    · exact h
    ·
     exfalso
     have h3 : (cfgN f)[i]? = some (cfgN f)[i] := List.getElem?_eq_getElem hlt
     generalize (cfgN f)[i] = z at h3 e1
     rw [hL, List.getElem?_append_right h] at h3
     have h4 := List.mem_of_getElem? h3
     rw [List.mem_singleton] at h4
     rw [h4] at e1
     simp at e1
   have hj0 : j ≠ 0 := by
    rintro rfl
    have : (cfgN f)[0].at_ = -1 := rfl
    omega
   have hget : ∀ q, q < i + 1 → q ≠ 0 → ∃ h, (cfgN f)[q]? = some ((layL f.body 0 1 (1 + widL f.body))[q - 1]'h) := by
    intro q hq hq0
    refine ⟨by simp at hlen; omega, ?_⟩
    rw [hL, List.getElem?_append_left (by omega)]
    obtain ⟨q, rfl⟩ : ∃ r, q = r + 1 := ⟨q - 1, by omega⟩
    rw [List.getElem?_cons_succ]
    simp
   obtain ⟨hA, hA'⟩ := hget i (by omega) (by omega)
   obtain ⟨hB, hB'⟩ := hget j (by omega) hj0
   have hpw := List.pairwise_iff_getElem.1 H.ord (j - 1) (i - 1) hB hA (by omega)
   rw [List.getElem?_eq_getElem hlt] at hA'
   rw [List.getElem?_eq_getElem hlt2] at hB'
   rw [← Option.some.inj hA', ← Option.some.inj hB'] at hpw
   omega
open Go.RowKit
def Wr (p : TypeId → Bool) (W0 : Nat) (w : World) (k : Nat) : Prop := W0 ≤ k ∧ ∀ cs e, Blk w k cs e → p e = true
abbrev KT (p : TypeId → Bool) (W0 : Nat) (w w' : World) : Prop := Keep (Wr p W0 w) w w'
section
variable {p : TypeId → Bool} {W0 : Nat} {w w' w'' : World}
theorem Blk.ty {b : Nat} {cs cs' : List Value} {e e' : TypeId} (h : Blk w b cs e) (h' : Blk w b cs' e') : e = e' ∧ cs = cs' := by
 unfold Blk at h h'
 rw [h] at h'
 injection h' with h'
 injection h' with h1 h2
 exact ⟨h2, List.toArray_inj h1⟩
theorem Blk.ne {a b : Nat} {cs cs' : List Value} {e e' : TypeId} (h : Blk w a cs e) (h' : Blk w b cs' e') (hne : e ≠ e') : a ≠ b := by
 rintro rfl
 exact hne (h.ty h').1
theorem Wr.mk {k : Nat} {cs : List Value} {e : TypeId} (hW : W0 ≤ k) (hb : Blk w k cs e) (hp : p e = true) : Wr p W0 w k := ⟨hW, fun cs' e' h => by rw [← (hb.ty h).1]; exact hp⟩
theorem KT.refl : KT p W0 w w := Keep.refl _ _
theorem KT.trans (h : KT p W0 w w') (h' : KT p W0 w' w'') : KT p W0 w w'' := by
 refine Keep.trans h h' (fun k hk hT => ?_)
 by_cases hS : Wr p W0 w k
 · exact hS
 ·
  exfalso
  apply hS
  refine ⟨hT.1, fun cs e h2 => hT.2 cs e ?_⟩
  unfold Blk at h2 ⊢
  rw [h.block k hk hS]; exact h2
theorem KT.of_ext (h : Ext w w') : KT p W0 w w' := Keep.mono h (fun _ _ h => h.elim)
theorem KT.ext' (h : KT p W0 w w') (h' : Ext w' w'') : KT p W0 w w'' := KT.trans h (KT.of_ext h')
theorem KT.wrote {b : Nat} {cs cs' : List Value} {e : TypeId} (hb : Blk w b cs e) (hp : p e = true) (hW : W0 ≤ b) (h : Wrote w b cs' e w') : KT p W0 w w' :=
 h.2.2.mono (fun k _ (hk : k = b) => by subst hk; exact Wr.mk hW hb hp)
theorem own_blkty {e : TypeId} {k : Nat} {v : Value} {n : Nat} {xs : List Value} (h : w.ownsRow 0 e k v n xs) {g : Nat} (hg : v.ownBlock = some g) : ∃ cs, Blk w g cs e := by
 rcases h.2 with ⟨rfl, _⟩ | ⟨g', cap, cur, rfl, _, h2, _⟩
 · simp [Value.ownBlock] at hg
 ·
  simp [Value.ownBlock] at hg
  subst hg
  exact ⟨cur.toList, by unfold Blk; simpa using h2⟩
theorem KT.row {e : TypeId} {k : Nat} {v : Value} {n : Nat} {xs : List Value} (ho : w.ownsRow 0 e k v n xs) (hp : p e = true) (hW : ∀ g, v.ownBlock = some g → W0 ≤ g) (h : Keep (fun k => v.ownBlock = some k) w w') : KT p W0 w w' :=
 h.mono (fun g _ hg => by obtain ⟨cs, hb⟩ := own_blkty ho hg; exact Wr.mk (hW g hg) hb hp)
theorem KT.new {S : Nat → Prop} (h : KT p W0 w w') (h' : Keep S w' w'') (hS : ∀ k, S k → w.heap.size ≤ k) : KT p W0 w w'' :=
 Keep.trans h h' (fun k hk hT => absurd (hS k hT) (by omega))
theorem KT.mono {q : TypeId → Bool} {W1 : Nat} (h : KT p W0 w w') (hq : ∀ e, p e = true → q e = true) (hW : W1 ≤ W0) : KT q W1 w w' :=
 Keep.mono h (fun k _ ⟨h1, h2⟩ => ⟨by omega, fun cs e hb => hq e (h2 cs e hb)⟩)
theorem KT.fresh (h : KT p W0 w w') (hW : w.heap.size ≤ W0) : Ext w w' := Keep.mono h (fun k hk ⟨h1, _⟩ => by omega)
theorem KT.blk (h : KT p W0 w w') {b : Nat} {cs : List Value} {e : TypeId} (hb : Blk w b cs e) (hp : p e = false) : Blk w' b cs e :=
 Keep.blk h hb (fun ⟨_, h2⟩ => by have := h2 _ _ hb; rw [hp] at this; cases this)
theorem KT.own (h : KT p W0 w w') {e : TypeId} {k : Nat} {v : Value} {n : Nat} {xs : List Value} (ho : w.ownsRow 0 e k v n xs) (hp : p e = false) : w'.ownsRow 0 e k v n xs :=
 own_keep ho h (fun g hg ⟨_, h2⟩ => by obtain ⟨cs, hb⟩ := own_blkty ho hg; have := h2 _ _ hb; rw [hp] at this; cases this)
theorem KT.sl (h : KT p W0 w w') {α : Type} {k : Nat} {R : Rel α} (hs : Stable R) {D : Nat → Prop} {v : Value} {l : List α} (hl : SlR k R D w v l) (hD : ∀ q, D q → q < W0) : SlR k R D w' v l :=
 hl.keep hs h (fun q hq _ ⟨h1, _⟩ => by have := hD q hq; omega)
abbrev Above (B : Nat) (w w' : World) : Prop := Keep (fun k => B ≤ k) w w'
theorem Above.of_ext {B : Nat} (h : Ext w w') : Above B w w' := Keep.mono h (fun _ _ h => h.elim)
theorem Above.then {B : Nat} (h : Above B w w') (h' : Above B w' w'') : Above B w w'' := Keep.trans h h' (fun _ _ h => h)
theorem Above.ext' {B : Nat} (h : Above B w w') (h' : Ext w' w'') : Above B w w'' := Keep.ext h h'
theorem Above.of_keep {B : Nat} {S : Nat → Prop} (h : Keep S w w') (hS : ∀ k, S k → B ≤ k) : Above B w w' := Keep.mono h (fun k _ hk => hS k hk)
theorem Above.sl {B : Nat} (h : Above B w w') {α : Type} {k : Nat} {R : Rel α} (hs : Stable R) {D : Nat → Prop} {v : Value} {l : List α} (hl : SlR k R D w v l) (hD : ∀ q, D q → q < B) : SlR k R D w' v l :=
 hl.keep hs h (fun q hq _ (h1 : B ≤ q) => by have := hD q hq; omega)
theorem Above.fresh {B : Nat} (h : Above B w w') (hB : w.heap.size ≤ B) : Ext w w' := Keep.mono h (fun k hk (h1 : B ≤ k) => by omega)
end
end Go.GL
namespace Go.Proofs
theorem Tryz.el3 : (Tryz.prog.info? 3).map (fun i => (i.zero, i.size, i.bytes)) = some (some ((Value.int IntKind.i64 0)), 1, 8) := by kernel_rfl
theorem Tryz.el40 : (Tryz.prog.info? 40).map (fun i => (i.zero, i.size, i.bytes)) = some (some ((Value.agg #[Value.int IntKind.i64 0, Value.int IntKind.i64 0, Value.int IntKind.i64 0, Value.int IntKind.i64 0])), 4, 32) := by kernel_rfl
theorem Tryz.el50 : (Tryz.prog.info? 50).map (fun i => (i.zero, i.size, i.bytes)) = some (some ((Value.slice none 0 0)), 1, 24) := by kernel_rfl
theorem Tryz.el86 : (Tryz.prog.info? 86).map (fun i => (i.zero, i.size, i.bytes)) = some (some ((Value.agg #[Value.int IntKind.i64 0, Value.int IntKind.i64 0, Value.int IntKind.i64 0, Value.int IntKind.i64 0, Value.int IntKind.i64 0, Value.int IntKind.i64 0, Value.slice none 0 0, Value.slice none 0 0, Value.slice none 0 0, Value.slice none 0 0])), 10, 144) := by kernel_rfl
theorem Tryz.el125 : (Tryz.prog.info? 125).map (fun i => (i.zero, i.size, i.bytes)) = some (some ((Value.agg #[Value.string { data := #[] }, Value.int IntKind.i64 0, Value.int IntKind.i64 0, Value.int IntKind.i64 0, Value.int IntKind.i64 0])), 5, 48) := by kernel_rfl
theorem Tryz.el135 : (Tryz.prog.info? 135).map (fun i => (i.zero, i.size, i.bytes)) = some (some ((Value.map none)), 1, 8) := by kernel_rfl
theorem Tryz.el167 : (Tryz.prog.info? 167).map (fun i => (i.zero, i.size, i.bytes)) = some (some (Value.nilFunc), 1, 8) := by kernel_rfl
theorem Tryz.el243 : (Tryz.prog.info? 243).map (fun i => (i.zero, i.size, i.bytes)) = some (some ((Value.agg #[Value.int IntKind.i64 0, Value.int IntKind.i64 0])), 2, 16) := by kernel_rfl
end Go.Proofs
namespace Go.GL
theorem Sub.refl (env : Env) : Sub env env := fun _ _ h => h
theorem Sub.trans {a b c : Env} (h : Sub a b) (h' : Sub b c) : Sub a c := fun k v hk => h' k v (h k v hk)
theorem Sub.push {env : Env} {d : Nat} {v : Value} (h : get env d = none) : Sub env ((d, v) :: env) := by
 intro k u hu
 simp only [GL.get]
 cases hb : Nat.beq d k with
 | true =>
  have := Nat.eq_of_beq_eq_true hb
  subst this
  rw [h] at hu
  cases hu
 | false => exact hu
def Does (P : Program) (o : Oper) (env : Env) (w : World) (R : Value → World → Prop) : Prop := (∃ v w', Runs P o env w v w' ∧ R v w') ∨ ∃ f args, RunsF P o env w f args ∧ Calls P f args w (fun e w' => ∃ v, e = .returned v ∧ R v w')
theorem Does.sub {P : Program} {o : Oper} {env env' : Env} {w : World} {R : Value → World → Prop} (h : Does P o env w R) (hs : Sub env env') : Does P o env' w R := by
 rcases h with ⟨v, w', h1, h2⟩ | ⟨f, args, h1, h2⟩
 · exact .inl ⟨v, w', fun n a ha => h1 n a (ha.sub hs), h2⟩
 · exact .inr ⟨f, args, fun n a ha => h1 n a (ha.sub hs), h2⟩
theorem Does.of {P : Program} {o : Oper} {env : Env} {w : World} {R : Value → World → Prop} (h : Makes P o env w R) : Does P o env w R := .inl h
theorem Does.call {P : Program} {o : Oper} {env : Env} {w : World} {R : Value → World → Prop} {f : FuncId} {args : Array Value} (h : RunsF P o env w f args) (h' : Calls P f args w (Ret R)) : Does P o env w R := .inr ⟨f, args, h, h'⟩
section
variable {P : Program} {n : Nat} {ops : Array Oper} {Q : Exit → Act → World → Prop} {S : World → Prop} {L : List Nat} {env : Env} {w : World} {fuel : Nat} {listed : Array Bool}
theorem WD.sub {env' : Env} (hs : Sub env' env) (h : WD P n ops Q S L fuel listed env' w) : WD P n ops Q S L fuel listed env w := fun a ha => h a (ha.sub hs)
def Fresh (R : World → Value → World → Prop) : Prop := ∀ a v a', R a v a' → Ext a a' ∧ ∃ b, v.ownBlock = some b ∧ a.heap.size ≤ b ∧ b < a'.heap.size
def Made (w : World) (R : World → Value → World → Prop) (v : Value) (w' : World) : Prop := ∃ a a', Ext w a ∧ R a v a' ∧ Ext a' w'
theorem Fresh.apart {R R' : World → Value → World → Prop} (hR : Fresh R) (hR' : Fresh R') {a a' c c' : World} {v u : Value} (h : R a v a') (h' : R' c u c') (hk : Ext a' c) : v.ownBlock ≠ u.ownBlock := by
 obtain ⟨_, b, h1, _, h2⟩ := hR _ _ _ h
 obtain ⟨_, b', h3, h4, _⟩ := hR' _ _ _ h'
 rw [h1, h3]
 intro e
 have e := Option.some.inj e
 have := hk.size
 omega
end
section
variable {P : Program} {n : Nat} {ops : Array Oper} {Q : Exit → Act → World → Prop} {S : World → Prop} {L : List Nat} {env : Env} {w : World} {fuel : Nat} {listed : Array Bool} {v : Value} {o : Oper}
theorem wanted_of {j dj : Nat} {b c x : Bool} {a : Act} (ha : Ok n env a) (hgo : o.guard = some (j, b)) (hj : (ops[j]?).bind (·.dst) = some dj) (hget : get env dj = some (.bool c)) (hx : (c == b) = x) : Region.wanted o (yielded ops a.tmps) = x := by
 have hy : yielded ops a.tmps j = some c := by
  have := ha.get dj _ hget
  simp [yielded, hj, this]
 simp [Region.wanted, hgo, hy, hx]
theorem wanted_yes {j dj : Nat} {b c : Bool} {a : Act} (ha : Ok n env a) (hgo : o.guard = some (j, b)) (hj : (ops[j]?).bind (·.dst) = some dj) (hget : get env dj = some (.bool c)) (hc : c = b) : Region.wanted o (yielded ops a.tmps) = true := wanted_of ha hgo hj hget (by rw [hc]; simp)
theorem wanted_no {j dj : Nat} {b c : Bool} {a : Act} (ha : Ok n env a) (hgo : o.guard = some (j, b)) (hj : (ops[j]?).bind (·.dst) = some dj) (hget : get env dj = some (.bool c)) (hc : c = !b) : Region.wanted o (yielded ops a.tmps) = false := wanted_of ha hgo hj hget (by rw [hc]; cases b <;> rfl)
theorem WD.skip (i : Nat) {d : Nat} (hi : ops[i]? = some o) (hr : Region.ready .any ops listed = [i]) (hw : ∀ a, Ok n env a → Region.wanted o (yielded ops a.tmps) = false) (hd : o.dst = some d) (hn : Nat.blt d n = true)
  (hS : S w) (h : WD P n ops Q S L fuel (listed.setIfInBounds i true) ((d, undef) :: env) w) : WD P n ops Q S L (fuel + 1) listed env w := by
 intro a ha
 refine ⟨fun h0 => (by rw [hr] at h0; cases h0), fun j hj => ?_⟩
 rw [hr] at hj
 have : j = i := by simpa using hj
 subst this
 unfold wpOp
 simp only [hi]
 rw [if_neg (by rw [hw a ha]; simp), hd]
 exact ⟨fun _ _ => hS, h _ (ha.put hn)⟩
theorem WD.takeG (i : Nat) {d : Nat} (hi : ops[i]? = some o) (hs : (Region.noSelect ops && Region.free .any ops listed i && (Region.ready .any ops listed).contains i && L.all (waitsFor .any ops i) && !L.contains i) = true)
  (hd : o.dst = some d) (hn : Nat.blt d n = true) (hS : S w) (hr : (∀ a, Ok n env a → Region.wanted o (yielded ops a.tmps) = true) ∧ (∀ w', S w' → Runs P o env w' v w') ∨ (∀ a, Ok n env a → Region.wanted o (yielded ops a.tmps) = false) ∧ v = undef) (h : WD P n ops Q S L fuel (listed.setIfInBounds i true) ((d, v) :: env) w) : WD P n ops Q S L (fuel + 1) listed env w := by
 intro a ha
 simp only [Bool.and_eq_true, Bool.not_eq_true'] at hs
 obtain ⟨⟨⟨⟨h1, h2⟩, h3⟩, h4⟩, h5⟩ := hs
 refine wpAnyC_first hi (Region.noSelect_spec h1) (fun _ _ _ h => h) (by simpa using h4) (by simpa using h5) fuel listed a w (Region.free_spec hi h2) (by simpa using h3) (v := v) ?_ hS ?_
 ·
  rcases hr with ⟨h6, h7⟩ | ⟨h6, h7⟩
  · exact .inl ⟨h6 a ha, fun w' hw' => h7 w' hw' n a ha⟩
  · exact .inr ⟨h6 a ha, h7⟩
 · rw [hd]; exact h _ (ha.put hn)
theorem WD.callG (i : Nat) {d : Nat} {f : FuncId} {args : Array Value} {R : Value → World → Prop} (hi : ops[i]? = some o) (hr : Region.ready .any ops listed = [i]) (hw : ∀ a, Ok n env a → Region.wanted o (yielded ops a.tmps) = true) (hd : o.dst = some d) (hn : Nat.blt d n = true)
  (hm : RunsF P o env w f args) (hc : Calls P f args w (fun e w' => ∃ v, e = .returned v ∧ R v w')) (h : ∀ v w', R v w' → (i ∉ L → S w') ∧ WD P n ops Q S L fuel (listed.setIfInBounds i true) ((d, v) :: env) w') : WD P n ops Q S L (fuel + 1) listed env w := by
 intro a ha
 refine ⟨fun h0 => (by rw [hr] at h0; cases h0), fun j hj => ?_⟩
 rw [hr] at hj
 have : j = i := by simpa using hj
 subst this
 unfold wpOp
 simp only [hi]
 rw [if_pos (hw a ha)]
 refine .inl ?_
 unfold Oper.wp
 rw [hm n a ha, Oper.upon_enter]
 refine hc.mono ?_
 rintro e w' ⟨v, rfl, hR⟩
 simp only [hd]
 exact ⟨fun h0 _ => (h v w' hR).1 h0, (h v w' hR).2 _ (ha.put hn)⟩
theorem WD.cases {p : Prop} (h1 : p → WD P n ops Q S L fuel listed env w) (h2 : ¬ p → WD P n ops Q S L fuel listed env w) : WD P n ops Q S L fuel listed env w := by
 by_cases h : p
 · exact h1 h
 · exact h2 h
theorem WO.splitP {l : List Oper} {d : Nat} {p : Prop} [Decidable p] (_ : get env d = some (.bool (decide p))) (h1 : p → WO P n ops Q l env w) (h2 : ¬ p → WO P n ops Q l env w) : WO P n ops Q l env w := WO.cases h1 h2
theorem WQ.splitP {l : List Oper} {d : Nat} {p : Prop} [Decidable p] (_ : get env d = some (.bool (decide p))) (h1 : p → WQ P n ops Q w l env) (h2 : ¬ p → WQ P n ops Q w l env) : WQ P n ops Q w l env := WQ.cases h1 h2
theorem WD.splitP {d : Nat} {p : Prop} [Decidable p] (_ : get env d = some (.bool (decide p))) (h1 : p → WD P n ops Q S L fuel listed env w) (h2 : ¬ p → WD P n ops Q S L fuel listed env w) : WD P n ops Q S L fuel listed env w := WD.cases h1 h2
theorem WO.splitB {l : List Oper} {d : Nat} {b : Bool} (_ : get env d = some (.bool b)) (h1 : b = true → WO P n ops Q l env w) (h2 : b = false → WO P n ops Q l env w) : WO P n ops Q l env w := by cases b <;> simp_all
theorem WQ.splitB {l : List Oper} {d : Nat} {b : Bool} (_ : get env d = some (.bool b)) (h1 : b = true → WQ P n ops Q w l env) (h2 : b = false → WQ P n ops Q w l env) : WQ P n ops Q w l env := by cases b <;> simp_all
theorem WD.splitB {d : Nat} {b : Bool} (_ : get env d = some (.bool b)) (h1 : b = true → WD P n ops Q S L fuel listed env w) (h2 : b = false → WD P n ops Q S L fuel listed env w) : WD P n ops Q S L fuel listed env w := by cases b <;> simp_all
end
structure Item where
 i : Nat
 o : Oper
 d : Nat
 R : World → Value → World → Prop
def anyOrder (ops : Array Oper) (L3 : Array Bool) : Nat → List Nat → Array Bool → Bool
 | 0, is, listed => is.isEmpty && (listed == L3)
 | k + 1, is, listed => !(Region.ready .any ops listed).isEmpty && (Region.ready .any ops listed).all (fun j => is.contains j && anyOrder ops L3 k (is.filter (fun x => x != j)) (listed.setIfInBounds j true))
def Apart (R : World → Value → World → Prop) (v : Value) (R' : World → Value → World → Prop) (u : Value) : Prop :=
 (∃ a a' c c', R a v a' ∧ R' c u c' ∧ Ext a' c) ∨ (∃ a a' c c', R a v a' ∧ R' c u c' ∧ Ext c' a)
theorem nodup_inj {α : Type} {f : α → Nat} : ∀ {l : List α}, (l.map f).Nodup → ∀ {x y : α}, x ∈ l → y ∈ l → f x = f y → x = y
 | [], _, _, _, hx, _, _ => by simp at hx
 | z :: r, h, x, y, hx, hy, e => by
  rw [List.map_cons, List.nodup_cons] at h
  rcases List.mem_cons.1 hx with h1 | h1
  ·
   rcases List.mem_cons.1 hy with h2 | h2
   · rw [h1, h2]
   · exact absurd (List.mem_map.2 ⟨y, h2, by rw [← e, h1]⟩) h.1
  ·
   rcases List.mem_cons.1 hy with h2 | h2
   · exact absurd (List.mem_map.2 ⟨x, h1, by rw [e, h2]⟩) h.1
   · exact nodup_inj h.2 h1 h2 e
theorem get_items {env : Env} {val : Nat → Value} : ∀ (I : List Item) (m : Nat) (v : Value), get (I.map (fun x => (x.d, val x.d)) ++ env) m = some v → (∃ x ∈ I, x.d = m ∧ v = val m) ∨ get env m = some v
 | [], m, v, h => .inr h
 | x :: r, m, v, h => by
  rw [List.map_cons, List.cons_append] at h
  simp only [GL.get] at h
  cases hb : Nat.beq x.d m with
  | true =>
   rw [hb] at h
   have e := Nat.eq_of_beq_eq_true hb
   exact .inl ⟨x, List.mem_cons_self .., e, by rw [← e]; exact (Option.some.inj h).symm⟩
  | false =>
   rw [hb] at h
   rcases get_items r m v h with ⟨y, hy, h1, h2⟩ | h1
   · exact .inl ⟨y, List.mem_cons_of_mem _ hy, h1, h2⟩
   · exact .inr h1
section
variable {P : Program} {n : Nat} {ops : Array Oper} {Q : Exit → Act → World → Prop} {S : World → Prop} {L : List Nat} {env : Env} {w : World} {fuel : Nat} {listed : Array Bool}
theorem wp_does {i d : Nat} {o : Oper} {R : Value → World → Prop} {K : Act → World → Prop} {Q' : Exit → Act → World → Prop} {a : Act} (hi : ops[i]? = some o) (hg : o.guard = none) (hd : o.dst = some d) (ha : Ok n env a) (hm : Does P o env w R)
  (h : ∀ v w', R v w' → K (a.put (some d) v) w') : wpOp P ops Q' i K a w := by
 refine mk_wpOp hi hg ?_
 unfold Oper.wp
 rcases hm with ⟨v, w', h1, h2⟩ | ⟨f, args, h1, h2⟩
 ·
  rw [h1 n a ha, Oper.upon_value, hd]
  exact h v w' h2
 ·
  rw [h1 n a ha, Oper.upon_enter]
  refine h2.mono ?_
  rintro e w' ⟨v, rfl, hR⟩
  simp only [hd]
  exact h v w' hR
theorem WD.many (I : List Item) {L3 : Array Bool} (hI : ∀ x ∈ I, ops[x.i]? = some x.o ∧ x.o.guard = none ∧ x.o.dst = some x.d ∧ Nat.blt x.d n = true ∧ get env x.d = none)
  (hnd : (I.map (·.d)).Nodup) (hni : (I.map (·.i)).Nodup) (hr : anyOrder ops L3 I.length (I.map (·.i)) listed = true)
  (hS : ∀ w', Ext w w' → S w') (hR : ∀ x ∈ I, ∀ a v a', x.R a v a' → Ext a a') (hm : ∀ x ∈ I, ∀ w', Ext w w' → Does P x.o env w' (x.R w'))
  (h : ∀ (val : Nat → Value) w', Ext w w' → (∀ x ∈ I, Made w x.R (val x.d) w') → (∀ x ∈ I, ∀ y ∈ I, x.d ≠ y.d → Apart x.R (val x.d) y.R (val y.d)) → WD P n ops Q S L fuel L3 (I.map (fun x => (x.d, val x.d)) ++ env) w') :
  WD P n ops Q S L (fuel + I.length) listed env w := by
 have key : ∀ (k : Nat) (J : List Item) (listed : Array Bool) (env' : Env) (w' : World) (val : Nat → Value), (∀ x ∈ J, x ∈ I) → anyOrder ops L3 k (J.map (·.i)) listed = true → Ext w w' → Sub env env' →
   (∀ x ∈ I, x ∉ J → get env' x.d = some (val x.d) ∧ Made w x.R (val x.d) w') → (∀ x ∈ I, x ∉ J → ∀ y ∈ I, y ∉ J → x.d ≠ y.d → Apart x.R (val x.d) y.R (val y.d)) →
   WD P n ops Q S L (fuel + k) listed env' w' := by
  intro k
  induction k with
  | zero =>
   intro J listed env' w' val hJ ho hE hsub hdone hap
   rw [anyOrder, Bool.and_eq_true, List.isEmpty_iff, List.map_eq_nil_iff] at ho
   obtain ⟨rfl, ho⟩ := ho
   have e : listed = L3 := by simpa using ho
   rw [e]
   refine (h val w' hE (fun x hx => (hdone x hx (by simp)).2) (fun x hx y hy hne => hap x hx (by simp) y hy (by simp) hne)).sub ?_
   intro m v hv
   rcases get_items I m v hv with ⟨x, hx, e1, e2⟩ | h1
   · rw [← e1, (hdone x hx (by simp)).1, e2, e1]
   · exact hsub m v h1
  | succ k ih =>
   intro J listed env' w' val hJ ho hE hsub hdone hap a ha
   rw [anyOrder, Bool.and_eq_true, List.all_eq_true] at ho
   refine ⟨fun h0 => (by rw [h0] at ho; simp at ho), fun j hj => ?_⟩
   have h1 := ho.2 j hj
   rw [Bool.and_eq_true] at h1
   obtain ⟨x, hx, rfl⟩ : ∃ x ∈ J, x.i = j := by simpa using h1.1
   have hxI := hJ x hx
   obtain ⟨q1, q2, q3, q4, q5⟩ := hI x hxI
   refine wp_does q1 q2 q3 ha ((hm x hxI w' hE).sub hsub) (fun v w2 hv => ?_)
   have k2 := hR x hxI _ _ _ hv
   refine ⟨fun _ _ => hS _ (hE.ext k2), ?_⟩
   have hne : ∀ y ∈ I, y ∉ J → y.d ≠ x.d := fun y hy hyJ e => hyJ (by rw [nodup_inj hnd hy hxI e]; exact hx)
   have hmem : ∀ z ∈ I, z ∉ J.filter (fun y => y.i != x.i) → z = x ∨ z ∉ J := by
    intro z hz hz2
    by_cases hzJ : z ∈ J
    ·
     left
     by_cases e : z.i = x.i
     · exact nodup_inj hni hz hxI e
     · exact absurd (List.mem_filter.2 ⟨hzJ, by simpa using e⟩) hz2
    · exact .inr hzJ
   refine ih (J.filter (fun y => y.i != x.i)) (listed.setIfInBounds x.i true) ((x.d, v) :: env') w2 (fun m => if m = x.d then v else val m) (fun z hz => hJ z (List.mem_filter.1 hz).1) ?_ (hE.ext k2) ?_ ?_ ?_ _ (ha.put q4)
   ·
    have := h1.2
    rw [List.filter_map] at this
    exact this
   ·
    intro m u hu
    simp only [GL.get]
    cases hb : Nat.beq x.d m with
    | true =>
     have e := Nat.eq_of_beq_eq_true hb
     rw [← e, q5] at hu
     cases hu
    | false => exact hsub m u hu
   ·
    intro z hz hz2
    rcases hmem z hz hz2 with rfl | hzJ
    ·
     refine ⟨by simp [GL.get, Nat.beq_refl], ?_⟩
     simp only [if_true]
     exact ⟨w', w2, hE, hv, Keep.refl _ _⟩
    ·
     have hzd := hne z hz hzJ
     simp only [hzd, if_false]
     obtain ⟨g1, a1, a2, g2, g3, g4⟩ := hdone z hz hzJ
     refine ⟨?_, a1, a2, g2, g3, g4.ext k2⟩
     simp only [GL.get]
     cases hb : Nat.beq x.d z.d with
     | true => exact absurd (Nat.eq_of_beq_eq_true hb).symm hzd
     | false => exact g1
   ·
    intro z hz hz2 y hy hy2 hzy
    rcases hmem z hz hz2 with rfl | hzJ <;> rcases hmem y hy hy2 with rfl | hyJ
    · exact absurd rfl hzy
    ·
     have hyd := hne y hy hyJ
     simp only [hyd, if_false, if_true]
     obtain ⟨_, a1, a2, g2, g3, g4⟩ := hdone y hy hyJ
     exact .inr ⟨_, _, _, _, hv, g3, g4⟩
    ·
     have hzd := hne z hz hzJ
     simp only [hzd, if_false, if_true]
     obtain ⟨_, a1, a2, g2, g3, g4⟩ := hdone z hz hzJ
     exact .inl ⟨_, _, _, _, g3, hv, g4⟩
    ·
     simp only [hne z hz hzJ, hne y hy hyJ, if_false]
     exact hap z hz hzJ y hy hyJ hzy
 refine key I.length I listed env w (fun _ => undef) (fun x hx => hx) hr (Keep.refl _ _) (Sub.refl _) (fun x hx h => absurd hx h) (fun x hx h => absurd hx h)
end
end Go.GL
namespace Go.Proofs.YtldhllpogdikdaaGreat
open Go.GL
def encN (x : Nd) : List Value := [.int .i64 x.kind, .int .i64 x.at_, .int .i64 x.next, .int .i64 x.other]
theorem encN_len (x : Nd) : (encN x).length = 4 := rfl
theorem encN_one (x : Nd) : ∀ u ∈ encN x, u.oneCell' = true := by simp [encN, Value.oneCell']
def bty (e : TypeId) : Bool := e == 164 || e == 40
theorem bty1 : bty 164 = true := by decide
theorem bty2 : bty 40 = true := by decide
structure BdS (W0 B : Nat) (w : World) (b : Bd) (v : Value) : Prop where
 blk : Blk w B [v, .int .i64 b.step] 164
 row : w.ownsRow 0 40 4 v b.nodes.length (b.nodes.flatMap encN)
 low : W0 ≤ B
 far : ∀ g, v.ownBlock = some g → W0 ≤ g
theorem BdS.ext {W0 B : Nat} {w w' : World} {b : Bd} {v : Value} (h : BdS W0 B w b v) (hk : Ext w w') : BdS W0 B w' b v := ⟨hk.blk h.blk (fun h => h), own_keep h.row hk (fun _ _ h => h), h.low, h.far⟩
theorem BdS.ne {W0 B : Nat} {w : World} {b : Bd} {v : Value} (h : BdS W0 B w b v) {g : Nat} (hg : v.ownBlock = some g) : g ≠ B := by
 obtain ⟨cs, hb⟩ := own_blkty h.row hg
 exact hb.ne h.blk (by decide)
def HC (B : Nat) (w : World) (e : Hang) (x : Value) : Prop := ∃ bb ab, x = .func (.func (if e.2 then 220 else 160)) #[] #[.pointer (some ⟨bb, 0, none⟩), .pointer (some ⟨ab, 0, none⟩)] ∧ Blk w bb [.pointer (some ⟨B, 0, none⟩)] 162 ∧ Blk w ab [.int .i64 e.1] 3
theorem HC.one {B : Nat} {w : World} {e : Hang} {x : Value} (h : HC B w e x) : x.oneCell' = true := by obtain ⟨_, _, rfl, _⟩ := h; rfl
theorem HC.ext {B : Nat} {w w' : World} {e : Hang} {x : Value} (h : HC B w e x) (hk : Ext w w') : HC B w' e x := by
 obtain ⟨bb, ab, h1, h2, h3⟩ := h
 exact ⟨bb, ab, h1, hk.blk h2 (fun h => h), hk.blk h3 (fun h => h)⟩
theorem HC.kt {B W0 : Nat} {w w' : World} {e : Hang} {x : Value} (h : HC B w e x) (hk : KT bty W0 w w') : HC B w' e x := by
 obtain ⟨bb, ab, h1, h2, h3⟩ := h
 exact ⟨bb, ab, h1, hk.blk h2 (by decide), hk.blk h3 (by decide)⟩
def Hung (B : Nat) (w : World) (v : Value) (es : List Hang) : Prop := ∃ xs : List Value, w.ownsRow 0 167 1 v es.length xs ∧ ∀ (i : Nat) e x, es[i]? = some e → xs[i]? = some x → HC B w e x
theorem Hung.ext {B : Nat} {w w' : World} {v : Value} {es : List Hang} (h : Hung B w v es) (hk : Ext w w') : Hung B w' v es := by
 obtain ⟨xs, h1, h2⟩ := h
 exact ⟨xs, own_keep h1 hk (fun _ _ h => h), fun i e x he hx => (h2 i e x he hx).ext hk⟩
theorem Hung.kt {B W0 : Nat} {w w' : World} {v : Value} {es : List Hang} (h : Hung B w v es) (hk : KT bty W0 w w') : Hung B w' v es := by
 obtain ⟨xs, h1, h2⟩ := h
 exact ⟨xs, hk.own h1 (by decide), fun i e x he hx => (h2 i e x he hx).kt hk⟩
theorem Hung.form {B : Nat} {w : World} {v : Value} {es : List Hang} (h : Hung B w v es) : ∃ ao c, v = .slice ao es.length c ∧ es.length ≤ c := by
 obtain ⟨xs, h1, h2⟩ := h
 rcases h1.2 with ⟨rfl, h3⟩ | ⟨g, cap, cur, rfl, h3, h4, h5, h6⟩
 · rw [h3]; exact ⟨_, _, rfl, Nat.le_refl _⟩
 · exact ⟨_, _, rfl, h5⟩
theorem Hung.at {B : Nat} {w : World} {ao : Option Addr} {n c : Nat} {es : List Hang} (h : Hung B w (.slice ao n c) es) {i : Nat} {e : Hang} (he : es[i]? = some e) : ∃ g x, ao = some ⟨g, 0, none⟩ ∧ Cells w g (0 + i * 1) [x] ∧ HC B w e x := by
 obtain ⟨xs, h1, h2⟩ := h
 have hi := (List.getElem?_eq_some_iff.1 he).1
 have hxl := h1.1
 obtain ⟨x, hx⟩ : ∃ x, xs[i]? = some x := ⟨_, List.getElem?_eq_getElem (by omega)⟩
 rcases h1.2 with ⟨h3, h4⟩ | ⟨g, cap, cur, h3, _, h4, h5, h6, h7, h8⟩
 · omega
 ·
  cases h3
  refine ⟨g, x, rfl, ?_, h2 i e x he hx⟩
  intro j u hu
  cases j with
  | zero =>
   simp at hu; subst hu
   have hb : Blk w g cur.toList 167 := by unfold Blk; simpa using h4
   have := hb.cells i x (by rw [← h8, List.getElem?_take] at hx; split at hx; exact hx; cases hx)
   simpa using this
  | succ j => simp at hu
theorem next_ok (B : Nat) (k : Nat) (w : World) : Calls Tryz.prog 107 #[.pointer (some ⟨B, 0, none⟩), .int .i64 k] w (Ret fun r w' => HC B w' (k, false) r ∧ Ext w w') := by
 have hE := Keep.refl (fun _ => False) w
 refine calls Tryz.func107 rfl [(0, .pointer (some ⟨B, 0, none⟩)), (1, .int .i64 k)] 6 ⟨Nat.le_of_ble_eq_true rfl, Tryz.ntmps107⟩ (argsOk (Sub.of rfl)) ?_
 refine WC.sr (WO.mem rfl rfl rfl (M.box rfl rfl) ?_)
 rintro _ w_bb ⟨bb, rfl, hg_bb, hs_bb, hB_bb, hk_bb⟩
 have hge_bb : _ ≤ bb := Nat.le_trans hE.size (Nat.le_of_eq hg_bb.symm)
 replace hE := hE.ext hk_bb
 refine WO.mem rfl rfl rfl (M.box rfl rfl) ?_
 rintro _ w_ab ⟨ab, rfl, hg_ab, hs_ab, hB_ab, hk_ab⟩
 have hn_bb_ab : bb ≠ ab := by have := hB_bb.lt; omega
 have hge_ab : _ ≤ ab := Nat.le_trans hE.size (Nat.le_of_eq hg_ab.symm)
 replace hE := hE.ext hk_ab
 replace hB_bb := hk_ab.blk hB_bb (fun h => h)
 refine WO.a rfl rfl (WO.nr (WO.o rfl (R.makeFunc (fs := []) (cs := [_, _]) rfl rfl) (WO.a rfl rfl (WO.nil (WX.next (WC.ret ?_))))))
 refine WX.ret1 Tryz.results107 rfl ⟨_, rfl, ⟨bb, ab, rfl, hB_bb, hB_ab⟩, hE⟩
theorem other_ok (B : Nat) (k : Nat) (w : World) : Calls Tryz.prog 204 #[.pointer (some ⟨B, 0, none⟩), .int .i64 k] w (Ret fun r w' => HC B w' (k, true) r ∧ Ext w w') := by
 have hE := Keep.refl (fun _ => False) w
 refine calls Tryz.func204 rfl [(0, .pointer (some ⟨B, 0, none⟩)), (1, .int .i64 k)] 6 ⟨Nat.le_of_ble_eq_true rfl, Tryz.ntmps204⟩ (argsOk (Sub.of rfl)) ?_
 refine WC.sr (WO.mem rfl rfl rfl (M.box rfl rfl) ?_)
 rintro _ w_bb ⟨bb, rfl, hg_bb, hs_bb, hB_bb, hk_bb⟩
 have hge_bb : _ ≤ bb := Nat.le_trans hE.size (Nat.le_of_eq hg_bb.symm)
 replace hE := hE.ext hk_bb
 refine WO.mem rfl rfl rfl (M.box rfl rfl) ?_
 rintro _ w_ab ⟨ab, rfl, hg_ab, hs_ab, hB_ab, hk_ab⟩
 have hn_bb_ab : bb ≠ ab := by have := hB_bb.lt; omega
 have hge_ab : _ ≤ ab := Nat.le_trans hE.size (Nat.le_of_eq hg_ab.symm)
 replace hE := hE.ext hk_ab
 replace hB_bb := hk_ab.blk hB_bb (fun h => h)
 refine WO.a rfl rfl (WO.nr (WO.o rfl (R.makeFunc (fs := []) (cs := [_, _]) rfl rfl) (WO.a rfl rfl (WO.nil (WX.next (WC.ret ?_))))))
 refine WX.ret1 Tryz.results204 rfl ⟨_, rfl, ⟨bb, ab, rfl, hB_bb, hB_ab⟩, hE⟩
theorem set_node (L : List Nd) (i : Nat) (hi : i < L.length) (sp : List Value) (to : Int) (p : Bool) : (L.flatMap encN ++ sp).set (i * 4 + (if p then 3 else 2)) (.int .i64 to) = (setE L to (i, p)).flatMap encN ++ sp := by
 have h1 := flat_set (enc := encN) encN_len hi (if p then { L[i] with other := to } else { L[i] with next := to }) sp
 have h2 : setE L to (i, p) = L.set i (if p then { L[i] with other := to } else { L[i] with next := to }) := by
  apply List.ext_getElem?
  intro j
  simp only [setE, List.getElem?_modify, List.getElem?_set]
  by_cases hj : i = j
  · subst hj; simp [hi]
  · simp [hj]
 rw [h2, ← h1]
 have h3 := flat_set (enc := encN) encN_len hi L[i] sp
 rw [List.set_getElem_self] at h3
 have ht : ((L.flatMap encN ++ sp).take (i * 4)).length = i * 4 := by
  have := flat_len encN_len L
  rw [List.length_take, List.length_append]; omega
 generalize (L.flatMap encN ++ sp).drop (i * 4 + 4) = C at h3 ⊢
 generalize (L.flatMap encN ++ sp).take (i * 4) = A at h3 ht ⊢
 rw [← h3, List.append_assoc, List.append_assoc, List.set_append_right _ _ (by rw [ht]; exact Nat.le_add_right _ _), ht, Nat.add_sub_cancel_left]
 cases p <;> rfl
theorem next_ok' (W0 B bb ab i : Nat) (to : Int) (b : Bd) (v : Value) (w : World) (hb : BdS W0 B w b v) (hbb : Blk w bb [.pointer (some ⟨B, 0, none⟩)] 162) (hab : Blk w ab [.int .i64 (i : Nat)] 3) (hi : i < b.nodes.length) :
  Calls Tryz.prog 160 #[.int .i64 to, .pointer (some ⟨bb, 0, none⟩), .pointer (some ⟨ab, 0, none⟩)] w (Ret fun _ w' => BdS W0 B w' { b with nodes := setE b.nodes to (i, false) } v ∧ KT bty W0 w w') := by
 obtain ⟨g, cap, sp, rfl, _, hnc, hcm, hBg, hlen⟩ := own_open encN_len (by decide) hb.row (by intro h; rw [h] at hi; simp at hi)
 have hB := hb.blk
 have hll := flat_len encN_len b.nodes
 have hfl : (b.nodes.flatMap encN ++ sp).length = b.nodes.length * 4 + sp.length := by rw [List.length_append, hll]
 have hgB := hb.ne rfl
 have hset := set_node b.nodes i hi sp to false
 refine calls Tryz.func160 rfl [(0, .int .i64 to), (1, .pointer (some ⟨bb, 0, none⟩)), (2, .pointer (some ⟨ab, 0, none⟩))] 12 ⟨Nat.le_of_ble_eq_true rfl, Tryz.ntmps160⟩ (argsOk (Sub.of rfl)) ?_
 refine WC.draw (fun q => Ext w q) [8] (by kernel_rfl) (fun wd1 hD _ => (WD.take 0 rfl (by kernel_rfl) rfl rfl rfl hD (fun w1 hw1 => R.load Tryz.isAgg162 rfl ((hw1.blk hbb (fun h => h)).cells 0 _ rfl)) (WD.takeW 1 rfl (by kernel_rfl) rfl rfl rfl (fun w1 => R.nilCheck rfl) (WD.takeW 2 rfl (by kernel_rfl) rfl rfl rfl (fun w1 => R.fieldAddr Tryz.runUnderlying164 rfl Tryz.sizeOf29 rfl) (WD.take 3 rfl (by kernel_rfl) rfl rfl rfl hD (fun w1 hw1 => R.load Tryz.isAgg29 rfl ((hw1.blk hB (fun h => h)).cells 0 _ rfl)) (WD.take 4 rfl (by kernel_rfl) rfl rfl rfl hD (fun w1 hw1 => R.load Tryz.isAgg3 rfl ((hw1.blk hab (fun h => h)).cells 0 _ rfl)) ?_))))))
 refine WD.takeW 5 rfl (by kernel_rfl) rfl rfl rfl (fun w1 => R.move rfl) (WD.takeW 6 rfl (by kernel_rfl) rfl rfl rfl (fun w1 => R.indexS Tryz.runUnderlying29 Tryz.sizeOf40 rfl rfl rfl (by omega)) (WD.takeW 7 rfl (by kernel_rfl) rfl rfl rfl (fun w1 => R.fieldAddr Tryz.runUnderlying40 rfl Tryz.sizeOf3 rfl) (WD.mem0 8 rfl (by kernel_rfl) rfl rfl (M.store Tryz.sizeOf3 rfl rfl rfl rfl (hD.blk hBg (fun h => h)) (by rw [hfl]; show 0 + (i : Int).toNat * 4 + 2 < _; omega)) ?_)))
 rintro wf ⟨_, hBf, hkf⟩
 refine ⟨fun h => absurd (List.mem_singleton.2 rfl) h, ?_⟩
 rw [show 0 + (i : Int).toNat * 4 + _ = i * 4 + (if false then 3 else 2) by simp, hset] at hBf
 have hK : KT bty W0 w wf := Keep.trans (KT.of_ext hD) hkf (fun q hq h => by have h : q = g := h; subst h; exact Wr.mk (hb.far _ rfl) hBg bty2)
 refine WD.done (by kernel_rfl) ?_ _
 refine WX.end0 Tryz.results160 ⟨_, rfl, ⟨hkf.blk (hD.blk hB (fun h => h)) (fun h => hgB h.symm), ?_, hb.low, hb.far⟩, hK⟩
 have h := own_shut encN_len (k := b.nodes.length) hBf (by rw [List.length_append, flat_len encN_len, setE_len]; omega) (by rw [setE_len]; exact Nat.le_refl _) hnc hcm
 rw [List.take_of_length_le (by rw [setE_len]; exact Nat.le_refl _)] at h
 rw [setE_len]; exact h
theorem other_ok' (W0 B bb ab i : Nat) (to : Int) (b : Bd) (v : Value) (w : World) (hb : BdS W0 B w b v) (hbb : Blk w bb [.pointer (some ⟨B, 0, none⟩)] 162) (hab : Blk w ab [.int .i64 (i : Nat)] 3) (hi : i < b.nodes.length) :
  Calls Tryz.prog 220 #[.int .i64 to, .pointer (some ⟨bb, 0, none⟩), .pointer (some ⟨ab, 0, none⟩)] w (Ret fun _ w' => BdS W0 B w' { b with nodes := setE b.nodes to (i, true) } v ∧ KT bty W0 w w') := by
 obtain ⟨g, cap, sp, rfl, _, hnc, hcm, hBg, hlen⟩ := own_open encN_len (by decide) hb.row (by intro h; rw [h] at hi; simp at hi)
 have hB := hb.blk
 have hll := flat_len encN_len b.nodes
 have hfl : (b.nodes.flatMap encN ++ sp).length = b.nodes.length * 4 + sp.length := by rw [List.length_append, hll]
 have hgB := hb.ne rfl
 have hset := set_node b.nodes i hi sp to true
 refine calls Tryz.func220 rfl [(0, .int .i64 to), (1, .pointer (some ⟨bb, 0, none⟩)), (2, .pointer (some ⟨ab, 0, none⟩))] 12 ⟨Nat.le_of_ble_eq_true rfl, Tryz.ntmps220⟩ (argsOk (Sub.of rfl)) ?_
 refine WC.draw (fun q => Ext w q) [8] (by kernel_rfl) (fun wd1 hD _ => (WD.take 0 rfl (by kernel_rfl) rfl rfl rfl hD (fun w1 hw1 => R.load Tryz.isAgg162 rfl ((hw1.blk hbb (fun h => h)).cells 0 _ rfl)) (WD.takeW 1 rfl (by kernel_rfl) rfl rfl rfl (fun w1 => R.nilCheck rfl) (WD.takeW 2 rfl (by kernel_rfl) rfl rfl rfl (fun w1 => R.fieldAddr Tryz.runUnderlying164 rfl Tryz.sizeOf29 rfl) (WD.take 3 rfl (by kernel_rfl) rfl rfl rfl hD (fun w1 hw1 => R.load Tryz.isAgg29 rfl ((hw1.blk hB (fun h => h)).cells 0 _ rfl)) (WD.take 4 rfl (by kernel_rfl) rfl rfl rfl hD (fun w1 hw1 => R.load Tryz.isAgg3 rfl ((hw1.blk hab (fun h => h)).cells 0 _ rfl)) ?_))))))
 refine WD.takeW 5 rfl (by kernel_rfl) rfl rfl rfl (fun w1 => R.move rfl) (WD.takeW 6 rfl (by kernel_rfl) rfl rfl rfl (fun w1 => R.indexS Tryz.runUnderlying29 Tryz.sizeOf40 rfl rfl rfl (by omega)) (WD.takeW 7 rfl (by kernel_rfl) rfl rfl rfl (fun w1 => R.fieldAddr Tryz.runUnderlying40 rfl Tryz.sizeOf3 rfl) (WD.mem0 8 rfl (by kernel_rfl) rfl rfl (M.store Tryz.sizeOf3 rfl rfl rfl rfl (hD.blk hBg (fun h => h)) (by rw [hfl]; show 0 + (i : Int).toNat * 4 + 3 < _; omega)) ?_)))
 rintro wf ⟨_, hBf, hkf⟩
 refine ⟨fun h => absurd (List.mem_singleton.2 rfl) h, ?_⟩
 rw [show 0 + (i : Int).toNat * 4 + _ = i * 4 + (if true then 3 else 2) by simp, hset] at hBf
 have hK : KT bty W0 w wf := Keep.trans (KT.of_ext hD) hkf (fun q hq h => by have h : q = g := h; subst h; exact Wr.mk (hb.far _ rfl) hBg bty2)
 refine WD.done (by kernel_rfl) ?_ _
 refine WX.end0 Tryz.results220 ⟨_, rfl, ⟨hkf.blk (hD.blk hB (fun h => h)) (fun h => hgB h.symm), ?_, hb.low, hb.far⟩, hK⟩
 have h := own_shut encN_len (k := b.nodes.length) hBf (by rw [List.length_append, flat_len encN_len, setE_len]; omega) (by rw [setE_len]; exact Nat.le_refl _) hnc hcm
 rw [List.take_of_length_le (by rw [setE_len]; exact Nat.le_refl _)] at h
 rw [setE_len]; exact h
theorem add_ok (W0 B : Nat) (kind : Int) (b : Bd) (v : Value) (w : World) (hb : BdS W0 B w b v) (hW : W0 ≤ w.heap.size) (hsz : b.nodes.length ≤ 100000) :
  Calls Tryz.prog 203 #[.pointer (some ⟨B, 0, none⟩), .int .i64 kind] w (Ret fun _ w' => (∃ v', BdS W0 B w' { b with nodes := b.nodes ++ [⟨kind, b.step, -1, -1⟩] } v') ∧ KT bty W0 w w') := by
 have hB := hb.blk
 refine calls Tryz.func203 rfl [(0, .pointer (some ⟨B, 0, none⟩)), (1, .int .i64 kind)] 19 ⟨Nat.le_of_ble_eq_true rfl, Tryz.ntmps203⟩ (argsOk (Sub.of rfl)) ?_
 refine WC.draw (fun q => Blk q B [v, .int .i64 b.step] 164) [15] (by kernel_rfl) (fun wd hD _ => ?_)
 have hb1 := hb.ext hD
 refine WD.takeW 0 rfl (by kernel_rfl) rfl rfl rfl (fun w1 => R.move rfl) (WD.takeW 1 rfl (by kernel_rfl) rfl rfl rfl (fun w1 => R.move rfl) (WD.takeW 2 rfl (by kernel_rfl) rfl rfl rfl (fun w1 => R.nilCheck rfl) (WD.takeW 3 rfl (by kernel_rfl) rfl rfl rfl (fun w1 => R.fieldAddr Tryz.runUnderlying164 rfl Tryz.sizeOf29 rfl) (WD.take 4 rfl (by kernel_rfl) rfl rfl rfl hb1.blk (fun w1 hw1 => R.load Tryz.isAgg29 rfl (hw1.cells 0 _ rfl)) (WD.takeW 5 rfl (by kernel_rfl) rfl rfl rfl (fun w1 => R.move rfl) (WD.takeW 6 rfl (by kernel_rfl) rfl rfl rfl (fun w1 => R.move rfl) (WD.takeW 7 rfl (by kernel_rfl) rfl rfl rfl (fun w1 => R.nilCheck rfl) ?_)))))))
 refine WD.takeW 8 rfl (by kernel_rfl) rfl rfl rfl (fun w1 => R.fieldAddr Tryz.runUnderlying164 rfl Tryz.sizeOf3 rfl) (WD.take 9 rfl (by kernel_rfl) rfl rfl rfl hb1.blk (fun w1 hw1 => R.load Tryz.isAgg3 rfl (hw1.cells 1 _ rfl)) (WD.takeW 10 rfl (by kernel_rfl) rfl rfl rfl (fun w1 => R.build (v := .agg #[.int .i64 kind, .int .i64 b.step, .int .i64 (-1), .int .i64 (-1)]) [(0, _), (1, _), (2, _), (3, _)] rfl (fun _ => by kernel_rfl)) (WD.mem 11 rfl (by kernel_rfl) rfl rfl rfl (M.buildSlice (cs := encN ⟨kind, b.step, -1, -1⟩) [(0, _)] Tryz.runUnderlying29 Tryz.sizeOf40 Tryz.zeroValue40 (by decide) rfl (by kernel_rfl)) ?_)))
 rintro _ w2 ⟨b2, rfl, hb2, hs2, hB2, hk2⟩
 have hb3 := hb1.ext hk2
 refine ⟨fun _ => hb3.blk, ?_⟩
 refine WD.mem 12 rfl (by kernel_rfl) rfl rfl rfl (M.append Tryz.underlying29 Tryz.el40 rfl (by decide) rfl rfl hb3.row rfl (Cells.add hB2.cells) (encN_one _) (by omega) (by omega)) ?_
 rintro v' w3 ⟨hown, hfr, hk3, _⟩
 have hBB := hk3.blk hb3.blk (fun h => hb3.ne h rfl)
 refine ⟨fun _ => hBB, ?_⟩
 refine WD.takeW 13 rfl (by kernel_rfl) rfl rfl rfl (fun w1 => R.nilCheck rfl) (WD.takeW 14 rfl (by kernel_rfl) rfl rfl rfl (fun w1 => R.fieldAddr Tryz.runUnderlying164 rfl Tryz.sizeOf29 rfl) ?_)
 obtain ⟨av, cv, rfl⟩ := own_form hown
 refine WD.mem0 15 rfl (by kernel_rfl) rfl rfl (M.store Tryz.sizeOf29 rfl rfl rfl rfl hBB (by simp)) ?_
 rintro wf ⟨_, hBf, hkf⟩
 refine ⟨fun h => absurd (List.mem_singleton.2 rfl) h, ?_⟩
 have hsz1 := hD.size
 have hfar : ∀ g, Value.ownBlock (.slice av (b.nodes.length + 1) cv) = some g → W0 ≤ g ∧ g ≠ B := by
  intro g hg
  rcases hfr with h | ⟨g', h1, h2⟩
  · exact ⟨hb.far g (by rw [← h]; exact hg), hb3.ne (by rw [← h]; exact hg)⟩
  ·
   rw [h1] at hg; cases hg
   have := hb3.blk.lt
   exact ⟨by omega, by omega⟩
 refine WD.done (by kernel_rfl) ?_ _
 refine WX.end0 Tryz.results203 ⟨_, rfl, ⟨.slice av (b.nodes.length + 1) cv, hBf, ?_, hb.low, fun g hg => (hfar g hg).1⟩, ?_⟩
 ·
  have h := own_keep hown hkf (fun g hg h => (hfar g hg).2 h)
  rw [List.length_append, List.flatMap_append]
  simpa using h
 · exact KT.trans (KT.trans (KT.of_ext (hD.ext hk2)) (KT.row hb3.row bty2 hb3.far hk3)) (hkf.mono (fun q hq h => by have h : q = B := h; subst h; exact Wr.mk hb.low hBB bty1))
theorem hang_ok (W0 B i : Nat) (p : Bool) (to : Int) (b : Bd) (v x : Value) (w : World) (hb : BdS W0 B w b v) (hx : HC B w (i, p) x) (hi : i < b.nodes.length) :
  ∃ f, ∃ cs : List Value, x = .func (.func f) #[] cs.toArray ∧ (∀ args w, (callFunc f args).run Tryz.prog w = .ok (.enter f args) w) ∧ Calls Tryz.prog f (([] : List Value) ++ [Value.int .i64 to] ++ cs).toArray w (Ret fun _ w' => BdS W0 B w' { b with nodes := setE b.nodes to (i, p) } v ∧ KT bty W0 w w') := by
 obtain ⟨bb, ab, rfl, h1, h2⟩ := hx
 cases p
 · exact ⟨_, [_, _], rfl, Tryz.call160, next_ok' W0 B bb ab i to b v w hb h1 h2 hi⟩
 · exact ⟨_, [_, _], rfl, Tryz.call220, other_ok' W0 B bb ab i to b v w hb h1 h2 hi⟩
end Go.Proofs.YtldhllpogdikdaaGreat
namespace Go.GL
open Go.RowKit
section
variable {P : Program} {env : Env} {w : World} {dst : Option Tmp} {ty : TypeId} {pos : String} {aft : Array Edge} {g : Option (Nat × Bool)}
theorem own_slice {w : World} {e : TypeId} {k : Nat} {v : Value} {n : Nat} {xs : List Value} (h : w.ownsRow 0 e k v n xs) : ∃ ao c, v = .slice ao n c ∧ n ≤ c ∧ c ≤ 9223372036854775807 := by
 rcases h.2 with ⟨rfl, rfl⟩ | ⟨g, cap, cur, rfl, _, _, h5, h6, _⟩
 · exact ⟨_, _, rfl, Nat.le_refl _, by omega⟩
 · exact ⟨_, _, rfl, h5, by simpa [maxLen] using h6⟩
theorem own_cellsK {w : World} {e : TypeId} {k : Nat} {a0 : Addr} {n c : Nat} {xs : List Value} (h : w.ownsRow 0 e k (.slice (some a0) n c) n xs) : a0.off = 0 ∧ a0.spot = none ∧ Cells w a0.block 0 xs := by
 rcases h.2 with ⟨h1, _⟩ | ⟨g, cap, cur, h1, _, h4, h5, h6, h7, h8⟩
 · cases h1
 ·
  cases h1
  refine ⟨rfl, rfl, fun j u hu => ?_⟩
  have hb : Blk w g cur.toList e := by unfold Blk; simpa using h4
  have := hb.cells j u (by rw [← h8, List.getElem?_take] at hu; split at hu; exact hu; cases hu)
  simpa using this
theorem M.appendO {t e : TypeId} {k by' : Nat} {z : Value} {x y : Operand} {v vy : Value} {m j : Nat} {xs ys : List Value} (hu : P.underlying t = some (.slice e)) (he : (P.info? e).map (fun i => (i.zero, i.size, i.bytes)) = some (some z, k, by')) (hzs : z.cells.size = k) (hk : 0 < k)
  (hx : ev env x = some v) (hy : ev env y = some vy) (hown : w.ownsRow 0 e k v m xs) (hoy : w.ownsRow 0 e k vy j ys) (h1 : ∀ u ∈ ys, u.oneCell' = true) (hmax : m + j ≤ 9223372036854775807) (hby : (m + j) * by' ≤ 140737488355328) :
  Makes P ⟨dst, .call ⟨.builtin .append, #[x, y], #[t, t]⟩, ty, pos, aft, g⟩ env w (fun u w' => w'.ownsRow 0 e k u (m + j) (xs ++ ys) ∧ (u.ownBlock = v.ownBlock ∨ ∃ g, u.ownBlock = some g ∧ w.heap.size ≤ g) ∧ Keep (fun k => v.ownBlock = some k) w w') := by
 obtain ⟨a2, c2, rfl, hjc, _⟩ := own_slice hoy
 by_cases hj : j = 0
 ·
  subst hj
  have hys : ys = [] := List.eq_nil_of_length_eq_zero (by rw [hoy.1]; omega)
  subst hys
  obtain ⟨a1, c1, rfl, hmc, _⟩ := own_slice hown
  obtain ⟨u, w', hr, rfl, rfl⟩ := M.append0 (g := g) (pos := pos) (aft := aft) (dst := dst) (ty := ty) hu he hx hy hmc
  exact ⟨_, _, hr, by simpa using hown, .inl rfl, Keep.refl _ _⟩
 ·
  obtain ⟨a0, rfl⟩ : ∃ a0, a2 = some a0 := by
   cases a2 with
   | some a0 => exact ⟨a0, rfl⟩
   | none =>
    rcases hoy.2 with ⟨_, h⟩ | ⟨g, cap, cur, h, _⟩
    · exact absurd h hj
    · cases h
  obtain ⟨e1, e2, hc⟩ := own_cellsK hoy
  obtain ⟨b0, o0, s0⟩ := a0
  simp only at e1 e2 hc
  subst e1; subst e2
  obtain ⟨u, w', hr, h5, h6, h7, _⟩ := M.append (g := g) (pos := pos) (aft := aft) (dst := dst) (ty := ty) hu he hzs hk hx hy hown hoy.1 (Cells.add hc) h1 hmax hby
  exact ⟨u, w', hr, h5, h6, h7⟩
end
end Go.GL
namespace Go.Proofs.YtldhllpogdikdaaGreat
open Go.GL
theorem BdS.bump {W0 B : Nat} {w w' : World} {b : Bd} {v : Value} (h : BdS W0 B w b v) (hw : Wrote w B [v, .int .i64 ((b.step : Int) + 1)] 164 w') : BdS W0 B w' { b with step := b.step + 1 } v ∧ KT bty W0 w w' :=
 ⟨⟨hw.2.1, own_keep h.row hw.2.2 (fun _ hg he => h.ne hg he), h.low, h.far⟩, KT.wrote h.blk bty1 h.low hw⟩
theorem Hung.lit {B : Nat} {w : World} {g : Nat} {x : Value} {e : Hang} (hb : Blk w g [x] 167) (hx : HC B w e x) : Hung B w (.slice (some ⟨g, 0, none⟩) 1 1) [e] :=
 ⟨[x], own_blk (k := 1) (n := 1) (cap := 1) hb (Nat.le_refl _) (by decide) rfl, fun i e' x' he hx' => by
  cases i with
  | zero => simp at he hx'; subst he; subst hx'; exact hx
  | succ i => simp at he⟩
theorem Hung.len {B : Nat} {w : World} {v : Value} {es : List Hang} (h : Hung B w v es) : es.length ≤ 9223372036854775807 := by
 obtain ⟨xs, h1, _⟩ := h
 obtain ⟨_, _, _, h2, h3⟩ := own_slice h1
 omega
theorem one_hang (s : St) (h1 : ∀ b ins, (listB s.thn b ins).2.length ≤ max ins.length 1 + widL s.thn) (h2 : ∀ b ins, (listB s.els b ins).2.length ≤ max ins.length 1 + widL s.els) (a : Nat) (b : Bd) : (s.one a b).2.length ≤ 1 + s.wid := by
 rw [s.one_eq]
 have hw := s.wid_eq
 split
 ·
  dsimp only
  rw [List.length_append]
  have e1 := h1 { nodes := b.nodes ++ [⟨3, b.step, -1, -1⟩], step := b.step + 1 } [(a, false)]
  have e2 := h2 (listB s.thn { nodes := b.nodes ++ [⟨3, b.step, -1, -1⟩], step := b.step + 1 } [(a, false)]).1 [(a, true)]
  simp only [List.length_singleton] at e1 e2
  omega
 · split <;> simp
theorem list_hang (l : List St) : ∀ b ins, (listB l b ins).2.length ≤ max ins.length 1 + widL l := by
 induction l using Sts.ind with
 | h l ih =>
 have key : ∀ r : List St, (∀ x ∈ r, x ∈ l) → ∀ b ins, (listB r b ins).2.length ≤ max ins.length 1 + widL r := by
  intro r
  induction r with
  | nil => intro _ b ins; rw [listB]; dsimp only; omega
  | cons s r ihr =>
   intro hm b ins
   have h1 := one_hang s (ih s (hm s (List.mem_cons_self ..))).1 (ih s (hm s (List.mem_cons_self ..))).2 b.nodes.length { b with nodes := setAll b.nodes b.nodes.length ins }
   rw [listB_cons]
   have h2 := ihr (fun y hy => hm y (List.mem_cons_of_mem _ hy)) (s.one b.nodes.length { b with nodes := setAll b.nodes b.nodes.length ins }).1 (s.one b.nodes.length { b with nodes := setAll b.nodes b.nodes.length ins }).2
   simp only [widL]
   omega
 exact key l (fun x h => h)
theorem setAll_take {ns : List Nd} {to : Int} {es : List Hang} {i : Nat} {e : Hang} (h : es[i]? = some e) : setAll ns to (es.take (i + 1)) = setE (setAll ns to (es.take i)) to e := by rw [take_get h, setAll_append]; rfl
def ListOk (l : List St) : Prop := ∀ (W0 B : Nat) (v vin : Value) (D : Nat → Prop) (w : World) (b : Bd) (nv : Value) (ins : List Hang), SlR 10 RSt D w v l → (∀ q, D q → q < W0) → BdS W0 B w b nv → Hung B w vin ins → (∀ e ∈ ins, e.1 < b.nodes.length) → W0 ≤ w.heap.size →
 plainL l = true → b.nodes.length + widL l ≤ 100000 → b.step + ssize l ≤ 100000 →
 Calls Tryz.prog 106 #[.pointer (some ⟨B, 0, none⟩), v, vin] w (Ret fun r w' => (∃ nv', BdS W0 B w' (listB l b ins).1 nv') ∧ Hung B w' r (listB l b ins).2 ∧ (r.ownBlock = vin.ownBlock ∨ ∃ g, r.ownBlock = some g ∧ w.heap.size ≤ g) ∧ KT bty W0 w w')
theorem one_ok (s : St) (h1 : ListOk s.thn) (h2 : ListOk s.els) (W0 B : Nat) (cs : List Value) (D : Nat → Prop) (w : World) (b : Bd) (nv : Value) (hs : RSt D w s cs) (hD : ∀ q, D q → q < W0) (hb : BdS W0 B w b nv) (hW : W0 ≤ w.heap.size) (hp : s.plainB = true)
  (hn : b.nodes.length + s.wid ≤ 100000) (hst : b.step + s.size ≤ 100000) :
  Calls Tryz.prog 159 #[.pointer (some ⟨B, 0, none⟩), .agg cs.toArray, .int .i64 b.nodes.length] w (Ret fun r w' => (∃ nv', BdS W0 B w' (s.one b.nodes.length b).1 nv') ∧ Hung B w' r (s.one b.nodes.length b).2 ∧ (∃ g, r.ownBlock = some g ∧ w.heap.size ≤ g) ∧ KT bty W0 w w') := by
 have hs1 := hs.one
 obtain ⟨v1, v2, v3, v4, rfl, hk, ht, he, hbs⟩ := hs.get
 have hw := s.wid_eq
 have hz := s.size_eq
 have hp2 := hp
 rw [s.plainB_eq, Bool.and_eq_true, Bool.and_eq_true] at hp2
 have hwl := hW
 refine calls Tryz.func159 rfl [(0, .pointer (some ⟨B, 0, none⟩)), (1, .agg #[.int .i64 s.act, .int .i64 s.cost, .int .i64 s.var, .int .i64 s.n, .int .i64 s.term.op, .int .i64 s.term.n, v1, v2, v3, v4]), (2, .int .i64 b.nodes.length)] 100 ⟨Nat.le_of_ble_eq_true rfl, Tryz.ntmps159⟩ (argsOk (Sub.of rfl)) ?_
 refine WC.sr (WO.mem rfl rfl rfl (M.box rfl rfl) ?_)
 rintro _ w1 ⟨c, rfl, hc, hs1', hBc, hk1⟩
 replace hb := hb.ext hk1
 have hE1 : KT bty W0 w w1 := KT.of_ext hk1
 refine WO.a rfl rfl (WO.nil (WX.next (WC.seq (WC.seq (WC.region ?_)))))
 refine WO.o rfl (R.fieldAddr Tryz.runUnderlying86 rfl Tryz.sizeOf80 rfl) (WO.o rfl (R.load Tryz.isAgg80 rfl (hBc.cells 0 _ rfl)) (WO.nil (WX.next (WC.block (WC.seq (WC.region ?_))))))
 refine WO.o rfl (R.eql rfl rfl) (WO.a rfl rfl (WO.nil (WX.next ?_)))
 refine WC.ite rfl (fun a3 => ?_) (fun a3 => ?_)
 ·
  rw [s.one_eq, if_pos a3]
  rw [if_neg (show ¬ s.act = 4 by omega)] at hw
  refine WC.sr (WO.mv rfl rfl (WO.call rfl rfl rfl (F.call (vs := [_, _]) Tryz.call203 rfl) (add_ok W0 B 3 b nv w1 hb (by have := hk1.size; omega) (by omega)) ?_))
  rintro _ w2 ⟨⟨nv2, hb2⟩, hK2⟩
  have hE2 := hE1.trans hK2
  have hBc2 := hK2.blk hBc (by decide)
  refine WO.nr (WO.mv rfl rfl (WO.o rfl (R.nilCheck rfl) (WO.o rfl (R.fieldAddr Tryz.runUnderlying164 rfl Tryz.sizeOf3 rfl) (WO.o rfl (R.load Tryz.isAgg3 rfl (hb2.blk.cells 1 (.int .i64 b.step) rfl)) (WO.o rfl (R.add rfl rfl (wrap_i64_in (by omega))) (WO.o rfl (R.nilCheck rfl) (WO.o rfl (R.fieldAddr Tryz.runUnderlying164 rfl Tryz.sizeOf3 rfl) (WO.mem0 rfl rfl (M.store Tryz.sizeOf3 rfl rfl rfl rfl hb2.blk (by simp)) ?_))))))))
  rintro w3 hw3
  obtain ⟨hb3, hK3⟩ := hb2.bump hw3
  have hE3 := hE2.trans hK3
  have hBc3 := hK3.blk hBc2 (by decide)
  refine WO.nil (WX.next (WC.seq (WC.draw (fun q => Blk q c [.int .i64 s.act, .int .i64 s.cost, .int .i64 s.var, .int .i64 s.n, .int .i64 s.term.op, .int .i64 s.term.n, v1, v2, v3, v4] 86) [] (by kernel_rfl) (fun w4 hk4 _ => ?_))))
  have hBc4 := hk4.blk hBc3 (fun h => h)
  have hb4 := hb3.ext hk4
  have hE4 := hE3.ext' hk4
  refine WD.takeW 0 rfl (by kernel_rfl) rfl rfl rfl (fun w1 => R.move rfl) (WD.takeW 1 rfl (by kernel_rfl) rfl rfl rfl (fun w1 => R.fieldAddr Tryz.runUnderlying86 rfl Tryz.sizeOf24 rfl) (WD.take 2 rfl (by kernel_rfl) rfl rfl rfl hBc4 (fun w1 hw1 => R.load Tryz.isAgg24 rfl (hw1.cells 7 _ rfl)) (WD.takeW 3 rfl (by kernel_rfl) rfl rfl rfl (fun w1 => R.move rfl) (WD.takeW 4 rfl (by kernel_rfl) rfl rfl rfl (fun w1 => R.move rfl) (WD.call 5 rfl (by kernel_rfl) rfl rfl rfl (F.call (vs := [_, _]) Tryz.call107 rfl) (next_ok B b.nodes.length w4) ?_)))))
  rintro x w5 ⟨hx, hk5⟩
  have hBc5 := hk5.blk hBc4 (fun h => h)
  have hb5 := hb4.ext hk5
  have hE5 := hE4.ext' hk5
  refine ⟨fun _ => hBc5, ?_⟩
  have hx0 := hx
  obtain ⟨bb, ab, rfl, _, _⟩ := hx
  refine WD.mem 6 rfl (by kernel_rfl) rfl rfl rfl (M.buildSlice (cs := [.func (.func 160) #[] #[.pointer (some ⟨bb, 0, none⟩), .pointer (some ⟨ab, 0, none⟩)]]) [(0, _)] Tryz.runUnderlying165 Tryz.sizeOf167 Tryz.zeroValue167 (by decide) rfl (by kernel_rfl)) ?_
  rintro _ w6 ⟨g6, rfl, hg6, hs6, hB6, hk6⟩
  have hBc6 := hk6.blk hBc5 (fun h => h)
  have hb6 := hb5.ext hk6
  have hE6 := hE5.ext' hk6
  refine ⟨fun _ => hBc6, ?_⟩
  have hu6 := Hung.lit hB6 (hx0.ext hk6)
  have hsz6 := hE6.size
  refine WD.call 7 rfl (by kernel_rfl) rfl rfl rfl (F.call (vs := [_, _, _]) Tryz.call106 rfl) (h1 W0 B _ _ D w6 _ _ _ (hE6.sl stable_st ht hD) hD hb6 hu6 (by simp) (by omega) hp2.1.2 (by simp; omega) (by dsimp only; omega)) ?_
  rintro r7 w7 ⟨⟨nv7, hb7⟩, hu7, hf7, hK7⟩
  have hBc7 := hK7.blk hBc6 (by decide)
  have hE7 := hE6.trans hK7
  refine ⟨fun _ => hBc7, ?_⟩
  have hl7 := list_built s.thn hp2.1.2 { nodes := b.nodes ++ [⟨3, b.step, -1, -1⟩], step := b.step + 1 } [(b.nodes.length, false)] (by simp)
  have hh7 := list_hang s.thn { nodes := b.nodes ++ [⟨3, b.step, -1, -1⟩], step := b.step + 1 } [(b.nodes.length, false)]
  simp only [List.length_singleton] at hh7
  generalize hX : listB s.thn { nodes := b.nodes ++ [⟨3, b.step, -1, -1⟩], step := b.step + 1 } [(b.nodes.length, false)] = X at hb7 hu7 hl7 hh7 ⊢
  have hlen7 := hl7.len
  have hstep7 := hl7.step
  simp only [List.length_append, List.length_singleton] at hlen7 hstep7
  have hr7 : ∃ g, r7.ownBlock = some g ∧ w.heap.size ≤ g := by
   have := hE5.size
   rcases hf7 with h | ⟨g, h, h'⟩
   · exact ⟨g6, by rw [h]; rfl, by omega⟩
   · exact ⟨g, h, by omega⟩
  refine WD.takeW 8 rfl (by kernel_rfl) rfl rfl rfl (fun w1 => R.assign rfl) (WD.done (by kernel_rfl) ?_ _)
  refine WX.next (WC.seq (WC.draw (fun q => Blk q c [.int .i64 s.act, .int .i64 s.cost, .int .i64 s.var, .int .i64 s.n, .int .i64 s.term.op, .int .i64 s.term.n, v1, v2, v3, v4] 86) [] (by kernel_rfl) (fun x4 yk4 _ => ?_)))
  have yBc4 := yk4.blk hBc7 (fun h => h)
  have yb4 := hb7.ext yk4
  have yu4 := hu7.ext yk4
  have yE4 := hE7.ext' yk4
  refine WD.takeW 0 rfl (by kernel_rfl) rfl rfl rfl (fun w1 => R.move rfl) (WD.takeW 1 rfl (by kernel_rfl) rfl rfl rfl (fun w1 => R.move rfl) (WD.takeW 2 rfl (by kernel_rfl) rfl rfl rfl (fun w1 => R.fieldAddr Tryz.runUnderlying86 rfl Tryz.sizeOf24 rfl) (WD.take 3 rfl (by kernel_rfl) rfl rfl rfl yBc4 (fun w1 hw1 => R.load Tryz.isAgg24 rfl (hw1.cells 8 _ rfl)) (WD.takeW 4 rfl (by kernel_rfl) rfl rfl rfl (fun w1 => R.move rfl) (WD.takeW 5 rfl (by kernel_rfl) rfl rfl rfl (fun w1 => R.move rfl) (WD.call 6 rfl (by kernel_rfl) rfl rfl rfl (F.call (vs := [_, _]) Tryz.call204 rfl) (other_ok B b.nodes.length x4) ?_))))))
  rintro x x5 ⟨hx, yk5⟩
  have yBc5 := yk5.blk yBc4 (fun h => h)
  have yb5 := yb4.ext yk5
  have yu5 := yu4.ext yk5
  have yE5 := yE4.ext' yk5
  refine ⟨fun _ => yBc5, ?_⟩
  have hx0 := hx
  obtain ⟨bb, ab, rfl, _, _⟩ := hx
  refine WD.mem 7 rfl (by kernel_rfl) rfl rfl rfl (M.buildSlice (cs := [.func (.func 220) #[] #[.pointer (some ⟨bb, 0, none⟩), .pointer (some ⟨ab, 0, none⟩)]]) [(0, _)] Tryz.runUnderlying165 Tryz.sizeOf167 Tryz.zeroValue167 (by decide) rfl (by kernel_rfl)) ?_
  rintro _ x6 ⟨g6', rfl, yg6, ys6, yB6, yk6⟩
  have yBc6 := yk6.blk yBc5 (fun h => h)
  have yb6 := yb5.ext yk6
  have yu6 := yu5.ext yk6
  have yE6 := yE5.ext' yk6
  refine ⟨fun _ => yBc6, ?_⟩
  have zu6 := Hung.lit yB6 (hx0.ext yk6)
  have ysz6 := yE6.size
  refine WD.call 8 rfl (by kernel_rfl) rfl rfl rfl (F.call (vs := [_, _, _]) Tryz.call106 rfl) (h2 W0 B _ _ D x6 _ _ _ (yE6.sl stable_st he hD) hD yb6 zu6 (by intro e he; rw [List.mem_singleton.1 he]; dsimp only; omega) (by omega) hp2.2 (by omega) (by omega)) ?_
  rintro r8 x7 ⟨⟨nv8, yb7⟩, yu7, yf7, yK7⟩
  have yBc7 := yK7.blk yBc6 (by decide)
  have yE7 := yE6.trans yK7
  have zu7 := yu6.kt yK7
  refine ⟨fun _ => yBc7, ?_⟩
  have hh8 := list_hang s.els X.1 [(b.nodes.length, true)]
  simp only [List.length_singleton] at hh8
  generalize listB s.els X.1 [(b.nodes.length, true)] = Y at yb7 yu7 hh8 ⊢
  obtain ⟨xs7, ho7, hat7⟩ := zu7
  obtain ⟨xs8, ho8, hat8⟩ := yu7
  have h1c : ∀ u ∈ xs8, u.oneCell' = true := by
   intro u hu
   obtain ⟨i, hi⟩ := List.mem_iff_getElem?.1 hu
   have hlt := (List.getElem?_eq_some_iff.1 hi).1
   have h8 := ho8.1
   exact (hat8 i Y.2[i] u (List.getElem?_eq_getElem (by omega)) hi).one
  refine WD.mem 9 rfl (by kernel_rfl) rfl rfl rfl (M.appendO Tryz.underlying165 Tryz.el167 rfl (by decide) rfl rfl ho7 ho8 h1c (by omega) (by omega)) ?_
  rintro u x8 ⟨hou, hfu, yk8⟩
  have hfr8 : ∀ k, r7.ownBlock = some k → w.heap.size ≤ k := by
   intro k hk
   obtain ⟨g, h, h'⟩ := hr7
   rw [h] at hk; cases hk; exact h'
  have yE8 : KT bty W0 w x8 := yE7.new yk8 hfr8
  have hbl8 : ∀ k cs e, Blk x7 k cs e → e ≠ 167 → Blk x8 k cs e := fun k cs e hb hne => yk8.blk hb (fun h => by
   obtain ⟨cs', hb'⟩ := own_blkty ho7 h
   exact hne (hb.ty hb').1)
  refine ⟨fun _ => hbl8 _ _ _ yBc7 (by decide), ?_⟩
  refine WD.takeW 10 rfl (by kernel_rfl) rfl rfl rfl (fun w1 => R.assign rfl) (WD.done (by kernel_rfl) ?_ _)
  refine WX.next (WC.ret (WX.blockR (WX.thenR ?_)))
  refine WX.ret1 Tryz.results159 rfl ⟨_, rfl, ⟨nv8, hbl8 _ _ _ yb7.blk (by decide), own_keep yb7.row yk8 (fun g hg h => by
    obtain ⟨cs', hb'⟩ := own_blkty ho7 h
    obtain ⟨cs2, hb2⟩ := own_blkty yb7.row hg
    exact absurd (hb2.ty hb').1 (by decide)), yb7.low, yb7.far⟩, ⟨xs7 ++ xs8, by rw [List.length_append]; exact hou, ?_⟩, ?_, yE8⟩
  ·
   have hcc : ∀ e x, HC B x7 e x → HC B x8 e x := by
    rintro e x ⟨bb, ab, q1, q2, q3⟩
    exact ⟨bb, ab, q1, hbl8 _ _ _ q2 (by decide), hbl8 _ _ _ q3 (by decide)⟩
   intro i e x he' hx'
   have hl1 := ho7.1
   by_cases hi : i < X.2.length
   ·
    rw [List.getElem?_append_left hi] at he'
    rw [List.getElem?_append_left (by omega)] at hx'
    exact hcc _ _ (hat7 i e x he' hx')
   ·
    rw [List.getElem?_append_right (by omega)] at he'
    rw [List.getElem?_append_right (by omega), show i - xs7.length = i - X.2.length by omega] at hx'
    exact hcc _ _ (hat8 _ e x he' hx')
  ·
   rcases hfu with h | ⟨g, h, h'⟩
   ·
    obtain ⟨g, q1, q2⟩ := hr7
    exact ⟨g, by rw [h]; exact q1, q2⟩
   ·
    have := yE7.size
    exact ⟨g, h, by omega⟩
 ·
  rw [s.one_eq, if_neg a3]
  refine WC.sr (WO.o rfl (R.eql rfl rfl) (WO.a rfl rfl (WO.nil (WX.next ?_))))
  refine WC.ite rfl (fun a4 => ?_) (fun a4 => ?_)
  ·
   rw [if_pos a4]
   rw [if_pos a4] at hw
   rw [if_neg a3, if_pos a4] at hp2
   refine WC.sr (WO.mv rfl rfl (WO.call rfl rfl rfl (F.call (vs := [_, _]) Tryz.call203 rfl) (add_ok W0 B 4 b nv w1 hb (by have := hk1.size; omega) (by omega)) ?_))
   rintro _ w2 ⟨⟨nv2, hb2⟩, hK2⟩
   have hE2 := hE1.trans hK2
   have hBc2 := hK2.blk hBc (by decide)
   refine WO.nr (WO.mv rfl rfl (WO.call rfl rfl rfl (F.call (vs := [_, _]) Tryz.call203 rfl) (add_ok W0 B 5 _ nv2 w2 hb2 (by have := hE2.size; omega) (by simp; omega)) ?_))
   rintro _ w3 ⟨⟨nv3, hb3⟩, hK3⟩
   have hE3 := hE2.trans hK3
   have hBc3 := hK3.blk hBc2 (by decide)
   dsimp only at hb3
   rw [List.append_assoc, List.singleton_append] at hb3
   refine WO.nr (WO.mv rfl rfl (WO.o rfl (R.nilCheck rfl) (WO.o rfl (R.fieldAddr Tryz.runUnderlying164 rfl Tryz.sizeOf3 rfl) (WO.o rfl (R.load Tryz.isAgg3 rfl (hb3.blk.cells 1 (.int .i64 b.step) rfl)) (WO.o rfl (R.add rfl rfl (wrap_i64_in (by omega))) (WO.o rfl (R.nilCheck rfl) (WO.o rfl (R.fieldAddr Tryz.runUnderlying164 rfl Tryz.sizeOf3 rfl) (WO.mem0 rfl rfl (M.store Tryz.sizeOf3 rfl rfl rfl rfl hb3.blk (by simp)) ?_))))))))
   rintro w4 hw4
   obtain ⟨hb4, hK4⟩ := hb3.bump hw4
   dsimp only at hb4
   have hE4 := hE3.trans hK4
   have hBc4 := hK4.blk hBc3 (by decide)
   obtain ⟨g, cap, sp, rfl, _, hnc, hcm, hBg, hlen⟩ := own_open encN_len (by decide) hb4.row (by simp)
   have hlx : (b.nodes ++ [⟨4, b.step, -1, -1⟩, ⟨5, b.step, -1, -1⟩] : List Nd).length = b.nodes.length + 2 := by simp
   have hfl : ((b.nodes ++ [⟨4, b.step, -1, -1⟩, ⟨5, b.step, -1, -1⟩] : List Nd).flatMap encN ++ sp).length = (b.nodes.length + 2) * 4 + sp.length := by rw [List.length_append, flat_len encN_len, hlx]
   have hset := set_node (b.nodes ++ [⟨4, b.step, -1, -1⟩, ⟨5, b.step, -1, -1⟩]) b.nodes.length (by omega) sp (b.nodes.length + 1 : Nat) false
   refine WO.nr (WO.mv rfl rfl (WO.o rfl (R.nilCheck rfl) (WO.o rfl (R.fieldAddr Tryz.runUnderlying164 rfl Tryz.sizeOf29 rfl) (WO.o rfl (R.load Tryz.isAgg29 rfl (hb4.blk.cells 0 _ rfl)) (WO.mv rfl rfl (WO.mv rfl rfl (WO.o rfl (R.add rfl rfl (wrap_i64_in (by omega))) (WO.o rfl (R.indexS Tryz.runUnderlying29 Tryz.sizeOf40 rfl rfl rfl (by simp; omega)) (WO.o rfl (R.fieldAddr Tryz.runUnderlying40 rfl Tryz.sizeOf3 rfl) (WO.mem0 rfl rfl (M.store Tryz.sizeOf3 rfl rfl rfl rfl hBg (by rw [hfl]; show 0 + (b.nodes.length : Int).toNat * 4 + 2 < _; omega)) ?_))))))))))
   rintro w5 ⟨_, hBf, hkf⟩
   have e5 : 0 + (b.nodes.length : Int).toNat * 4 + 2 = b.nodes.length * 4 + (if false then 3 else 2) := by simp
   have hBf' : Blk w5 g (((b.nodes ++ [⟨4, b.step, -1, -1⟩, ⟨5, b.step, -1, -1⟩] : List Nd).flatMap encN ++ sp).set (0 + (b.nodes.length : Int).toNat * 4 + 2) (.int .i64 (b.nodes.length + 1 : Nat))) 40 := hBf
   rw [e5, hset] at hBf'
   have hK5 : KT bty W0 w4 w5 := KT.wrote hBg bty2 (hb4.far _ rfl) ⟨‹_›, hBf, hkf⟩
   have hE5 := hE4.trans hK5
   have hBc5 := hK5.blk hBc4 (by decide)
   have hgB := hb4.ne rfl
   have hb5 : BdS W0 B w5 { nodes := setE (b.nodes ++ [⟨4, b.step, -1, -1⟩, ⟨5, b.step, -1, -1⟩]) (b.nodes.length + 1 : Nat) (b.nodes.length, false), step := b.step + 1 } (.slice (some ⟨g, 0, none⟩) (b.nodes ++ [⟨4, b.step, -1, -1⟩, ⟨5, b.step, -1, -1⟩] : List Nd).length cap) := by
    refine ⟨hkf.blk hb4.blk (fun h => hgB h.symm), ?_, hb4.low, hb4.far⟩
    have h := own_shut encN_len (k := (b.nodes ++ [⟨4, b.step, -1, -1⟩, ⟨5, b.step, -1, -1⟩] : List Nd).length) hBf' (by rw [List.length_append, flat_len encN_len, setE_len, hlx]; exact hfl.symm.trans hlen) (by rw [setE_len]; exact Nat.le_refl _) hnc hcm
    rw [List.take_of_length_le (by rw [setE_len]; exact Nat.le_refl _)] at h
    dsimp only
    rw [setE_len]; exact h
   refine WO.nil (WX.next (WC.seq (WC.seq (WC.draw (fun q => Blk q c [.int .i64 s.act, .int .i64 s.cost, .int .i64 s.var, .int .i64 s.n, .int .i64 s.term.op, .int .i64 s.term.n, v1, v2, v3, v4] 86) [] (by kernel_rfl) (fun w6 hk6 _ => ?_)))))
   have hBc6 := hk6.blk hBc5 (fun h => h)
   have hb6 := hb5.ext hk6
   have hE6 := hE5.ext' hk6
   refine WD.takeW 0 rfl (by kernel_rfl) rfl rfl rfl (fun w1 => R.move rfl) (WD.takeW 1 rfl (by kernel_rfl) rfl rfl rfl (fun w1 => R.fieldAddr Tryz.runUnderlying86 rfl Tryz.sizeOf24 rfl) (WD.take 2 rfl (by kernel_rfl) rfl rfl rfl hBc6 (fun w1 hw1 => R.load Tryz.isAgg24 rfl (hw1.cells 7 _ rfl)) (WD.takeW 3 rfl (by kernel_rfl) rfl rfl rfl (fun w1 => R.move rfl) (WD.takeW 4 rfl (by kernel_rfl) rfl rfl rfl (fun w1 => R.move rfl) (WD.takeW 5 rfl (by kernel_rfl) rfl rfl rfl (fun w1 => R.add rfl rfl (wrap_i64_in (by omega))) (WD.takeW 10 rfl (by kernel_rfl) rfl rfl rfl (fun w1 => R.move rfl) (WD.call 6 rfl (by kernel_rfl) rfl rfl rfl (F.call (vs := [_, _]) Tryz.call107 rfl) (next_ok B (b.nodes.length + 1) w6) ?_)))))))
   rintro x w7 ⟨hx, hk7⟩
   have hBc7 := hk7.blk hBc6 (fun h => h)
   have hb7 := hb6.ext hk7
   have hE7 := hE6.ext' hk7
   refine ⟨fun _ => hBc7, ?_⟩
   have hx0 := hx
   obtain ⟨bb, ab, rfl, _, _⟩ := hx
   refine WD.mem 7 rfl (by kernel_rfl) rfl rfl rfl (M.buildSlice (cs := [.func (.func 160) #[] #[.pointer (some ⟨bb, 0, none⟩), .pointer (some ⟨ab, 0, none⟩)]]) [(0, _)] Tryz.runUnderlying165 Tryz.sizeOf167 Tryz.zeroValue167 (by decide) rfl (by kernel_rfl)) ?_
   rintro _ w8 ⟨g8, rfl, hg8, hs8, hB8, hk8⟩
   have hBc8 := hk8.blk hBc7 (fun h => h)
   have hb8 := hb7.ext hk8
   have hE8 := hE7.ext' hk8
   refine ⟨fun _ => hBc8, ?_⟩
   have hu8 := Hung.lit hB8 (hx0.ext hk8)
   have hsz8 := hE8.size
   refine WD.call 8 rfl (by kernel_rfl) rfl rfl rfl (F.call (vs := [_, _, _]) Tryz.call106 rfl) (h1 W0 B _ _ D w8 _ _ _ (hE8.sl stable_st ht hD) hD hb8 hu8 (by intro e he; rw [List.mem_singleton.1 he]; dsimp only; rw [setE_len, hlx]; omega) (by omega) hp2.1.2 (by dsimp only; rw [setE_len, hlx]; omega) (by dsimp only; omega)) ?_
   rintro r9 w9 ⟨⟨nv9, hb9⟩, hu9, hf9, hK9⟩
   have hBc9 := hK9.blk hBc8 (by decide)
   have hE9 := hE8.trans hK9
   refine ⟨fun _ => hBc9, ?_⟩
   have hl9 := list_built s.thn hp2.1.2 { nodes := setE (b.nodes ++ [⟨4, b.step, -1, -1⟩, ⟨5, b.step, -1, -1⟩]) (b.nodes.length + 1 : Nat) (b.nodes.length, false), step := b.step + 1 } [(b.nodes.length + 1, false)] (by intro e he; rw [List.mem_singleton.1 he]; dsimp only; rw [setE_len, hlx]; omega)
   generalize hX : listB s.thn { nodes := setE (b.nodes ++ [⟨4, b.step, -1, -1⟩, ⟨5, b.step, -1, -1⟩]) (b.nodes.length + 1 : Nat) (b.nodes.length, false), step := b.step + 1 } [(b.nodes.length + 1, false)] = X at hb9 hu9 hl9 ⊢
   obtain ⟨a9, c9, rfl, _⟩ := hu9.form
   have hlen9 := hl9.len
   have hlt9 := hl9.lt
   have hmx9 := hu9.len
   dsimp only at hlen9
   rw [setE_len, hlx] at hlen9
   refine WD.takeW 9 rfl (by kernel_rfl) rfl rfl rfl (fun w1 => R.lenS rfl Tryz.runUnderlying165 rfl) (WD.done (by kernel_rfl) ?_ _)
   refine WX.next (WC.cut (σ := Unit) (fun u => [(0, .pointer (some ⟨B, 0, none⟩)), (2, .int .i64 b.nodes.length)]) (fun u => fun w' => (∃ nv', BdS W0 B w' { X.1 with nodes := setAll X.1.nodes (b.nodes.length + 1 : Nat) X.2 } nv') ∧ KT bty W0 w w') ?_ ?_)
   ·
    refine WC.block (WC.loop (σ := Nat) (fun j => [(0, .pointer (some ⟨B, 0, none⟩)), (2, .int .i64 b.nodes.length), (71, .slice a9 X.2.length c9), (72, .int .i64 X.2.length), (73, .int .i64 j)]) (fun j => fun w' => j ≤ X.2.length ∧ (∃ nv', BdS W0 B w' { X.1 with nodes := setAll X.1.nodes (b.nodes.length + 1 : Nat) (X.2.take j) } nv') ∧ Hung B w' (.slice a9 X.2.length c9) X.2 ∧ KT bty W0 w w') (fun j => X.2.length - j) (0) (Sub.of rfl) (⟨Nat.zero_le _, ⟨_, hb9⟩, hu9, hE9⟩) ?_)
    rintro j y1 ⟨hj, ⟨nvj, hbj⟩, huj, hEj⟩
    show WC _ _ _ _ [(0, .pointer (some ⟨B, 0, none⟩)), (2, .int .i64 b.nodes.length), (71, .slice a9 X.2.length c9), (72, .int .i64 X.2.length), (73, .int .i64 j)] _
    refine WC.sr (WO.o rfl (R.lss rfl rfl) (WO.nil (WX.next (WC.seq ?_))))
    refine WC.ite rfl (fun hlt => ?_) (fun hge => ?_)
    ·
     obtain ⟨e, he⟩ : ∃ e, X.2[j]? = some e := ⟨_, List.getElem?_eq_getElem (by omega)⟩
     obtain ⟨ge, x, rfl, hcx, hHx⟩ := huj.at he
     obtain ⟨ie, pe⟩ := e
     obtain ⟨f, fcs, rfl, hcf, hcall⟩ := hang_ok W0 B ie pe (b.nodes.length + 1 : Nat) _ _ x y1 hbj hHx (by dsimp only; rw [setAll_len]; exact hlt9 _ (List.mem_of_getElem? he))
     refine WC.skip (WX.next (WC.seq (WC.block (WC.seq (WC.region (WO.o rfl (R.indexS Tryz.runUnderlying165 Tryz.sizeOf167 rfl rfl rfl (by omega)) (WO.o rfl (R.load Tryz.isAgg167 rfl (hcx 0 _ rfl)) (WO.a rfl rfl (WO.nil (WX.next (WC.region ?_)))))))))))
     refine WO.mv rfl rfl (WO.mv rfl rfl (WO.o rfl (R.add rfl rfl (wrap_i64_in (by omega))) (WO.call rfl rfl rfl (F.callV (vs := [_]) hcf rfl rfl) hcall ?_)))
     rintro _ y2 ⟨hb', hK'⟩
     refine WO.nil (WX.blockN (WX.next (WC.region (WO.o rfl (R.add rfl rfl (wrap_i64_in (by omega))) (WO.mv rfl rfl (WO.nil (WX.back (j + 1) (Sub.of rfl) (⟨by omega, ⟨nvj, by rw [setAll_take he]; exact hb'⟩, huj.kt hK', hEj.trans hK'⟩) (by first | omega | (dsimp only; omega)))))))))
    ·
     have hjj : j = X.2.length := by omega
     subst hjj
     rw [List.take_length] at hbj
     refine WC.exit (WX.thenE (WX.thenE (WX.hit (WX.meet (()) (Sub.of rfl) (⟨⟨nvj, hbj⟩, hEj⟩)))))
   ·
    rintro u y3 ⟨⟨nv3', yb3⟩, yE3⟩
    show WX _ _ _ [(0, .pointer (some ⟨B, 0, none⟩)), (2, .int .i64 b.nodes.length)] _
    refine WX.next (WC.seq (WC.region (WO.mv rfl rfl (WO.mv rfl rfl (WO.o rfl (R.add rfl rfl (wrap_i64_in (by omega))) (WO.call rfl rfl rfl (F.call (vs := [_, _]) Tryz.call204 rfl) (other_ok B (b.nodes.length + 1) y3) ?_))))))
    rintro x y4 ⟨hx, yk4⟩
    have hx0 := hx
    obtain ⟨bb, ab, rfl, _, _⟩ := hx
    refine WO.mem rfl rfl rfl (M.buildSlice (cs := [.func (.func 220) #[] #[.pointer (some ⟨bb, 0, none⟩), .pointer (some ⟨ab, 0, none⟩)]]) [(0, _)] Tryz.runUnderlying165 Tryz.sizeOf167 Tryz.zeroValue167 (by decide) rfl (by kernel_rfl)) ?_
    rintro _ y5 ⟨g5, rfl, yg5, ys5, yB5, yk5⟩
    have := yE3.size
    have := yk4.size
    refine WO.a rfl rfl (WO.nil (WX.next (WC.ret (WX.blockR (WX.thenR ?_)))))
    refine WX.ret1 Tryz.results159 rfl ⟨_, rfl, ⟨nv3', (yb3.ext yk4).ext yk5⟩, Hung.lit yB5 (hx0.ext yk5), ⟨g5, rfl, by omega⟩, (yE3.ext' yk4).ext' yk5⟩
  ·
   rw [if_neg a4]
   rw [if_neg a4] at hw
   rw [if_neg a3, if_neg a4] at hp2
   refine WC.skip (WX.blockN (WX.next (WC.seq (WC.region (WO.mv rfl rfl (WO.call rfl rfl rfl (F.call (vs := [_, _]) Tryz.call203 rfl) (add_ok W0 B 2 b nv w1 hb (by have := hk1.size; omega) (by omega)) ?_))))))
   rintro _ w2 ⟨⟨nv2, hb2⟩, hK2⟩
   have hE2 := hE1.trans hK2
   refine WO.nr (WO.mv rfl rfl (WO.o rfl (R.nilCheck rfl) (WO.o rfl (R.fieldAddr Tryz.runUnderlying164 rfl Tryz.sizeOf3 rfl) (WO.o rfl (R.load Tryz.isAgg3 rfl (hb2.blk.cells 1 (.int .i64 b.step) rfl)) (WO.o rfl (R.add rfl rfl (wrap_i64_in (by omega))) (WO.o rfl (R.nilCheck rfl) (WO.o rfl (R.fieldAddr Tryz.runUnderlying164 rfl Tryz.sizeOf3 rfl) (WO.mem0 rfl rfl (M.store Tryz.sizeOf3 rfl rfl rfl rfl hb2.blk (by simp)) ?_))))))))
   rintro w3 hw3
   obtain ⟨hb3, hK3⟩ := hb2.bump hw3
   have hE3 := hE2.trans hK3
   refine WO.nr (WO.mv rfl rfl (WO.mv rfl rfl (WO.call rfl rfl rfl (F.call (vs := [_, _]) Tryz.call107 rfl) (next_ok B b.nodes.length w3) ?_)))
   rintro x w4 ⟨hx, hk4⟩
   have hx0 := hx
   obtain ⟨bb, ab, rfl, _, _⟩ := hx
   refine WO.mem rfl rfl rfl (M.buildSlice (cs := [.func (.func 160) #[] #[.pointer (some ⟨bb, 0, none⟩), .pointer (some ⟨ab, 0, none⟩)]]) [(0, _)] Tryz.runUnderlying165 Tryz.sizeOf167 Tryz.zeroValue167 (by decide) rfl (by kernel_rfl)) ?_
   rintro _ w5 ⟨g5, rfl, hg5, hs5, hB5, hk5⟩
   have := hE3.size
   have := hk4.size
   refine WO.a rfl rfl (WO.nil (WX.next (WC.ret ?_)))
   refine WX.ret1 Tryz.results159 rfl ⟨_, rfl, ⟨nv2, (hb3.ext hk4).ext hk5⟩, Hung.lit hB5 (hx0.ext hk5), ⟨g5, rfl, by omega⟩, (hE3.ext' hk4).ext' hk5⟩
end Go.Proofs.YtldhllpogdikdaaGreat
namespace Go.GL
def Narrow {α : Type} (R : Rel α) : Prop := ∀ D w x cs, R D w x cs → R (fun b => D b ∧ b < w.heap.size) w x cs
theorem SlR.narrow {α : Type} {k : Nat} {R : Rel α} (hk : 0 < k) (hR : Narrow R) {D : Nat → Prop} {w : World} {v : Value} {l : List α} (h : SlR k R D w v l) : SlR k R (fun b => D b ∧ b < w.heap.size) w v l := by
 obtain ⟨ao, cap, h1, h2, h3, h4⟩ := h
 refine ⟨ao, cap, h1, h2, h3, fun i x hx => ?_⟩
 obtain ⟨b, o, cs, h5, h6, h7, h8, h9⟩ := h4 i x hx
 obtain ⟨v0, hv0⟩ : ∃ v0, cs[0]? = some v0 := ⟨_, List.getElem?_eq_getElem (by omega)⟩
 exact ⟨b, o, cs, h5, ⟨h6, World.block_lt_of_cell? _ _ (h8 0 _ hv0)⟩, h7, h8, hR _ _ _ _ h9⟩
theorem narrow_rt : ∀ k, Narrow (RT k)
 | 0 => fun _ _ _ _ h => h.elim
 | k + 1 => fun D w t cs ⟨v, h1, h2⟩ => ⟨v, h1, h2.narrow (by omega) (narrow_rt k)⟩
theorem narrow_tm : Narrow RTm := fun D w t cs ⟨k, h⟩ => ⟨k, narrow_rt k D w t cs h⟩
theorem narrow_int : Narrow RInt := fun _ _ _ _ h => h
theorem narrow_ht : Narrow RHt := fun _ _ _ _ ⟨v, h1, h2⟩ => ⟨v, h1, h2.narrow (by omega) narrow_tm⟩
theorem narrow_vr : Narrow RVr := fun _ _ _ _ h => h
theorem narrow_rs : ∀ k, Narrow (RS k)
 | 0 => fun _ _ _ _ h => h.elim
 | k + 1 => fun D w t cs ⟨v1, v2, v3, v4, h0, h1, h2, h3, h4⟩ => ⟨v1, v2, v3, v4, h0, h1.narrow (by omega) narrow_tm, h2.narrow (by omega) (narrow_rs k), h3.narrow (by omega) (narrow_rs k), h4.narrow (by omega) narrow_int⟩
theorem narrow_st : Narrow RSt := fun D w t cs ⟨k, h⟩ => ⟨k, narrow_rs k D w t cs h⟩
theorem RFl.narrow {D : Nat → Prop} {w : World} {f : Fl} {v1 v2 v3 : Value} (h : RFl D w f v1 v2 v3) : RFl (fun b => D b ∧ b < w.heap.size) w f v1 v2 v3 :=
 ⟨h.vars.narrow (by omega) narrow_vr, h.hatches.narrow (by omega) narrow_ht, h.body.narrow (by omega) narrow_st⟩
end Go.GL
namespace Go.Proofs.YtldhllpogdikdaaGreat
open Go.GL
theorem drop_cons {α : Type} {l : List α} {i : Nat} {x : α} (h : l[i]? = some x) : l.drop i = x :: l.drop (i + 1) := by
 obtain ⟨h1, h2⟩ := List.getElem?_eq_some_iff.1 h
 rw [← h2, List.getElem_cons_drop]
theorem list_ok (l : List St) : ListOk l := by
 induction l using Sts.ind with
 | h l ih =>
 intro W0 B v vin D w b nv ins hl hD hb hu hlt hW hp hn hst
 obtain ⟨av, cv, rfl⟩ := hl.form
 have hmx := hl.max
 refine calls Tryz.func106 rfl [(0, .pointer (some ⟨B, 0, none⟩)), (1, .slice av l.length cv), (2, vin)] 39 ⟨Nat.le_of_ble_eq_true rfl, Tryz.ntmps106⟩ (argsOk (Sub.of rfl)) ?_
 refine WC.sr (WO.a rfl rfl (WO.nil (WX.next (WC.seq (WC.seq (WC.region ?_))))))
 refine WO.mv rfl rfl (WO.o rfl (R.lenS rfl Tryz.runUnderlying24 rfl) (WO.mv rfl rfl (WO.nil (WX.next (WC.block ?_)))))
 refine WC.loop (σ := Nat × Value) (fun ⟨i, vi⟩ => [(0, .pointer (some ⟨B, 0, none⟩)), (2, vi), (12, .slice av l.length cv), (13, .int .i64 l.length), (14, .int .i64 i)]) (fun ⟨i, vi⟩ => fun w' => i ≤ l.length ∧ (∃ b' nv' ins', BdS W0 B w' b' nv' ∧ Hung B w' vi ins' ∧ (∀ e ∈ ins', e.1 < b'.nodes.length) ∧ listB (l.drop i) b' ins' = listB l b ins ∧ b'.nodes.length = b.nodes.length + widL (l.take i) ∧ b'.step = b.step + ssize (l.take i)) ∧ (vi.ownBlock = vin.ownBlock ∨ ∃ g, vi.ownBlock = some g ∧ w.heap.size ≤ g) ∧ KT bty W0 w w') (fun ⟨i, vi⟩ => l.length - i) ((0, vin)) (Sub.of rfl) (⟨Nat.zero_le _, ⟨b, nv, ins, hb, hu, hlt, rfl, by simp [widL], by simp [ssize]⟩, .inl rfl, KT.refl⟩) ?_
 rintro ⟨i, vi⟩ w1 ⟨hi, ⟨b1, nv1, ins1, hb1, hu1, hlt1, hL1, hn1, hs1⟩, hf1, hE1⟩
 show WC _ _ _ _ [(0, .pointer (some ⟨B, 0, none⟩)), (2, vi), (12, .slice av l.length cv), (13, .int .i64 l.length), (14, .int .i64 i)] _
 refine WC.sr (WO.o rfl (R.lss rfl rfl) (WO.nil (WX.next (WC.seq ?_))))
 refine WC.ite rfl (fun hlt' => ?_) (fun hge => ?_)
 ·
  obtain ⟨s, he⟩ : ∃ x, l[i]? = some x := ⟨_, List.getElem?_eq_getElem (by omega)⟩
  have hm := List.mem_of_getElem? he
  have hl1 := hE1.sl stable_st hl hD
  obtain ⟨bq, oq, cq, haq, hDq, hcl, hcq, hRq⟩ : ∃ b o cs, av = some ⟨b, o, none⟩ ∧ D b ∧ cs.length = 10 ∧ Cells w1 b (o + i * 10) cs ∧ RSt D w1 s cs := by
   obtain ⟨ao', cap', h1, h2, h3, h4⟩ := hl1
   cases h1
   exact h4 i s he
  have hone := hRq.one
  have hps := plainL_mem hp s hm
  have hws := widL_split he
  have hzs := ssize_split he
  obtain ⟨v1, v2, v3, v4, rfl, q1, q2, q3, q4⟩ := hRq.get
  refine WC.skip (WX.next (WC.seq (WC.block (WC.seq (WC.region (WO.o rfl (R.indexS Tryz.runUnderlying24 Tryz.sizeOf86 rfl rfl haq (by omega)) (WO.o rfl (R.loadK Tryz.isAgg86 Tryz.sizeOf86 rfl (by rfl) hcq) (WO.mem rfl rfl rfl (M.alloc (cs := _) Tryz.zeroValue86 rfl) ?_))))))))
  rintro _ w2 ⟨c, rfl, hc, hsc, hBc0, hk2⟩
  refine WO.mem0 rfl rfl (M.storeK Tryz.sizeOf86 rfl rfl rfl rfl hone hBc0 (by simp)) ?_
  rintro w3 ⟨_, hBc, hkc⟩
  have hk3 : Ext w1 w3 := hk2.trans hkc (fun q hq h => by have h : q = c := h; omega)
  have hE3 := hE1.ext' hk3
  replace hb1 := hb1.ext hk3
  replace hu1 := hu1.ext hk3
  obtain ⟨an, cn, rfl, hnc, _⟩ := own_slice hb1.row
  obtain ⟨a1, c1, rfl, _⟩ := hu1.form
  have hmx1 := hu1.len
  have hBc' : Blk w3 c [.int .i64 s.act, .int .i64 s.cost, .int .i64 s.var, .int .i64 s.n, .int .i64 s.term.op, .int .i64 s.term.n, v1, v2, v3, v4] 86 := hBc
  refine WO.nr (WO.mv rfl rfl (WO.o rfl (R.nilCheck rfl) (WO.o rfl (R.fieldAddr Tryz.runUnderlying164 rfl Tryz.sizeOf29 rfl) (WO.o rfl (R.load Tryz.isAgg29 rfl (hb1.blk.cells 0 _ rfl)) (WO.o rfl (R.lenS rfl Tryz.runUnderlying29 rfl) (WO.a rfl rfl (WO.nil (WX.next (WC.seq (WC.seq (WC.region ?_)))))))))))
  refine WO.mv rfl rfl (WO.o rfl (R.lenS rfl Tryz.runUnderlying165 rfl) (WO.mv rfl rfl (WO.nil (WX.next (WC.block ?_)))))
  refine WC.loop (σ := Nat) (fun j => [(0, .pointer (some ⟨B, 0, none⟩)), (8, .pointer (some ⟨c, 0, none⟩)), (9, .int .i64 b1.nodes.length), (12, .slice av l.length cv), (13, .int .i64 l.length), (14, .int .i64 i), (23, .slice a1 ins1.length c1), (24, .int .i64 ins1.length), (25, .int .i64 j)]) (fun j => fun w' => j ≤ ins1.length ∧ BdS W0 B w' { b1 with nodes := setAll b1.nodes b1.nodes.length (ins1.take j) } (.slice an b1.nodes.length cn) ∧ Hung B w' (.slice a1 ins1.length c1) ins1 ∧ Blk w' c [.int .i64 s.act, .int .i64 s.cost, .int .i64 s.var, .int .i64 s.n, .int .i64 s.term.op, .int .i64 s.term.n, v1, v2, v3, v4] 86 ∧ KT bty W0 w3 w') (fun j => ins1.length - j) (0) (Sub.of rfl) (⟨Nat.zero_le _, hb1, hu1, hBc', KT.refl⟩) ?_
  rintro j y1 ⟨hj, hbj, huj, hBj, hFj⟩
  show WC _ _ _ _ [(0, .pointer (some ⟨B, 0, none⟩)), (8, .pointer (some ⟨c, 0, none⟩)), (9, .int .i64 b1.nodes.length), (12, .slice av l.length cv), (13, .int .i64 l.length), (14, .int .i64 i), (23, .slice a1 ins1.length c1), (24, .int .i64 ins1.length), (25, .int .i64 j)] _
  have hEj := hE3.trans hFj
  refine WC.sr (WO.o rfl (R.lss rfl rfl) (WO.nil (WX.next (WC.seq ?_))))
  refine WC.ite rfl (fun hjl => ?_) (fun hjg => ?_)
  ·
   obtain ⟨e, hee⟩ : ∃ e, ins1[j]? = some e := ⟨_, List.getElem?_eq_getElem (by omega)⟩
   obtain ⟨ge, x, rfl, hcx, hHx⟩ := huj.at hee
   obtain ⟨ie, pe⟩ := e
   obtain ⟨f, fcs, rfl, hcf, hcall⟩ := hang_ok W0 B ie pe (b1.nodes.length : Nat) _ _ x y1 hbj hHx (by dsimp only; rw [setAll_len]; exact hlt1 _ (List.mem_of_getElem? hee))
   refine WC.skip (WX.next (WC.seq (WC.block (WC.seq (WC.region (WO.o rfl (R.indexS Tryz.runUnderlying165 Tryz.sizeOf167 rfl rfl rfl (by omega)) (WO.o rfl (R.load Tryz.isAgg167 rfl (hcx 0 _ rfl)) (WO.a rfl rfl (WO.nil (WX.next (WC.region ?_)))))))))))
   refine WO.mv rfl rfl (WO.mv rfl rfl (WO.call rfl rfl rfl (F.callV (vs := [_]) hcf rfl rfl) hcall ?_))
   rintro _ y2 ⟨hb', hK'⟩
   refine WO.nil (WX.blockN (WX.next (WC.region (WO.o rfl (R.add rfl rfl (wrap_i64_in (by omega))) (WO.mv rfl rfl (WO.nil (WX.back (j + 1) (Sub.of rfl) (⟨by omega, by rw [setAll_take hee]; exact hb', huj.kt hK', hK'.blk hBj (by decide), hFj.trans hK'⟩) (by first | omega | (dsimp only; omega)))))))))
  ·
   have hjj : j = ins1.length := by omega
   subst hjj
   rw [List.take_length] at hbj
   have hszj := hEj.size
   have hone := one_ok s (ih s hm).1 (ih s hm).2 W0 B _ D y1 { b1 with nodes := setAll b1.nodes b1.nodes.length ins1 } _ (RSt.put (s := s) (hFj.sl stable_tm (q1.ext stable_tm hk3) hD) (hFj.sl stable_st (q2.ext stable_st hk3) hD) (hFj.sl stable_st (q3.ext stable_st hk3) hD) (hFj.sl stable_int (q4.ext stable_int hk3) hD)) hD hbj (by omega) hps (by dsimp only; rw [setAll_len]; omega) (by dsimp only; omega)
   have hbt := one_built s hps (fun b ins h => list_built s.thn (by rw [s.plainB_eq, Bool.and_eq_true, Bool.and_eq_true] at hps; exact hps.1.2) b ins h) (fun b ins h => list_built s.els (by rw [s.plainB_eq, Bool.and_eq_true, Bool.and_eq_true] at hps; exact hps.2) b ins h) { b1 with nodes := setAll b1.nodes b1.nodes.length ins1 }
   simp only [setAll_len] at hone hbt
   refine WC.exit (WX.thenE (WX.thenE (WX.hit (WX.next (WC.region (WO.mv rfl rfl (WO.o rfl (R.loadK Tryz.isAgg86 Tryz.sizeOf86 rfl (by rfl) hBj.cells) (WO.mv rfl rfl (WO.call rfl rfl rfl (F.call (vs := [_, _, _]) Tryz.call159 rfl) hone ?_)))))))))
   rintro r y2 ⟨⟨nv2, hb2⟩, hu2, ⟨g2, hg2, hg2'⟩, hK2⟩
   refine WO.a rfl rfl (WO.nil (WX.blockN (WX.next (WC.region ?_))))
   refine WO.o rfl (R.add rfl rfl (wrap_i64_in (by omega))) (WO.mv rfl rfl (WO.nil (WX.back ((i + 1, r)) (Sub.of rfl) (⟨by omega, ⟨_, nv2, _, hb2, hu2, hbt.lt, ?_, ?_, ?_⟩, .inr ⟨g2, hg2, by omega⟩, hEj.trans hK2⟩) (by first | omega | (dsimp only; omega)))))
   · rw [← hL1, drop_cons he, listB_cons]
   · have := hbt.len; dsimp only at this; rw [setAll_len] at this; rw [widL_take he]; omega
   · have := hbt.step; dsimp only at this; rw [ssize_take he]; omega
 ·
  have hii : i = l.length := by omega
  subst hii
  rw [List.drop_length, listB] at hL1
  refine WC.exit (WX.thenE (WX.thenE (WX.hit (WX.next (WC.seq (WC.region (WO.mv rfl rfl (WO.a rfl rfl (WO.nil (WX.next (WC.ret ?_)))))))))))
  refine WX.ret1 Tryz.results106 rfl ⟨_, rfl, ⟨nv1, by rw [← hL1]; exact hb1⟩, by rw [← hL1]; exact hu1, hf1, hE1⟩
end Go.Proofs.YtldhllpogdikdaaGreat
