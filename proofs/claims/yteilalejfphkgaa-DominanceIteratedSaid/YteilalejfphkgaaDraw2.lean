/-
  Three fresh things in any order: one of its own, and two of which the second waits for the first. Nothing here is a claim.
-/
import Derived.Test.YteilalejfphkgaaDraw
import Derived.Test.YteilalejfphkgaaRep
namespace Go.GL

theorem Sub.refl (env : Env) : Sub env env := fun _ _ h => h
theorem Sub.trans {a b c : Env} (h : Sub a b) (h' : Sub b c) : Sub a c := fun k v hk => h' k v (h k v hk)
theorem Sub.push {env : Env} {d : Nat} {v : Value} (h : get env d = none) : Sub env ((d, v) :: env) := by
  intro k u hu
  simp only [GL.get]
  cases hb : Nat.beq d k with
  | true =>
    have := Nat.eq_of_beq_eq_true hb
    subst this
    rw [h] at hu
    cases hu
  | false => exact hu
theorem Sub.under {a b : Env} {d : Nat} {v : Value} (h : Sub a b) : Sub ((d, v) :: a) ((d, v) :: b) := by
  intro k u hu
  simp only [GL.get] at hu ⊢
  cases hb : Nat.beq d k with
  | true => rw [hb] at hu; exact hu
  | false => rw [hb] at hu; exact h k u hu
theorem Sub.swap {env : Env} {a b : Nat} {x y : Value} (h : a ≠ b) : Sub ((a, x) :: (b, y) :: env) ((b, y) :: (a, x) :: env) := by
  intro k u hu
  simp only [GL.get] at hu ⊢
  cases h1 : Nat.beq a k <;> cases h2 : Nat.beq b k <;> rw [h1, h2] at hu
  · exact hu
  · exact hu
  · exact hu
  · have e1 := Nat.eq_of_beq_eq_true h1
    have e2 := Nat.eq_of_beq_eq_true h2
    exact absurd (e1.trans e2.symm) h

/-- An operation that makes something, or a call that does. -/
def Does (P : Program) (o : Oper) (env : Env) (w : World) (R : Value → World → Prop) : Prop := (∃ v w', Runs P o env w v w' ∧ R v w') ∨ ∃ f args, RunsF P o env w f args ∧ Calls P f args w (fun e w' => ∃ v, e = .returned v ∧ R v w')
theorem Does.sub {P : Program} {o : Oper} {env env' : Env} {w : World} {R : Value → World → Prop} (h : Does P o env w R) (hs : Sub env env') : Does P o env' w R := by
  rcases h with ⟨v, w', h1, h2⟩ | ⟨f, args, h1, h2⟩
  · exact .inl ⟨v, w', fun n a ha => h1 n a (ha.sub hs), h2⟩
  · exact .inr ⟨f, args, fun n a ha => h1 n a (ha.sub hs), h2⟩
theorem Does.of {P : Program} {o : Oper} {env : Env} {w : World} {R : Value → World → Prop} (h : Makes P o env w R) : Does P o env w R := .inl h
theorem Does.call {P : Program} {o : Oper} {env : Env} {w : World} {R : Value → World → Prop} {f : FuncId} {args : Array Value} (h : RunsF P o env w f args) (h' : Calls P f args w (Ret R)) : Does P o env w R := .inr ⟨f, args, h, h'⟩

section
variable {P : Program} {n : Nat} {ops : Array Oper} {Q : Exit → Act → World → Prop} {S : World → Prop} {L : List Nat} {env : Env} {w : World} {fuel : Nat} {listed : Array Bool}

theorem WD.sub {env' : Env} (hs : Sub env' env) (h : WD P n ops Q S L fuel listed env' w) : WD P n ops Q S L fuel listed env w := fun a ha => h a (ha.sub hs)

theorem WD.does {i d : Nat} {o : Oper} {R : Value → World → Prop} (hi : ops[i]? = some o) (hr : Region.ready .any ops listed = [i]) (hg : o.guard = none) (hd : o.dst = some d) (hn : Nat.blt d n = true) (hm : Does P o env w R)
    (h : ∀ v w', R v w' → (i ∉ L → S w') ∧ WD P n ops Q S L fuel (listed.setIfInBounds i true) ((d, v) :: env) w') : WD P n ops Q S L (fuel + 1) listed env w := by
  rcases hm with hm | ⟨f, args, h1, h2⟩
  · exact WD.mem i hi hr hg hd hn hm h
  · exact WD.call i hi hr hg hd hn h1 h2 h

/-- What is made is fresh. -/
def Fresh (R : World → Value → World → Prop) : Prop := ∀ a v a', R a v a' → Ext a a' ∧ ∃ b, v.ownBlock = some b ∧ a.heap.size ≤ b ∧ b < a'.heap.size
/-- It was made on the way from w to w'. -/
def Made (w : World) (R : World → Value → World → Prop) (v : Value) (w' : World) : Prop := ∃ a a', Ext w a ∧ R a v a' ∧ Ext a' w'

theorem Fresh.apart {R R' : World → Value → World → Prop} (hR : Fresh R) (hR' : Fresh R') {a a' c c' : World} {v u : Value} (h : R a v a') (h' : R' c u c') (hk : Ext a' c) : v.ownBlock ≠ u.ownBlock := by
  obtain ⟨_, b, h1, _, h2⟩ := hR _ _ _ h
  obtain ⟨_, b', h3, h4, _⟩ := hR' _ _ _ h'
  rw [h1, h3]
  intro e
  have e := Option.some.inj e
  have := hk.size
  omega

theorem WD.tri (i j k : Nat) {oi oj ok : Oper} {di dj dk : Nat} {L3 : Array Bool} {Ri Rj Rk : World → Value → World → Prop} (hi : ops[i]? = some oi) (hj : ops[j]? = some oj) (hk : ops[k]? = some ok)
    (hr1 : Region.ready .any ops listed = [i, j]) (hr2 : Region.ready .any ops (listed.setIfInBounds i true) = [j]) (hr3 : Region.ready .any ops ((listed.setIfInBounds i true).setIfInBounds j true) = [k]) (hr4 : Region.ready .any ops (listed.setIfInBounds j true) = [i, k]) (hr5 : Region.ready .any ops ((listed.setIfInBounds j true).setIfInBounds i true) = [k]) (hr6 : Region.ready .any ops ((listed.setIfInBounds j true).setIfInBounds k true) = [i])
    (e1 : ((listed.setIfInBounds i true).setIfInBounds j true).setIfInBounds k true = L3) (e2 : ((listed.setIfInBounds j true).setIfInBounds i true).setIfInBounds k true = L3) (e3 : ((listed.setIfInBounds j true).setIfInBounds k true).setIfInBounds i true = L3)
    (gi : oi.guard = none) (gj : oj.guard = none) (gk : ok.guard = none) (ti : oi.dst = some di) (tj : oj.dst = some dj) (tk : ok.dst = some dk) (ni : Nat.blt di n = true) (nj : Nat.blt dj n = true) (nk : Nat.blt dk n = true)
    (fi : get env di = none) (fj : get env dj = none) (fk : get env dk = none) (hij : Nat.beq di dj = false) (hik : Nat.beq di dk = false) (hjk : Nat.beq dj dk = false)
    (hS : ∀ w', Ext w w' → S w') (mi : ∀ w', Ext w w' → Does P oi env w' (Ri w')) (mj : ∀ w', Ext w w' → Does P oj env w' (Rj w')) (mk : ∀ w', Ext w w' → Does P ok env w' (Rk w')) (ri : Fresh Ri) (rj : Fresh Rj) (rk : Fresh Rk)
    (h : ∀ vi vj vk w', Ext w w' → Made w Ri vi w' → Made w Rj vj w' → Made w Rk vk w' → vi.ownBlock ≠ vj.ownBlock → vi.ownBlock ≠ vk.ownBlock → vj.ownBlock ≠ vk.ownBlock → WD P n ops Q S L fuel L3 ((dk, vk) :: (dj, vj) :: (di, vi) :: env) w') : WD P n ops Q S L (fuel + 3) listed env w := by
  have nij : di ≠ dj := fun e => by rw [e, Nat.beq_refl] at hij; cases hij
  have nik : di ≠ dk := fun e => by rw [e, Nat.beq_refl] at hik; cases hik
  have njk : dj ≠ dk := fun e => by rw [e, Nat.beq_refl] at hjk; cases hjk
  have g1 : ∀ {a b : Nat} {v : Value}, get env b = none → a ≠ b → get ((a, v) :: env) b = none := by
    intro a b v hb hne
    simp only [GL.get]
    cases hq : Nat.beq a b with
    | true => exact absurd (Nat.eq_of_beq_eq_true hq) hne
    | false => exact hb
  have pj : ∀ {v : Value}, Sub env ((di, v) :: env) := fun {v} => Sub.push fi
  refine WD.mem2 (R := Ri w) (Rj := Rj w) i j hi hj hr1 gi ti ni gj tj nj (mi w (Keep.refl _ _)) (mj w (Keep.refl _ _)) (fun vi w1 h1 => ⟨fun _ => hS _ (ri _ _ _ h1).1, ?_⟩) (fun vj w1 h1 => ⟨fun _ => hS _ (rj _ _ _ h1).1, ?_⟩)
  · have k1 := (ri _ _ _ h1).1
    refine WD.does (R := Rj w1) hj hr2 gj tj nj ((mj w1 k1).sub (Sub.push fi)) (fun vj w2 h2 => ?_)
    have k2 := (rj _ _ _ h2).1
    refine ⟨fun _ => hS _ (k1.ext k2), ?_⟩
    refine WD.does (R := Rk w2) hk hr3 gk tk nk ((mk w2 (k1.ext k2)).sub ((Sub.push fi).trans (Sub.push (g1 fj nij)))) (fun vk w3 h3 => ?_)
    have k3 := (rk _ _ _ h3).1
    refine ⟨fun _ => hS _ ((k1.ext k2).ext k3), ?_⟩
    rw [e1]
    exact h vi vj vk w3 ((k1.ext k2).ext k3) ⟨w, w1, Keep.refl _ _, h1, k2.ext k3⟩ ⟨w1, w2, k1, h2, k3⟩ ⟨w2, w3, k1.ext k2, h3, Keep.refl _ _⟩ (ri.apart rj h1 h2 (Keep.refl _ _)) (ri.apart rk h1 h3 k2) (rj.apart rk h2 h3 (Keep.refl _ _))
  · have k1 := (rj _ _ _ h1).1
    refine WD.mem2 (R := Ri w1) (Rj := Rk w1) i k hi hk hr4 gi ti ni gk tk nk ((mi w1 k1).sub (Sub.push fj)) ((mk w1 k1).sub (Sub.push fj)) (fun vi w2 h2 => ?_) (fun vk w2 h2 => ?_)
    · have k2 := (ri _ _ _ h2).1
      refine ⟨fun _ => hS _ (k1.ext k2), ?_⟩
      refine WD.does (R := Rk w2) hk hr5 gk tk nk ((mk w2 (k1.ext k2)).sub ((Sub.push fj).trans (Sub.push (g1 fi nij.symm)))) (fun vk w3 h3 => ?_)
      have k3 := (rk _ _ _ h3).1
      refine ⟨fun _ => hS _ ((k1.ext k2).ext k3), ?_⟩
      rw [e2]
      exact (h vi vj vk w3 ((k1.ext k2).ext k3) ⟨w1, w2, k1, h2, k3⟩ ⟨w, w1, Keep.refl _ _, h1, k2.ext k3⟩ ⟨w2, w3, k1.ext k2, h3, Keep.refl _ _⟩ (rj.apart ri h1 h2 (Keep.refl _ _)).symm (ri.apart rk h2 h3 (Keep.refl _ _)) (rj.apart rk h1 h3 k2)).sub (Sub.under (Sub.swap nij.symm))
    · have k2 := (rk _ _ _ h2).1
      refine ⟨fun _ => hS _ (k1.ext k2), ?_⟩
      refine WD.does (R := Ri w2) hi hr6 gi ti ni ((mi w2 (k1.ext k2)).sub ((Sub.push fj).trans (Sub.push (g1 fk njk)))) (fun vi w3 h3 => ?_)
      have k3 := (ri _ _ _ h3).1
      refine ⟨fun _ => hS _ ((k1.ext k2).ext k3), ?_⟩
      rw [e3]
      exact (h vi vj vk w3 ((k1.ext k2).ext k3) ⟨w2, w3, k1.ext k2, h3, Keep.refl _ _⟩ ⟨w, w1, Keep.refl _ _, h1, k2.ext k3⟩ ⟨w1, w2, k1, h2, k3⟩ (rj.apart ri h1 h3 k2).symm (rk.apart ri h2 h3 (Keep.refl _ _)).symm (rj.apart rk h1 h2 (Keep.refl _ _))).sub ((Sub.under (Sub.swap nij.symm)).trans (Sub.swap nik.symm))
end
end Go.GL
