/-
  Guards in a loud draw region. Nothing here is a claim.
-/
import Derived.Test.YteilalejfphkgaaDraw2
namespace Go.GL
section
variable {P : Program} {n : Nat} {ops : Array Oper} {Q : Exit → Act → World → Prop} {S : World → Prop} {L : List Nat} {env : Env} {w : World} {fuel : Nat} {listed : Array Bool} {v : Value} {o : Oper}

/-- The guard (j, b) of the operation holds (x = b) or not. -/
theorem wanted_of {j dj : Nat} {b c x : Bool} {a : Act} (ha : Ok n env a) (hgo : o.guard = some (j, b)) (hj : (ops[j]?).bind (·.dst) = some dj) (hget : get env dj = some (.bool c)) (hx : (c == b) = x) : Region.wanted o (yielded ops a.tmps) = x := by
  have hy : yielded ops a.tmps j = some c := by
    have := ha.get dj _ hget
    simp [yielded, hj, this]
  simp [Region.wanted, hgo, hy, hx]
theorem wanted_undef {j dj : Nat} {b : Bool} {a : Act} (ha : Ok n env a) (hgo : o.guard = some (j, b)) (hj : (ops[j]?).bind (·.dst) = some dj) (hget : get env dj = some undef) : Region.wanted o (yielded ops a.tmps) = false := by
  have hy : yielded ops a.tmps j = none := by
    have := ha.get dj _ hget
    simp [yielded, hj, this, undef]
  simp [Region.wanted, hgo, hy]

theorem wanted_yes {j dj : Nat} {b c : Bool} {a : Act} (ha : Ok n env a) (hgo : o.guard = some (j, b)) (hj : (ops[j]?).bind (·.dst) = some dj) (hget : get env dj = some (.bool c)) (hc : c = b) : Region.wanted o (yielded ops a.tmps) = true := wanted_of ha hgo hj hget (by rw [hc]; simp)
theorem wanted_no {j dj : Nat} {b c : Bool} {a : Act} (ha : Ok n env a) (hgo : o.guard = some (j, b)) (hj : (ops[j]?).bind (·.dst) = some dj) (hget : get env dj = some (.bool c)) (hc : c = !b) : Region.wanted o (yielded ops a.tmps) = false := wanted_of ha hgo hj hget (by rw [hc]; cases b <;> rfl)

/-- The one operation that may come up now is not wanted. -/
theorem WD.skip (i : Nat) {d : Nat} (hi : ops[i]? = some o) (hr : Region.ready .any ops listed = [i]) (hw : ∀ a, Ok n env a → Region.wanted o (yielded ops a.tmps) = false) (hd : o.dst = some d) (hn : Nat.blt d n = true)
    (hS : S w) (h : WD P n ops Q S L fuel (listed.setIfInBounds i true) ((d, undef) :: env) w) : WD P n ops Q S L (fuel + 1) listed env w := by
  intro a ha
  refine ⟨fun h0 => (by rw [hr] at h0; cases h0), fun j hj => ?_⟩
  rw [hr] at hj
  have : j = i := by simpa using hj
  subst this
  unfold wpOp
  simp only [hi]
  rw [if_neg (by rw [hw a ha]; simp), hd]
  exact ⟨fun _ _ => hS, h _ (ha.put hn)⟩

/-- A quiet operation that may come up now, wanted or not, is taken first. -/
theorem WD.takeG (i : Nat) {d : Nat} (hi : ops[i]? = some o) (hs : (Region.noSelect ops && Region.free .any ops listed i && (Region.ready .any ops listed).contains i && L.all (waitsFor .any ops i) && !L.contains i) = true)
    (hd : o.dst = some d) (hn : Nat.blt d n = true) (hS : S w) (hr : (∀ a, Ok n env a → Region.wanted o (yielded ops a.tmps) = true) ∧ (∀ w', S w' → Runs P o env w' v w') ∨ (∀ a, Ok n env a → Region.wanted o (yielded ops a.tmps) = false) ∧ v = undef) (h : WD P n ops Q S L fuel (listed.setIfInBounds i true) ((d, v) :: env) w) : WD P n ops Q S L (fuel + 1) listed env w := by
  intro a ha
  simp only [Bool.and_eq_true, Bool.not_eq_true'] at hs
  obtain ⟨⟨⟨⟨h1, h2⟩, h3⟩, h4⟩, h5⟩ := hs
  refine wpAnyC_first hi (Region.noSelect_spec h1) (fun _ _ _ h => h) (by simpa using h4) (by simpa using h5) fuel listed a w (Region.free_spec hi h2) (by simpa using h3) (v := v) ?_ hS ?_
  · rcases hr with ⟨h6, h7⟩ | ⟨h6, h7⟩
    · exact .inl ⟨h6 a ha, fun w' hw' => h7 w' hw' n a ha⟩
    · exact .inr ⟨h6 a ha, h7⟩
  · rw [hd]; exact h _ (ha.put hn)

theorem WD.callG (i : Nat) {d : Nat} {f : FuncId} {args : Array Value} {R : Value → World → Prop} (hi : ops[i]? = some o) (hr : Region.ready .any ops listed = [i]) (hw : ∀ a, Ok n env a → Region.wanted o (yielded ops a.tmps) = true) (hd : o.dst = some d) (hn : Nat.blt d n = true)
    (hm : RunsF P o env w f args) (hc : Calls P f args w (fun e w' => ∃ v, e = .returned v ∧ R v w')) (h : ∀ v w', R v w' → (i ∉ L → S w') ∧ WD P n ops Q S L fuel (listed.setIfInBounds i true) ((d, v) :: env) w') : WD P n ops Q S L (fuel + 1) listed env w := by
  intro a ha
  refine ⟨fun h0 => (by rw [hr] at h0; cases h0), fun j hj => ?_⟩
  rw [hr] at hj
  have : j = i := by simpa using hj
  subst this
  unfold wpOp
  simp only [hi]
  rw [if_pos (hw a ha)]
  refine .inl ?_
  unfold Oper.wp
  rw [hm n a ha, Oper.upon_enter]
  refine hc.mono ?_
  rintro e w' ⟨v, rfl, hR⟩
  simp only [hd]
  exact ⟨fun h0 _ => (h v w' hR).1 h0, (h v w' hR).2 _ (ha.put hn)⟩

theorem WD.cases {p : Prop} (h1 : p → WD P n ops Q S L fuel listed env w) (h2 : ¬ p → WD P n ops Q S L fuel listed env w) : WD P n ops Q S L fuel listed env w := by
  by_cases h : p
  · exact h1 h
  · exact h2 h
end
end Go.GL
