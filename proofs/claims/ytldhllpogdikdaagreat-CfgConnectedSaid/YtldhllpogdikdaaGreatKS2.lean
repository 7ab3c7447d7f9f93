/-
  Contracts and the mathematics that the proof needs. Nothing here is a claim.
-/
import Derived.Test.YtldhllpogdikdaaGreatKS1
namespace Go.GL
def VD (P : Program) (n : Nat) (Q : Exit → Act → World → Prop) (ks : List Fr) (ops : Array Oper) (Hs : Hp) (B0 : Bases) (L : List Nat) (fuel : Nat) (listed : Array Bool) (env : Env) (A : Tgs) (H : Hp) (Bs : Bases) : Prop :=
 Has Hs H → TgOk A env H → ∀ w, VI Bs H w → WD P n ops (QK P Q ks) (VI B0 Hs) L fuel listed env w
section
variable {P : Program} {T : Tab} {Z : Szs} {n : Nat} {Q : Exit → Act → World → Prop} {ks : List Fr} {env env' : Env} {A A' : Tgs} {H Hs : Hp} {Bs B0 : Bases} {ops : Array Oper} {v : Value} {L : List Nat} {fuel : Nat} {listed : Array Bool}
theorem V.draw {id : Nat} {l : List Oper} (Hs : Hp) (L : List Nat) (hm : P.follows .mixedOrders = true) (hH : Has Hs H) (h : VD P n Q ks l.toArray Hs Bs L l.length (Array.replicate l.length false) env A H Bs) : V P n Q ks (.c (.region id l.toArray true)) env A H Bs :=
 fun hA _ hI => G.draw (VI Bs Hs) L hm (fun w' hw' _ => h hH hA w' (hI.ext hw'))
theorem VD.done (hr : Region.ready .any ops listed = []) (h : V P n Q ks (.e .normal) env A H Bs) : VD P n Q ks ops Hs B0 L fuel listed env A H Bs := fun _ hA w hI => G.done hr (h hA w hI) fuel
def isLoad : Op → Bool
 | .load _ _ => true
 | _ => false
def dchkV (ops : Array Oper) (L : List Nat) : List Nat → Array Bool → Bool
 | [], _ => true
 | i :: r, listed => Region.noSelect ops && Region.free .any ops listed i && (Region.ready .any ops listed).contains i && (L.all (waitsFor .any ops i) && !L.contains i || !(match ops[i]? with
   | some o => isLoad o.op
   | none => true)) && dchkV ops L r (listed.setIfInBounds i true)
def dpvV (T : Tab) (Z : Szs) (n : Nat) (ops : Array Oper) (Hs : Hp) : List Nat → Option Prop → Env → Tgs → Option (Option Prop × Env × Tgs)
 | [], ob, env, A => some (ob, env, A)
 | i :: r, ob, env, A => match nth ops.toList i with
  | some ⟨some d, op, _, _, _, g⟩ => (match Nat.blt d n with
   | true => (match gd ops env g with
    | some true => (match opV T Z env A Hs op with
     | some (none, v, g) => dpvV T Z n ops Hs r ob ((d, v) :: env) ((d, g) :: A)
     | some (some p, v, g) => dpvV T Z n ops Hs r (andO ob p) ((d, v) :: env) ((d, g) :: A)
     | none => none)
    | some false => dpvV T Z n ops Hs r ob ((d, undef) :: env) ((d, none) :: A)
    | none => none)
   | false => none)
  | _ => none
theorem opV_plain {op : Op} {ob : Option Prop} {g : Option (Nat × Nat)} (hl : isLoad op = false) {H' : Hp} (h : opV T Z env A H op = some (ob, v, g)) : opV T Z env A H' op = some (ob, v, g) := by
 unfold opV at h ⊢
 split at h
 · cases hl
 all_goals exact h
theorem opV_pv {op : Op} {ob : Option Prop} {g : Option (Nat × Nat)} (hl : isLoad op = false) (h : opV T Z env A H op = some (ob, v, g)) : pv T env op = some (ob, v) := by
 unfold opV at h
 split at h
 · cases hl
 ·
  split at h
  ·
   rename_i hp
   rw [hp]
   repeat' split at h
   all_goals (cases h; rfl)
  · cases h
 ·
  split at h
  ·
   rename_i hp
   rw [hp]
   repeat' split at h
   all_goals (cases h; rfl)
  · cases h
 ·
  split at h
  ·
   rename_i hx
   simp only [pv, hx]
   split at h <;> (cases h; rfl)
  · cases h
 ·
  split at h
  ·
   rename_i hx
   simp only [pv, hx]
   split at h <;> (cases h; rfl)
  · cases h
 ·
  split at h
  ·
   rename_i hp
   rw [hp]
   split at h <;> (cases h; rfl)
  · cases h
 ·
  split at h
  · rename_i hp; cases h; exact hp
  · cases h
theorem opV_load (hZ : Szs.Ok P Z) {t : TypeId} {x : Operand} {ob : Option Prop} {g : Option (Nat × Nat)} (h : opV T Z env A Hs (.load t x) = some (ob, v, g)) (hA : TgOk A env H) (hH : Has Hs H) :
  ob = none ∧ g = none ∧ ∀ w, VI B0 Hs w → ∀ (dst : Option Tmp) (ty : TypeId) (ps : String) (aft : Array Edge) (gg : Option (Nat × Bool)), Runs P ⟨dst, .load t x, ty, ps, aft, gg⟩ env w v w := by
 have key : ∀ {k off : Nat} {cs : List Value} {w : World}, VI B0 Hs w → tgo A x = some (k, off) → cellAt Hs k = some cs → ∃ b o, ev env x = some (.pointer (some ⟨b, o + off, none⟩)) ∧ Cells w b o cs := by
  intro k off cs w hI hx hc
  cases x with
  | tmp t =>
   obtain ⟨b, o, h1, h2⟩ := hA t k off hx
   refine ⟨b, o, h2, ?_⟩
   unfold cellAt at hc
   cases hg : hget Hs k with
   | none => rw [hg] at hc; cases hc
   | some e =>
    rw [hg] at hc
    have h3 := hH _ (hget_mem hg)
    unfold hadr at h1
    rw [h3] at h1
    have hh := hI.at k hg
    cases e with
    | own b' cs' e' => cases h1; cases hc; exact Blk.cells hh
    | fro b' o' cs' => cases h1; cases hc; exact hh.2
    | _ => cases hc
  | _ => cases hx
 simp only [opV] at h
 split at h
 ·
  rename_i k off hx; split at h
  ·
   rename_i cs hc; split at h
   ·
    rename_i hz; split at h
    ·
     rename_i hn; cases h
     refine ⟨rfl, rfl, fun w hI dst ty ps aft gg => ?_⟩
     obtain ⟨b, o, h1, h2⟩ := key hI hx hc
     rw [nth_eq] at hn
     exact R.load (hZ _ _ hz).1 h1 (h2 off _ hn)
    · cases h
   ·
    rename_i s hz; split at h
    ·
     rename_i l hl; cases h
     refine ⟨rfl, rfl, fun w hI dst ty ps aft gg => ?_⟩
     obtain ⟨b, o, h1, h2⟩ := key hI hx hc
     obtain ⟨h3, h4⟩ := subE_ok hl
     refine R.loadK (cs := l) (hZ _ _ hz).1 (hZ _ _ hz).2 h1 (by rw [h3, List.length_take, List.length_drop]; omega) (h2.part off ?_)
     intro j u hu
     rw [h3, List.getElem?_take] at hu
     split at hu
     · rw [List.getElem?_drop] at hu; exact hu
     · cases hu
    · cases h
   · cases h
  · cases h
 · cases h
theorem dpvV_ok (hT : Tab.Ok P T) (hZ : Szs.Ok P Z) (hB : ∀ w, VI Bs H w → VI B0 Hs w) : ∀ (is : List Nat) (ob ob' : Option Prop) (listed : Array Bool) (env : Env) (A : Tgs), dchkV ops L is listed = true → dpvV T Z n ops Hs is ob env A = some (ob', env', A') → Ask ob' →
  Ask ob ∧ (VD P n Q ks ops Hs B0 L fuel (dset is listed) env' A' H Bs → VD P n Q ks ops Hs B0 L (addN is fuel) listed env A H Bs)
 | [], ob, ob', listed, env, A, _, h, ha => by cases h; exact ⟨ha, fun h => h⟩
 | i :: r, ob, ob', listed, env, A, hc, h, ha => by
  unfold dchkV at hc
  rw [Bool.and_eq_true, Bool.and_eq_true] at hc
  obtain ⟨⟨hc1, hc2⟩, hc3⟩ := hc
  unfold dpvV at h
  split at h
  ·
   rename_i d op ty ps aft g hj
   have hi : ops[i]? = some ⟨some d, op, ty, ps, aft, g⟩ := by rw [nth_eq] at hj; simpa using hj
   have take : ∀ {ob1 : Option Prop} {v : Value} {g1 : Option (Nat × Nat)}, Nat.blt d n = true → gd ops env g = some true → opV T Z env A Hs op = some (ob1, v, g1) → Ask ob1 → VD P n Q ks ops Hs B0 L (addN r fuel) (listed.setIfInBounds i true) ((d, v) :: env) ((d, g1) :: A) H Bs → VD P n Q ks ops Hs B0 L (addN r fuel + 1) listed env A H Bs := by
    intro ob1 v g1 hn hg hv ha1 hr hH hA w hI
    cases hl : isLoad op with
    | true =>
     cases op with
     | load t x =>
      obtain ⟨e1, e2, h3⟩ := opV_load (B0 := B0) hZ hv hA hH
      subst e1; subst e2
      rw [hi] at hc2
      simp only [isLoad, Bool.not_true, Bool.or_false, Bool.and_eq_true] at hc2
      refine WD.takeG i hi ?_ rfl hn (hB w hI) (.inl ⟨gd_ok hg, fun w' hw' => h3 w' hw' _ _ _ _ _⟩) (hr hH hA.none w hI)
      rw [hc1, hc2.1, hc2.2]; rfl
     | _ => cases hl
    | false =>
     have hv' := opV_plain (H' := H) hl hv
     obtain ⟨h1, _⟩ := opV_ok (w := w) (Bs := Bs) hT hZ hv' hA
     refine WD.takeP i hi hc1 rfl hn (.inl ⟨gd_ok hg, fun w' nn a haa => ?_⟩) (hr hH (h1 _) w hI)
     exact pv_ok hT (opV_pv hl hv) ha1 nn a haa
   split at h
   ·
    rename_i hn; split at h
    ·
     rename_i hg; split at h
     ·
      rename_i hv
      obtain ⟨h2, h3⟩ := dpvV_ok hT hZ hB r _ _ _ _ _ hc3 h ha
      exact ⟨h2, fun hr => take hn hg hv trivial (h3 hr)⟩
     ·
      rename_i hv
      obtain ⟨h2, h3⟩ := dpvV_ok hT hZ hB r _ _ _ _ _ hc3 h ha
      obtain ⟨h4, h5⟩ := h2.of_and
      exact ⟨h4, fun hr => take hn hg hv h5 (h3 hr)⟩
     · cases h
    ·
     rename_i hg
     obtain ⟨h2, h3⟩ := dpvV_ok hT hZ hB r _ _ _ _ _ hc3 h ha
     exact ⟨h2, fun hr hH hA w hI => WD.takeP i hi hc1 rfl hn (.inr ⟨gd_ok hg, rfl⟩) (h3 hr hH hA.none w hI)⟩
    · cases h
   · cases h
  · cases h
theorem VD.ps (hT : Tab.Ok P T) (hZ : Szs.Ok P Z) (is : List Nat) (j : Nat) (hc : dchkV ops L is listed = true) (hB : Bs.drop j = B0) (hv : dpvV T Z n ops Hs is none env A = some (none, env', A')) (hH0 : uniq (Hs.map (·.1)) = true) (h : VD P n Q ks ops Hs B0 L fuel (dset is listed) env' A' H Bs) : VD P n Q ks ops Hs B0 L (addN is fuel) listed env A H Bs := by
 subst hB
 intro hH
 exact (dpvV_ok hT hZ (fun w hw => (hw.drop j).pick hH hH0) is _ _ _ _ _ hc hv trivial).2 h hH
theorem VD.psA (hT : Tab.Ok P T) (hZ : Szs.Ok P Z) (is : List Nat) (j : Nat) {p : Prop} (hc : dchkV ops L is listed = true) (hB : Bs.drop j = B0) (hv : dpvV T Z n ops Hs is none env A = some (some p, env', A')) (hH0 : uniq (Hs.map (·.1)) = true) (hp : p) (h : VD P n Q ks ops Hs B0 L fuel (dset is listed) env' A' H Bs) : VD P n Q ks ops Hs B0 L (addN is fuel) listed env A H Bs := by
 subst hB
 intro hH
 exact (dpvV_ok hT hZ (fun w hw => (hw.drop j).pick hH hH0) is _ _ _ _ _ hc hv hp).2 h hH
theorem VD.sp (d : Nat) {p : Prop} [Decidable p] (h : get env d = some (.bool (decide p))) (h1 : p → VD P n Q ks ops Hs B0 L fuel listed ((d, .bool true) :: env) A H Bs) (h2 : ¬ p → VD P n Q ks ops Hs B0 L fuel listed ((d, .bool false) :: env) A H Bs) : VD P n Q ks ops Hs B0 L fuel listed env A H Bs :=
 fun hH hA w hI => WD.sp d h (fun hp => h1 hp hH (hA.lit h (by rw [decide_eq_true hp])) w hI) (fun hp => h2 hp hH (hA.lit h (by rw [decide_eq_false hp])) w hI)
theorem VD.sb (d : Nat) {b : Bool} (h : get env d = some (.bool b)) (h1 : b = true → VD P n Q ks ops Hs B0 L fuel listed ((d, .bool true) :: env) A H Bs) (h2 : b = false → VD P n Q ks ops Hs B0 L fuel listed ((d, .bool false) :: env) A H Bs) : VD P n Q ks ops Hs B0 L fuel listed env A H Bs :=
 fun hH hA w hI => WD.sb d h (fun hp => h1 hp hH (hA.lit h (by rw [hp])) w hI) (fun hp => h2 hp hH (hA.lit h (by rw [hp])) w hI)
theorem VD.ix (i k : Nat) {d : Nat} {ty : TypeId} {ps : String} {aft : Array Edge} {g : Option (Nat × Bool)} {t e : TypeId} {kk b o l c : Nat} {x y : Operand} {ao : Option Addr} {kd : IntKind} {ii : Int} {cs : List Value} (hu : ∀ w, (underlying t).run P w = .ok (.slice e) w) (hs : ∀ w, (sizeOf e).run P w = .ok kk w)
  (hi : ops[i]? = some ⟨some d, .indexAddr t x y, ty, ps, aft, g⟩) (hc : dchkV ops L [i] listed = true)
  (hn : (Nat.blt d n, gd ops env g, ev env x, ev env y) = (true, some true, some (.slice ao l c), some (.int kd ii))) (hao : ao = some ⟨b, o, none⟩) (h0 : 0 ≤ ii ∧ ii < l) (j : Nat) (hj : ii = (j : Int)) (hk : hget H k = some (.fro b (o + j * kk) cs))
  (h : VD P n Q ks ops Hs B0 L fuel (listed.setIfInBounds i true) ((d, .pointer (some ⟨b, o + j * kk, none⟩)) :: env) ((d, some (k, 0)) :: A) H Bs) : VD P n Q ks ops Hs B0 L (fuel + 1) listed env A H Bs := by
 simp only [Prod.mk.injEq] at hn
 subst hj
 unfold dchkV at hc
 rw [Bool.and_eq_true, Bool.and_eq_true] at hc
 refine fun hH hA w hI => WD.takeP i hi hc.1.1 rfl hn.1 (.inl ⟨gd_ok hn.2.1, fun w' nn a haa => R.indexS hu hs hn.2.2.1 hn.2.2.2 hao h0 nn a haa⟩) (h hH (hA.push (fun k' off hg => ?_)) w hI)
 cases hg
 exact ⟨b, o + j * kk, by simp [hadr, hk], rfl⟩
theorem VD.eff (i : Nat) {d : Nat} {op : Op} {ty : TypeId} {ps : String} {aft : Array Edge} {g : Option (Nat × Bool)} (hi : ops[i]? = some ⟨some d, op, ty, ps, aft, g⟩) (hr : Region.ready .any ops listed = [i]) (hn : Nat.blt d n = true) (hg : gd ops env g = some true) {w : World} {R : Value → World → Prop}
  (hm : Does P ⟨some d, op, ty, ps, aft, g⟩ env w R) (h : ∀ v w', R v w' → VI B0 Hs w' ∧ WD P n ops (QK P Q ks) (VI B0 Hs) L fuel (listed.setIfInBounds i true) ((d, v) :: env) w') : WD P n ops (QK P Q ks) (VI B0 Hs) L (fuel + 1) listed env w := by
 intro a ha
 refine ⟨fun h0 => (by rw [hr] at h0; cases h0), fun k hk => ?_⟩
 rw [hr] at hk
 have : k = i := by simpa using hk
 subst this
 unfold wpOp
 simp only [hi]
 rw [if_pos (gd_ok hg a ha)]
 refine .inl ?_
 unfold Oper.wp
 rcases hm with ⟨v, w', hrun, hR⟩ | ⟨f, args, hm, hc⟩
 ·
  rw [hrun n a ha, Oper.upon_value]
  exact ⟨fun _ _ => (h v w' hR).1, (h v w' hR).2 _ (ha.put hn)⟩
 ·
  rw [hm n a ha, Oper.upon_enter]
  refine hc.mono ?_
  rintro e w' ⟨v, rfl, hR⟩
  exact ⟨fun _ _ => (h v w' hR).1, (h v w' hR).2 _ (ha.put hn)⟩
theorem VD.eff0 (i : Nat) {op : Op} {ty : TypeId} {ps : String} {aft : Array Edge} {g : Option (Nat × Bool)} (hi : ops[i]? = some ⟨none, op, ty, ps, aft, g⟩) (hr : Region.ready .any ops listed = [i]) (hg : gd ops env g = some true) {w : World} {R : World → Prop}
  (hm : Makes0 P ⟨none, op, ty, ps, aft, g⟩ env w R) (h : ∀ w', R w' → VI B0 Hs w' ∧ WD P n ops (QK P Q ks) (VI B0 Hs) L fuel (listed.setIfInBounds i true) env w') : WD P n ops (QK P Q ks) (VI B0 Hs) L (fuel + 1) listed env w := by
 intro a ha
 refine ⟨fun h0 => (by rw [hr] at h0; cases h0), fun k hk => ?_⟩
 rw [hr] at hk
 have : k = i := by simpa using hk
 subst this
 unfold wpOp
 simp only [hi]
 rw [if_pos (gd_ok hg a ha)]
 refine .inl ?_
 obtain ⟨w', hrun, hR⟩ := hm
 unfold Oper.wp
 rw [hrun n a ha, Oper.upon_skip]
 exact ⟨fun _ _ => (h w' hR).1, (h w' hR).2 _ ha.put0⟩
theorem Has.new {k : Nat} {e : HE} (h : Has Hs H) (hn : hget H k = none) : Has Hs ((k, e) :: H) := fun x hx => by
 have h1 := h x hx
 simp only [hget]
 cases hb : Nat.beq k x.1 with
 | true => rw [← Nat.eq_of_beq_eq_true hb, hn] at h1; cases h1
 | false => exact h1
theorem Has.set {k : Nat} {e e' : HE} (h : Has Hs H) (hg : hget H k = some e) (hf : fresh1 k (Hs.map (·.1)) = true) : Has Hs (hset H k e') := fun x hx => by
 rw [hget_set hg, fresh1_ok hf x.1 (List.mem_map.2 ⟨x, hx, rfl⟩)]
 exact h x hx
section
variable {d : Nat} {op : Op} {ty : TypeId} {ps : String} {aft : Array Edge} {g : Option (Nat × Bool)}
theorem VD.newP (i k j : Nat) {cs : List Value} {e : TypeId} (hi : ops[i]? = some ⟨some d, op, ty, ps, aft, g⟩) (hr : Region.ready .any ops listed = [i]) (hn : (Nat.blt d n, gd ops env g, (hget H k).isNone, uniq (Hs.map (·.1))) = (true, some true, true, true)) (hB : Bs.drop j = B0)
  (hm : ∀ w, VI Bs H w → Makes P ⟨some d, op, ty, ps, aft, g⟩ env w (fun r w' => ∃ b, r = .pointer (some ⟨b, 0, none⟩) ∧ New w cs e b w'))
  (h : ∀ b, VD P n Q ks ops Hs B0 L fuel (listed.setIfInBounds i true) ((d, .pointer (some ⟨b, 0, none⟩)) :: env) ((d, some (k, 0)) :: A) ((k, .own b cs e) :: H) Bs) : VD P n Q ks ops Hs B0 L (fuel + 1) listed env A H Bs := by
 simp only [Prod.mk.injEq, Option.isNone_iff_eq_none] at hn
 subst hB
 refine fun hH hA w hI => VD.eff i hi hr hn.1 hn.2.1 (.inl (hm w hI)) ?_
 rintro _ w' ⟨b, rfl, hb, hs, hB, hk⟩
 have hI' : VI Bs ((k, .own b cs e) :: H) w' := hI.new hk k hB trivial (fun _ h => h) (fun q hq => by have hq : q = b := hq; omega)
 have hH' : Has Hs ((k, .own b cs e) :: H) := hH.new hn.2.2.1
 refine ⟨(hI'.drop j).pick hH' hn.2.2.2, h b hH' ((hA.new hn.2.2.1).push (fun k' off hg => ?_)) w' hI'⟩
 cases hg
 exact ⟨b, 0, by simp [hadr, hget, Nat.beq_refl], rfl⟩
theorem VD.newB (i k j : Nat) {cs : List Value} {e : TypeId} {u : Nat → Value} (hi : ops[i]? = some ⟨some d, op, ty, ps, aft, g⟩) (hr : Region.ready .any ops listed = [i]) (hn : (Nat.blt d n, gd ops env g, (hget H k).isNone, uniq (Hs.map (·.1))) = (true, some true, true, true)) (hB : Bs.drop j = B0)
  (hm : ∀ w, VI Bs H w → Makes P ⟨some d, op, ty, ps, aft, g⟩ env w (fun r w' => ∃ b, r = u b ∧ New w cs e b w'))
  (h : ∀ b, VD P n Q ks ops Hs B0 L fuel (listed.setIfInBounds i true) ((d, u b) :: env) ((d, none) :: A) ((k, .own b cs e) :: H) Bs) : VD P n Q ks ops Hs B0 L (fuel + 1) listed env A H Bs := by
 simp only [Prod.mk.injEq, Option.isNone_iff_eq_none] at hn
 subst hB
 refine fun hH hA w hI => VD.eff i hi hr hn.1 hn.2.1 (.inl (hm w hI)) ?_
 rintro _ w' ⟨b, rfl, hb, hs, hB, hk⟩
 have hI' : VI Bs ((k, .own b cs e) :: H) w' := hI.new hk k hB trivial (fun _ h => h) (fun q hq => by have hq : q = b := hq; omega)
 have hH' : Has Hs ((k, .own b cs e) :: H) := hH.new hn.2.2.1
 exact ⟨(hI'.drop j).pick hH' hn.2.2.2, h b hH' (TgOk.none (hA.new hn.2.2.1)) w' hI'⟩
theorem VD.st (i j : Nat) (hZ : Szs.Ok P Z) {t : TypeId} {x y : Operand} {H' : Hp} (hi : ops[i]? = some ⟨none, .store t x y, ty, ps, aft, g⟩) (hr : Region.ready .any ops listed = [i]) (hn : (gd ops env g, storeV Z env A H t x y, uniq (Hs.map (·.1))) = (some true, some H', true)) (hB : Bs.drop j = B0) (hH' : Hs.map (fun x => hget H' x.1) = Hs.map (fun x => some x.2))
  (h : VD P n Q ks ops Hs B0 L fuel (listed.setIfInBounds i true) env A H' Bs) : VD P n Q ks ops Hs B0 L (fuel + 1) listed env A H Bs := by
 simp only [Prod.mk.injEq] at hn
 subst hB
 intro hH hA w hI
 obtain ⟨h1, h2⟩ := storeV_ok (w := w) (Bs := Bs) hZ hn.2.1 hA
 refine VD.eff0 i hi hr hn.1 (h2 hI ty ps aft) (fun w' hw' => ⟨(hw'.drop j).pick (Has.of hH') hn.2.2, h (Has.of hH') h1 w' hw'⟩)
theorem VD.call1 (i j : Nat) {f : FuncId} {xs : Array Operand} {ts : Array TypeId} {vs : List Value} (hf : ∀ args w, (callFunc f args).run P w = .ok (.enter f args) w) (hi : ops[i]? = some ⟨some d, .call ⟨.value (.func f), xs, ts⟩, ty, ps, aft, g⟩) (hr : Region.ready .any ops listed = [i]) (hn : (Nat.blt d n, gd ops env g, evAll env xs.toList, uniq (Hs.map (·.1))) = (true, some true, some vs, true)) (hB : Bs.drop j = B0)
  (hc : ∀ w, VI Bs H w → Calls P f vs.toArray w (Ret fun r w' => r = v ∧ Ext w w')) (h : VD P n Q ks ops Hs B0 L fuel (listed.setIfInBounds i true) ((d, v) :: env) ((d, none) :: A) H Bs) : VD P n Q ks ops Hs B0 L (fuel + 1) listed env A H Bs := by
 simp only [Prod.mk.injEq] at hn
 subst hB
 refine fun hH hA w hI => VD.eff i hi hr hn.1 hn.2.1 (.inr ⟨f, _, F.call hf (evAll_ok hn.2.2.1), hc w hI⟩) ?_
 rintro _ w' ⟨rfl, hk⟩
 exact ⟨((hI.ext hk).drop j).pick hH hn.2.2.2, h hH hA.none w' (hI.ext hk)⟩
theorem VD.call2 (i j : Nat) {f : FuncId} {xs : Array Operand} {ts : Array TypeId} {vs : List Value} {Φ : Value → World → World → Prop} (hf : ∀ args w, (callFunc f args).run P w = .ok (.enter f args) w) (hi : ops[i]? = some ⟨some d, .call ⟨.value (.func f), xs, ts⟩, ty, ps, aft, g⟩) (hr : Region.ready .any ops listed = [i]) (hn : (Nat.blt d n, gd ops env g, evAll env xs.toList, uniq (Hs.map (·.1))) = (true, some true, some vs, true)) (hB : Bs.drop j = B0)
  (hc : ∀ w, VI Bs H w → Calls P f vs.toArray w (Ret fun r w' => Φ r w w' ∧ Ext w w'))
  (h : ∀ r w w', VI Bs H w → Ext w w' → Φ r w w' → (∀ q, HS H q → q < w.heap.size) → VD P n Q ks ops Hs B0 L fuel (listed.setIfInBounds i true) ((d, r) :: env) ((d, none) :: A) H ((w', HS H) :: Bs)) : VD P n Q ks ops Hs B0 L (fuel + 1) listed env A H Bs := by
 simp only [Prod.mk.injEq] at hn
 subst hB
 refine fun hH hA w hI => VD.eff i hi hr hn.1 hn.2.1 (.inr ⟨f, _, F.call hf (evAll_ok hn.2.2.1), hc w hI⟩) ?_
 rintro r w' ⟨hP, hk⟩
 exact ⟨((hI.ext hk).drop j).pick hH hn.2.2.2, h r w w' hI hk hP (fun q ⟨x, hx, hq⟩ => hI.low x hx q hq) hH hA.none w' (hI.ext hk).here⟩
theorem VD.ap (i k kb j : Nat) {t e : TypeId} {kk by' : Nat} {z : Value} {x y : Operand} {m b l c : Nat} {xs cs : List Value} {tb : TypeId} (hu : P.underlying t = some (.slice e)) (he : (P.info? e).map (fun i => (i.zero, i.size, i.bytes)) = some (some z, kk, by')) (hzs : z.cells.size = kk) (hk0 : 0 < kk)
  (hi : ops[i]? = some ⟨some d, .call ⟨.builtin .append, #[x, y], #[t, t]⟩, ty, ps, aft, g⟩) (hr : Region.ready .any ops listed = [i]) (hB : Bs.drop j = B0)
  (hn : (Nat.blt d n, gd ops env g, hget H k, ev env x, hget H kb, ev env y, ones cs, uniq (Hs.map (·.1)), fresh1 k (Hs.map (·.1))) = (true, some true, some (.row e kk v m xs), some v, some (.own b cs tb), some (.slice (some ⟨b, 0, none⟩) l c), true, true, true)) (hl : cs.length = l * kk) (hmax : m + l ≤ 9223372036854775807) (hby : (m + l) * by' ≤ 140737488355328)
  (h : ∀ u, VD P n Q ks ops Hs B0 L fuel (listed.setIfInBounds i true) ((d, u) :: env) ((d, none) :: A) (hset H k (.row e kk u (m + l) (xs ++ cs))) Bs) : VD P n Q ks ops Hs B0 L (fuel + 1) listed env A H Bs := by
 simp only [Prod.mk.injEq] at hn
 subst hB
 obtain ⟨h1, h2, h3, h4, h5, h6, h7, h8, h9⟩ := hn
 refine fun hH hA w hI => VD.eff i hi hr h1 h2 (.inl (M.append hu he hzs hk0 h4 h6 (hI.at k h3) hl (Cells.add (Blk.cells (hI.at kb h5))) (ones_ok h7) hmax hby)) ?_
 rintro u w' ⟨ho, hf, hk, _⟩
 have hI' : VI Bs (hset H k (.row e kk u (m + l) (xs ++ cs))) w' := hI.set h3 hk ho trivial (fun _ h => h) (fun q hq => ⟨by
  rcases hf with hf | ⟨g', hf, hg'⟩
  · exact .inl (by show v.ownBlock = some q; rw [← hf]; exact hq)
  ·
   have hq : u.ownBlock = some q := hq
   rw [hf] at hq; cases hq; exact .inr hg', own_lt ho hq⟩)
 have hH' : Has Hs (hset H k (.row e kk u (m + l) (xs ++ cs))) := hH.set h3 h9
 exact ⟨(hI'.drop j).pick hH' h8, h u hH' (TgOk.none (hA.res h3 (by simp [hadr, h3]))) w' hI'⟩
theorem VD.rs (i k j : Nat) {t tl : TypeId} {x y : Operand} {b o m c : Nat} {xs : List Value} (q : Nat) (hs : ∀ w, (sizeOf tl).run P w = .ok 1 w) (hi : ops[i]? = some ⟨none, .store tl x y, ty, ps, aft, g⟩) (hr : Region.ready .any ops listed = [i]) (hB : Bs.drop j = B0)
  (hn : (gd ops env g, hget H k, ev env x, ev env y, one v, uniq (Hs.map (·.1)), fresh1 k (Hs.map (·.1))) = (some true, some (.row t 1 (.slice (some ⟨b, 0, none⟩) m c) m xs), some (.pointer (some ⟨b, o, none⟩)), some v, true, true, true)) (hj : o = q) (hl : q < xs.length)
  (h : VD P n Q ks ops Hs B0 L fuel (listed.setIfInBounds i true) env A (hset H k (.row t 1 (.slice (some ⟨b, 0, none⟩) m c) m (xs.set q v))) Bs) : VD P n Q ks ops Hs B0 L (fuel + 1) listed env A H Bs := by
 simp only [Prod.mk.injEq] at hn
 obtain ⟨h1, h2, h3, h4, h5, h8, h9⟩ := hn
 subst hj
 subst hB
 intro hH hA w hI
 have ho : w.ownsRow 0 t 1 (.slice (some ⟨b, 0, none⟩) m c) m xs := hI.at k h2
 obtain ⟨sp, hB, hc, hcm, hlen⟩ := own_set ho
 have hm1 : xs.length = m := by have := ho.1; omega
 obtain ⟨h6, h7⟩ := cell1_ok h5
 refine VD.eff0 i hi hr h1 (M.store hs h3 h4 h6 h7 hB (by rw [List.length_append]; omega)) ?_
 rintro w' ⟨hsz, hB', hk⟩
 have hI' : VI Bs (hset H k (.row t 1 (.slice (some ⟨b, 0, none⟩) m c) m (xs.set o v))) w' := by
  refine hI.set h2 (hk.mono (fun q _ hq => by have hq : q = b := hq; subst hq; exact rfl)) ?_ trivial (fun _ h => h) (fun q hq => ⟨.inl hq, ?_⟩)
  ·
   have := own_blk (k := 1) (n := m) (cap := c) hB' hc hcm (by rw [List.length_set]; omega)
   rw [List.set_append_left _ _ hl, Nat.mul_one, List.take_append_of_le_length (by rw [List.length_set]; omega), List.take_of_length_le (by rw [List.length_set]; omega)] at this
   exact this
  ·
   have hq : some b = some q := hq
   cases hq
   exact hB'.lt
 have hH' := Has.set (e' := .row t 1 (.slice (some ⟨b, 0, none⟩) m c) m (xs.set o v)) hH h2 h9
 exact ⟨(hI'.drop j).pick hH' h8, h hH' (hA.res h2 (by simp [hadr, h2])) w' hI'⟩
theorem VD.ops1 (i j : Nat) (hi : ops[i]? = some ⟨some d, op, ty, ps, aft, g⟩) (hr : Region.ready .any ops listed = [i]) (hn : (Nat.blt d n, gd ops env g, uniq (Hs.map (·.1))) = (true, some true, true)) (hB : Bs.drop j = B0) (hm : ∀ w, VI Bs H w → Runs P ⟨some d, op, ty, ps, aft, g⟩ env w v w)
  (h : VD P n Q ks ops Hs B0 L fuel (listed.setIfInBounds i true) ((d, v) :: env) ((d, none) :: A) H Bs) : VD P n Q ks ops Hs B0 L (fuel + 1) listed env A H Bs := by
 simp only [Prod.mk.injEq] at hn
 subst hB
 refine fun hH hA w hI => VD.eff i hi hr hn.1 hn.2.1 (R := fun u w' => u = v ∧ w' = w) (.inl ⟨v, w, hm w hI, rfl, rfl⟩) ?_
 rintro _ _ ⟨rfl, rfl⟩
 exact ⟨(hI.drop j).pick hH hn.2.2, h hH hA.none _ hI⟩
end
def VDx (P : Program) (n : Nat) (Q : Exit → Act → World → Prop) (ks : List Fr) (ops : Array Oper) (S : World → Prop) (L : List Nat) (fuel : Nat) (listed : Array Bool) (env : Env) (A : Tgs) (H : Hp) (Bs : Bases) : Prop :=
 TgOk A env H → ∀ w, VI Bs H w → WD P n ops (QK P Q ks) S L fuel listed env w
section
variable {S : World → Prop}
theorem VDx.done (hr : Region.ready .any ops listed = []) (h : V P n Q ks (.e .normal) env A H Bs) : VDx P n Q ks ops S L fuel listed env A H Bs := fun hA w hI => G.done hr (h hA w hI) fuel
theorem VDx.ps_ok (hT : Tab.Ok P T) (hZ : Szs.Ok P Z) : ∀ (is : List Nat) (ob ob' : Option Prop) (listed : Array Bool) (env : Env) (A : Tgs), dchk ops is listed = true → dpvV T Z n ops [] is ob env A = some (ob', env', A') → Ask ob' →
  Ask ob ∧ (VDx P n Q ks ops S L fuel (dset is listed) env' A' H Bs → VDx P n Q ks ops S L (addN is fuel) listed env A H Bs)
 | [], ob, ob', listed, env, A, _, h, ha => by cases h; exact ⟨ha, fun h => h⟩
 | i :: r, ob, ob', listed, env, A, hc, h, ha => by
  unfold dchk at hc
  rw [Bool.and_eq_true] at hc
  unfold dpvV at h
  split at h
  ·
   rename_i d op ty ps aft g hj
   have hi : ops[i]? = some ⟨some d, op, ty, ps, aft, g⟩ := by rw [nth_eq] at hj; simpa using hj
   have take : ∀ {ob1 : Option Prop} {v : Value} {g1 : Option (Nat × Nat)}, Nat.blt d n = true → gd ops env g = some true → opV T Z env A [] op = some (ob1, v, g1) → Ask ob1 → VDx P n Q ks ops S L (addN r fuel) (listed.setIfInBounds i true) ((d, v) :: env) ((d, g1) :: A) H Bs → VDx P n Q ks ops S L (addN r fuel + 1) listed env A H Bs := by
    intro ob1 v g1 hn hg hv ha1 hr hA w hI
    cases hl : isLoad op with
    | true =>
     cases op with
     | load t x =>
      simp only [opV] at hv
      split at hv <;> first | cases hv | (simp only [cellAt, hget] at hv; cases hv)
     | _ => cases hl
    | false =>
     obtain ⟨h1, _⟩ := opV_ok (w := w) (Bs := Bs) hT hZ (opV_plain (H' := H) hl hv) hA
     exact WD.takeP i hi hc.1 rfl hn (.inl ⟨gd_ok hg, fun w' nn a haa => pv_ok hT (opV_pv hl hv) ha1 nn a haa⟩) (hr (h1 _) w hI)
   split at h
   ·
    rename_i hn; split at h
    ·
     rename_i hg; split at h
     ·
      rename_i hv
      obtain ⟨h2, h3⟩ := VDx.ps_ok hT hZ r _ _ _ _ _ hc.2 h ha
      exact ⟨h2, fun hr => take hn hg hv trivial (h3 hr)⟩
     ·
      rename_i hv
      obtain ⟨h2, h3⟩ := VDx.ps_ok hT hZ r _ _ _ _ _ hc.2 h ha
      obtain ⟨h4, h5⟩ := h2.of_and
      exact ⟨h4, fun hr => take hn hg hv h5 (h3 hr)⟩
     · cases h
    ·
     rename_i hg
     obtain ⟨h2, h3⟩ := VDx.ps_ok hT hZ r _ _ _ _ _ hc.2 h ha
     exact ⟨h2, fun hr hA w hI => WD.takeP i hi hc.1 rfl hn (.inr ⟨gd_ok hg, rfl⟩) (h3 hr hA.none w hI)⟩
    · cases h
   · cases h
  · cases h
theorem VDx.ps (hT : Tab.Ok P T) (hZ : Szs.Ok P Z) (is : List Nat) (hc : dchk ops is listed = true) (hv : dpvV T Z n ops [] is none env A = some (none, env', A')) (h : VDx P n Q ks ops S L fuel (dset is listed) env' A' H Bs) : VDx P n Q ks ops S L (addN is fuel) listed env A H Bs := (VDx.ps_ok hT hZ is _ _ _ _ _ hc hv trivial).2 h
end
end
def pickE (env : Env) : List Nat → Option Env
 | [] => some []
 | k :: r => match get env k with
  | some v => (match pickE env r with
   | some l => some ((k, v) :: l)
   | none => none)
  | none => none
def pickH (H : Hp) : List Nat → Option Hp
 | [] => some []
 | k :: r => match hget H k with
  | some v => (match pickH H r with
   | some l => some ((k, v) :: l)
   | none => none)
  | none => none
def pickA (A : Tgs) : List Nat → Option Tgs
 | [] => some []
 | k :: r => match tgt A k with
  | some v => (match pickA A r with
   | some l => some ((k, some v) :: l)
   | none => none)
  | none => none
theorem pickH_has {H : Hp} : ∀ {ks : List Nat} {H' : Hp}, pickH H ks = some H' → Has H' H
 | [], H', h => by cases h; exact Has.nil
 | k :: r, H', h => by
  unfold pickH at h
  split at h
  ·
   rename_i v hv; split at h
   · rename_i l hl; cases h; exact Has.cons hv (pickH_has hl)
   · cases h
  · cases h
section
variable {P : Program} {T : Tab} {Z : Szs} {n : Nat} {Q : Exit → Act → World → Prop} {ks : List Fr} {pos : Pos} {env : Env} {A : Tgs} {H : Hp} {Bs : Bases} {ops : Array Oper} {v : Value}
theorem V.fr (k j : Nat) {w : World} {b o : Nat} {c : Value} {cs : List Value} (hn : (hget H k).isNone = true) (hp : Bs[j]? = some (w, fun _ => False)) (hc : Cells w b o (c :: cs)) (h : V P n Q ks pos env A ((k, .fro b o (c :: cs)) :: H) Bs) : V P n Q ks pos env A H Bs :=
 V.fro k (by simpa using hn) (List.mem_of_getElem? hp) (World.block_lt_of_cell? _ _ (hc 0 c rfl)) (fun h => h) hc h
theorem V.frS (k j : Nat) {w : World} {S : Nat → Prop} {b o : Nat} {c : Value} {cs : List Value} (hn : (hget H k).isNone = true) (hp : Bs[j]? = some (w, S)) (hS : ¬ S b) (hc : Cells w b o (c :: cs)) (h : V P n Q ks pos env A ((k, .fro b o (c :: cs)) :: H) Bs) : V P n Q ks pos env A H Bs :=
 V.fro k (by simpa using hn) (List.mem_of_getElem? hp) (World.block_lt_of_cell? _ _ (hc 0 c rfl)) hS hc h
theorem V.dat {α : Type} {kk : Nat} {R : Rel α} [Dt R] {D : Nat → Prop} {l : List α} (k j : Nat) {w0 : World} {S : Nat → Prop} (hn : (hget H k).isNone = true) (hp : Bs[j]? = some (w0, S)) (hk : Nat.blt 0 kk = true) (hd : SlR kk R D w0 v l) (hS : ∀ b, D b → b < w0.heap.size → ¬ S b)
  (h : V P n Q ks pos env A ((k, .dat (fun b => D b ∧ b < w0.heap.size) (fun w => SlR kk R (fun b => D b ∧ b < w0.heap.size) w v l)) :: H) Bs) : V P n Q ks pos env A H Bs :=
 fun hA w' hI => h (hA.new (by simpa using hn)) w' (by
  have h1 := hI.dat k (p := (w0, S)) (List.mem_of_getElem? hp) (show 0 < kk by simpa [Nat.blt_eq] using hk) hd hS
  exact h1)
theorem V.heq (k : Nat) {e e' : HE} (hg : hget H k = some e) (he : e = e') (h : V P n Q ks pos env A (hset H k e') Bs) : V P n Q ks pos env A H Bs := by
 subst he
 intro hA w hI
 have hh : ∀ (H : Hp), hget H k = some e → hset H k e = H := by
  intro H
  induction H with
  | nil => intro h; cases h
  | cons x r ih =>
   obtain ⟨k', e'⟩ := x
   intro h
   simp only [hget] at h
   simp only [hset]
   cases hb : Nat.beq k' k with
   | true => rw [hb] at h; cases h; rfl
   | false => rw [hb] at h; simp only [cond_false]; rw [ih h]
 rw [hh H hg] at h
 exact h hA w hI
theorem V.loopK {σ : Type} (es hs ts : List Nat) {E1 : Env} {H1 : Hp} {A1 : Tgs} (_hp : (pickE env es, pickH H hs, pickA A ts) = (some E1, some H1, some A1)) (env' : Env → σ → Env) (H' : Hp → σ → Hp) (I : σ → Prop) (μ : σ → Nat) {c : Code} (s₀ : σ) (h₀ : Sub (env' E1 s₀) env) (hH : Has (H' H1 s₀) H) (hu : ∀ s, uniq ((H' H1 s).map (·.1)) = true)
  (hA' : ∀ s, A1.map (fun p => pval (env' E1 s) p.1) = A1.map (fun p => qval (H' H1 s) p.2)) (hA2 : ∀ s, A1.all (fun p => (qval (H' H1 s) p.2).isSome) = true) (hI : I s₀)
  (h : ∀ s, I s → V P n Q (.k (Back n (env' E1) (fun s w => I s ∧ VI Bs (H' H1 s) w) μ (μ s)) :: ks) (.c c) (env' E1 s) A1 (H' H1 s) Bs) : V P n Q ks (.c (.loop c)) env A H Bs :=
 V.loop (env' E1) A1 (H' H1) I μ s₀ h₀ hH hu (fun s => ⟨hA' s, hA2 s⟩) hI h
theorem V.cutK {σ : Type} (es hs ts : List Nat) {E1 : Env} {H1 : Hp} {A1 : Tgs} (_hp : (pickE env es, pickH H hs, pickA A ts) = (some E1, some H1, some A1)) (env' : Env → σ → Env) (H' : Hp → σ → Hp) (I : σ → Prop) {c : Code}
  (hA' : ∀ s, A1.map (fun p => pval (env' E1 s) p.1) = A1.map (fun p => qval (H' H1 s) p.2)) (hA2 : ∀ s, A1.all (fun p => (qval (H' H1 s) p.2).isSome) = true)
  (h : V P n Q (.k (Meet n (env' E1) (fun s w => I s ∧ VI Bs (H' H1 s) w)) :: ks) (.c c) env A H Bs) (hk : ∀ s, I s → V P n Q ks (.e .normal) (env' E1 s) A1 (H' H1 s) Bs) : V P n Q ks (.c c) env A H Bs :=
 V.cut (env' E1) A1 (H' H1) I (fun s => ⟨hA' s, hA2 s⟩) h hk
theorem V.drawK {id : Nat} {l : List Oper} (hs L : List Nat) {Hs : Hp} (hm : P.follows .mixedOrders = true) (hp : pickH H hs = some Hs) (h : VD P n Q ks l.toArray Hs Bs L l.length (Array.replicate l.length false) env A H Bs) : V P n Q ks (.c (.region id l.toArray true)) env A H Bs := V.draw Hs L hm (pickH_has hp) h
end
def appO : List Value → List Value → Option (List Value)
 | [], l => some l
 | u :: us, l => match appO us l with
  | some r => some (u :: r)
  | none => none
def cellsAll : List Value → Option (List Value)
 | [] => some []
 | v :: r => match cellsE v with
  | some us => (match cellsAll r with
   | some l => appO us l
   | none => none)
  | none => none
def cellsW : Value → List Value
 | .agg ⟨l⟩ => l
 | v => [v]
def fillE (places : List (Nat × Nat)) : List Value → List (Nat × Value) → Option (List Value)
 | cs, [] => some cs
 | cs, (i, v) :: r => match nth places i with
  | some (off, _) => (match wrE (cellsW v) off cs with
   | some cs' => fillE places cs' r
   | none => none)
  | none => none
section
variable {P : Program} {T : Tab} {Z : Szs} {n : Nat} {Q : Exit → Act → World → Prop} {ks : List Fr} {pos : Pos} {env : Env} {A : Tgs} {H Hs : Hp} {Bs B0 : Bases} {ops : Array Oper} {rest : List Oper} {v : Value} {L : List Nat} {fuel : Nat} {listed : Array Bool}
variable {d : Nat} {op : Op} {ty : TypeId} {ps : String} {aft : Array Edge} {g : Option (Nat × Bool)}
theorem V.bs (k : Nat) {t e : TypeId} {len kk : Nat} {parts : Array (Nat × Operand)} {z : Value} {cs : List Value} (vs : List (Nat × Value)) (hu : ∀ w, (underlying t).run P w = .ok (.slice e) w) (hs : ∀ w, (sizeOf e).run P w = .ok kk w) (hz : ∀ w, (zeroValue e).run P w = .ok z w)
  (hlen : len * kk ≠ 0 ∧ len * kk ≤ 16777216) (hn : (Nat.blt d n, gd ops env g, (hget H k).isNone, parts.toList.map (fun p => (p.1, ev env p.2))) = (true, some true, true, vs.map (fun p => (p.1, some p.2)))) (_hcs : cellsAll (vs.map (·.2)) = some cs) (hf : Instr.fill (fun i => some (i * kk, kk)) ((Array.range (len * kk)).map (z.cells[· % z.cells.size]!)) vs = some cs.toArray)
  (h : ∀ b, V P n Q ks (.o ops rest) ((d, .slice (some ⟨b, 0, none⟩) len len) :: env) ((d, none) :: A) ((k, .own b cs e) :: H) Bs) : V P n Q ks (.o ops (⟨some d, .buildSlice t len parts, ty, ps, aft, g⟩ :: rest)) env A H Bs := by
 simp only [Prod.mk.injEq] at hn
 exact V.newB k (u := fun b => .slice (some ⟨b, 0, none⟩) len len) (by rw [hn.1, hn.2.1, hn.2.2.1]) (fun _ _ => M.buildSlice vs hu hs hz hlen hn.2.2.2 hf) h
theorem V.bs0 (k : Nat) {t e : TypeId} {kk : Nat} (hu : ∀ w, (underlying t).run P w = .ok (.slice e) w) (hs : ∀ w, (sizeOf e).run P w = .ok kk w) (hn : (Nat.blt d n, gd ops env g, (hget H k).isNone) = (true, some true, true))
  (h : ∀ b, V P n Q ks (.o ops rest) ((d, .slice (some ⟨b, 0, none⟩) 0 0) :: env) ((d, none) :: A) ((k, .row e kk (.slice (some ⟨b, 0, none⟩) 0 0) 0 []) :: H) Bs) : V P n Q ks (.o ops (⟨some d, .buildSlice t 0 #[], ty, ps, aft, g⟩ :: rest)) env A H Bs := by
 simp only [Prod.mk.injEq, Option.isNone_iff_eq_none] at hn
 refine fun hA w hI => G.mem hn.1 hn.2.1 (M.buildSlice0 hu hs) ?_
 rintro _ w' ⟨b, rfl, hb, hsz, hB, hk⟩
 refine h b (TgOk.none (hA.new hn.2.2)) w' (hI.new hk k ?_ trivial (fun _ h => h) (fun q hq => ?_))
 ·
  have := own_blk (k := kk) (n := 0) (cap := 0) hB (Nat.le_refl _) (by omega) (by simp)
  show w'.ownsRow 0 e kk _ 0 []
  simpa using this
 ·
  have hq : some b = some q := hq
  cases hq
  omega
theorem V.bld {t : TypeId} {parts : Array (Nat × Operand)} {l : List Value} (zs : List Value) (places : List (Nat × Nat)) (vs : List (Nat × Value)) (hn : (Nat.blt d n, gd ops env g, parts.toList.map (fun p => (p.1, ev env p.2))) = (true, some true, vs.map (fun p => (p.1, some p.2)))) (_hl : fillE places zs vs = some l) (hb : ∀ w, (Instr.build t vs.toArray).run P w = .ok (.agg l.toArray) w)
  (h : V P n Q ks (.o ops rest) ((d, .agg l.toArray) :: env) ((d, none) :: A) H Bs) : V P n Q ks (.o ops (⟨some d, .build t parts, ty, ps, aft, g⟩ :: rest)) env A H Bs := by
 simp only [Prod.mk.injEq] at hn
 exact V.ops1 (by rw [hn.1, hn.2.1]) (fun _ _ => R.build vs hn.2.2 hb) h
theorem VD.pl (i : Nat) (hi : ops[i]? = some ⟨some d, op, ty, ps, aft, g⟩) (hc : dchk ops [i] listed = true) (hn : (Nat.blt d n, gd ops env g) = (true, some true)) (hr : ∀ w, Runs P ⟨some d, op, ty, ps, aft, g⟩ env w v w)
  (h : VD P n Q ks ops Hs B0 L fuel (listed.setIfInBounds i true) ((d, v) :: env) ((d, none) :: A) H Bs) : VD P n Q ks ops Hs B0 L (fuel + 1) listed env A H Bs := by
 simp only [Prod.mk.injEq] at hn
 unfold dchk at hc
 rw [Bool.and_eq_true] at hc
 exact fun hH hA w hI => WD.takeP i hi hc.1 rfl hn.1 (.inl ⟨gd_ok hn.2, fun w' nn a haa => hr w' nn a haa⟩) (h hH hA.none w hI)
theorem VD.bld (i : Nat) {t : TypeId} {parts : Array (Nat × Operand)} {l : List Value} (zs : List Value) (places : List (Nat × Nat)) (vs : List (Nat × Value)) (hi : ops[i]? = some ⟨some d, .build t parts, ty, ps, aft, g⟩) (hc : dchk ops [i] listed = true) (hn : (Nat.blt d n, gd ops env g, parts.toList.map (fun p => (p.1, ev env p.2))) = (true, some true, vs.map (fun p => (p.1, some p.2)))) (_hl : fillE places zs vs = some l) (hb : ∀ w, (Instr.build t vs.toArray).run P w = .ok (.agg l.toArray) w)
  (h : VD P n Q ks ops Hs B0 L fuel (listed.setIfInBounds i true) ((d, .agg l.toArray) :: env) ((d, none) :: A) H Bs) : VD P n Q ks ops Hs B0 L (fuel + 1) listed env A H Bs := by
 simp only [Prod.mk.injEq] at hn
 exact VD.pl i hi hc (by rw [hn.1, hn.2.1]) (fun _ => R.build vs hn.2.2 hb) h
theorem VD.bs (i k j : Nat) {t e : TypeId} {len kk : Nat} {parts : Array (Nat × Operand)} {z : Value} {cs : List Value} (vs : List (Nat × Value)) (hu : ∀ w, (underlying t).run P w = .ok (.slice e) w) (hs : ∀ w, (sizeOf e).run P w = .ok kk w) (hz : ∀ w, (zeroValue e).run P w = .ok z w)
  (hlen : len * kk ≠ 0 ∧ len * kk ≤ 16777216) (hi : ops[i]? = some ⟨some d, .buildSlice t len parts, ty, ps, aft, g⟩) (hr : Region.ready .any ops listed = [i]) (hn : (Nat.blt d n, gd ops env g, (hget H k).isNone, uniq (Hs.map (·.1)), parts.toList.map (fun p => (p.1, ev env p.2)), Bs.drop j) = (true, some true, true, true, vs.map (fun p => (p.1, some p.2)), B0)) (_hcs : cellsAll (vs.map (·.2)) = some cs) (hf : Instr.fill (fun i => some (i * kk, kk)) ((Array.range (len * kk)).map (z.cells[· % z.cells.size]!)) vs = some cs.toArray)
  (h : ∀ b, VD P n Q ks ops Hs B0 L fuel (listed.setIfInBounds i true) ((d, .slice (some ⟨b, 0, none⟩) len len) :: env) ((d, none) :: A) ((k, .own b cs e) :: H) Bs) : VD P n Q ks ops Hs B0 L (fuel + 1) listed env A H Bs := by
 simp only [Prod.mk.injEq] at hn
 exact VD.newB i k j (u := fun b => .slice (some ⟨b, 0, none⟩) len len) hi hr (by rw [hn.1, hn.2.1, hn.2.2.1, hn.2.2.2.1]) hn.2.2.2.2.2 (fun _ _ => M.buildSlice vs hu hs hz hlen hn.2.2.2.2.1 hf) h
theorem VD.opened (k : Nat) {t : TypeId} {kk m : Nat} {xs : List Value} (hn : hget H k = some (.row t kk v m xs)) (hm : 0 < m) (h : ∀ b c, v = .slice (some ⟨b, 0, none⟩) m c → m ≤ c → VD P n Q ks ops Hs B0 L fuel listed env A H Bs) : VD P n Q ks ops Hs B0 L fuel listed env A H Bs := by
 intro hH hA w hI
 have ho : w.ownsRow 0 t kk v m xs := hI.at k hn
 rcases ho.2 with ⟨_, hm0⟩ | ⟨b, cap, cur, hv, _, _, hc, _⟩
 · omega
 · exact h b cap hv hc hH hA w hI
theorem VD.bs0 (i k j : Nat) {t e : TypeId} {kk : Nat} (hu : ∀ w, (underlying t).run P w = .ok (.slice e) w) (hs : ∀ w, (sizeOf e).run P w = .ok kk w) (hi : ops[i]? = some ⟨some d, .buildSlice t 0 #[], ty, ps, aft, g⟩) (hr : Region.ready .any ops listed = [i]) (hn : (Nat.blt d n, gd ops env g, (hget H k).isNone, uniq (Hs.map (·.1)), Bs.drop j) = (true, some true, true, true, B0))
  (h : ∀ b, VD P n Q ks ops Hs B0 L fuel (listed.setIfInBounds i true) ((d, .slice (some ⟨b, 0, none⟩) 0 0) :: env) ((d, none) :: A) ((k, .row e kk (.slice (some ⟨b, 0, none⟩) 0 0) 0 []) :: H) Bs) : VD P n Q ks ops Hs B0 L (fuel + 1) listed env A H Bs := by
 simp only [Prod.mk.injEq, Option.isNone_iff_eq_none] at hn
 obtain ⟨h1, h2, h3, h4, rfl⟩ := hn
 refine fun hH hA w hI => VD.eff i hi hr h1 h2 (.inl (M.buildSlice0 hu hs)) ?_
 rintro _ w' ⟨b, rfl, hb, hsz, hB, hk⟩
 have hI' : VI Bs ((k, .row e kk (.slice (some ⟨b, 0, none⟩) 0 0) 0 []) :: H) w' := hI.new hk k (by
  have := own_blk (k := kk) (n := 0) (cap := 0) hB (Nat.le_refl _) (by omega) (by simp)
  show w'.ownsRow 0 e kk _ 0 []
  simpa using this) trivial (fun _ h => h) (fun q hq => by
  have hq : some b = some q := hq
  cases hq
  omega)
 have hH' : Has Hs ((k, .row e kk (.slice (some ⟨b, 0, none⟩) 0 0) 0 []) :: H) := hH.new h3
 exact ⟨(hI'.drop j).pick hH' h4, h b hH' (TgOk.none (hA.new h3)) w' hI'⟩
end
section
variable {P : Program} {T : Tab} {Z : Szs} {n : Nat} {Q : Exit → Act → World → Prop} {ks : List Fr} {env env' : Env} {A A' : Tgs} {H Hs : Hp} {Bs B0 : Bases} {ops : Array Oper} {v : Value} {L : List Nat} {fuel : Nat} {listed : Array Bool}
theorem VD.one (hT : Tab.Ok P T) (hZ : Szs.Ok P Z) (i j : Nat) {d : Nat} {op : Op} {ty : TypeId} {ps : String} {aft : Array Edge} {g : Option (Nat × Bool)} {t : Option (Nat × Nat)} (hi : ops[i]? = some ⟨some d, op, ty, ps, aft, g⟩) (hr : Region.ready .any ops listed = [i]) (hn : (Nat.blt d n, gd ops env g, opV T Z env A H op, uniq (Hs.map (·.1))) = (true, some true, some (none, v, t), true)) (hB : Bs.drop j = B0)
  (h : VD P n Q ks ops Hs B0 L fuel (listed.setIfInBounds i true) ((d, v) :: env) ((d, t) :: A) H Bs) : VD P n Q ks ops Hs B0 L (fuel + 1) listed env A H Bs := by
 simp only [Prod.mk.injEq] at hn
 subst hB
 intro hH hA w hI
 obtain ⟨h1, h2⟩ := opV_ok (w := w) (Bs := Bs) hT hZ hn.2.2.1 hA
 refine VD.eff i hi hr hn.1 hn.2.1 (R := fun u w' => u = v ∧ w' = w) (.inl ⟨v, w, ?_, rfl, rfl⟩) ?_
 · exact fun nn a ha => h2 hI trivial (some d) ty ps aft nn a ha
 rintro _ _ ⟨rfl, rfl⟩
 exact ⟨(hI.drop j).pick hH hn.2.2.2, h hH (h1 d) _ hI⟩
end
end Go.GL
namespace Go.Proofs
open Go.GL
def Tryz.szs : Szs := [(3, 0), (97, 2), (50, 0), (26, 3), (24, 0), (84, 3), (29, 0), (86, 10), (31, 1), (243, 2), (82, 0), (22, 0), (91, 2), (58, 3), (38, 0), (121, 0), (40, 4), (80, 0), (125, 5), (70, 0), (4, 0), (23, 0), (52, 3), (64, 2), (109, 6), (81, 0), (9, 0), (231, 0), (89, 0), (134, 0), (160, 3), (135, 0), (167, 0), (180, 0), (136, 0), (162, 0)]
theorem Tryz.szsOk : Szs.Ok Tryz.prog Tryz.szs :=
 Szs.ok_cons (show Szs.one _ 3 0 from ⟨Tryz.isAgg3, Tryz.sizeOf3⟩) <|
 Szs.ok_cons (show Szs.one _ 97 2 from ⟨Tryz.isAgg97, Tryz.sizeOf97⟩) <|
 Szs.ok_cons (show Szs.one _ 50 0 from ⟨Tryz.isAgg50, Tryz.sizeOf50⟩) <|
 Szs.ok_cons (show Szs.one _ 26 3 from ⟨Tryz.isAgg26, Tryz.sizeOf26⟩) <|
 Szs.ok_cons (show Szs.one _ 24 0 from ⟨Tryz.isAgg24, Tryz.sizeOf24⟩) <|
 Szs.ok_cons (show Szs.one _ 84 3 from ⟨Tryz.isAgg84, Tryz.sizeOf84⟩) <|
 Szs.ok_cons (show Szs.one _ 29 0 from ⟨Tryz.isAgg29, Tryz.sizeOf29⟩) <|
 Szs.ok_cons (show Szs.one _ 86 10 from ⟨Tryz.isAgg86, Tryz.sizeOf86⟩) <|
 Szs.ok_cons (show Szs.one _ 31 1 from ⟨Tryz.isAgg31, Tryz.sizeOf31⟩) <|
 Szs.ok_cons (show Szs.one _ 243 2 from ⟨Tryz.isAgg243, Tryz.sizeOf243⟩) <|
 Szs.ok_cons (show Szs.one _ 82 0 from ⟨Tryz.isAgg82, Tryz.sizeOf82⟩) <|
 Szs.ok_cons (show Szs.one _ 22 0 from ⟨Tryz.isAgg22, Tryz.sizeOf22⟩) <|
 Szs.ok_cons (show Szs.one _ 91 2 from ⟨Tryz.isAgg91, Tryz.sizeOf91⟩) <|
 Szs.ok_cons (show Szs.one _ 58 3 from ⟨Tryz.isAgg58, Tryz.sizeOf58⟩) <|
 Szs.ok_cons (show Szs.one _ 38 0 from ⟨Tryz.isAgg38, Tryz.sizeOf38⟩) <|
 Szs.ok_cons (show Szs.one _ 121 0 from ⟨Tryz.isAgg121, Tryz.sizeOf121⟩) <|
 Szs.ok_cons (show Szs.one _ 40 4 from ⟨Tryz.isAgg40, Tryz.sizeOf40⟩) <|
 Szs.ok_cons (show Szs.one _ 80 0 from ⟨Tryz.isAgg80, Tryz.sizeOf80⟩) <|
 Szs.ok_cons (show Szs.one _ 125 5 from ⟨Tryz.isAgg125, Tryz.sizeOf125⟩) <|
 Szs.ok_cons (show Szs.one _ 70 0 from ⟨Tryz.isAgg70, Tryz.sizeOf70⟩) <|
 Szs.ok_cons (show Szs.one _ 4 0 from ⟨Tryz.isAgg4, Tryz.sizeOf4⟩) <|
 Szs.ok_cons (show Szs.one _ 23 0 from ⟨Tryz.isAgg23, Tryz.sizeOf23⟩) <|
 Szs.ok_cons (show Szs.one _ 52 3 from ⟨Tryz.isAgg52, Tryz.sizeOf52⟩) <|
 Szs.ok_cons (show Szs.one _ 64 2 from ⟨Tryz.isAgg64, Tryz.sizeOf64⟩) <|
 Szs.ok_cons (show Szs.one _ 109 6 from ⟨Tryz.isAgg109, Tryz.sizeOf109⟩) <|
 Szs.ok_cons (show Szs.one _ 81 0 from ⟨Tryz.isAgg81, Tryz.sizeOf81⟩) <|
 Szs.ok_cons (show Szs.one _ 9 0 from ⟨Tryz.isAgg9, Tryz.sizeOf9⟩) <|
 Szs.ok_cons (show Szs.one _ 231 0 from ⟨Tryz.isAgg231, Tryz.sizeOf231⟩) <|
 Szs.ok_cons (show Szs.one _ 89 0 from ⟨Tryz.isAgg89, Tryz.sizeOf89⟩) <|
 Szs.ok_cons (show Szs.one _ 134 0 from ⟨Tryz.isAgg134, Tryz.sizeOf134⟩) <|
 Szs.ok_cons (show Szs.one _ 160 3 from ⟨Tryz.isAgg160, Tryz.sizeOf160⟩) <|
 Szs.ok_cons (show Szs.one _ 135 0 from ⟨Tryz.isAgg135, Tryz.sizeOf135⟩) <|
 Szs.ok_cons (show Szs.one _ 167 0 from ⟨Tryz.isAgg167, Tryz.sizeOf167⟩) <|
 Szs.ok_cons (show Szs.one _ 180 0 from ⟨Tryz.isAgg180, Tryz.sizeOf180⟩) <|
 Szs.ok_cons (show Szs.one _ 136 0 from ⟨Tryz.isAgg136, Tryz.sizeOf136⟩) <|
 Szs.ok_cons (show Szs.one _ 162 0 from ⟨Tryz.isAgg162, Tryz.sizeOf162⟩) <|
 Szs.ok_nil
end Go.Proofs
namespace Go.Proofs.YtldhllpogdikdaaGreat
open Go.GL
section
variable {n : Nat} {Q : Exit → Act → World → Prop} {ks ks' : List Fr} {pos pos' : Pos} {env env' : Env} {A A' : Tgs} {H H' Hs : Hp} {Bs B0 : Bases} {ops : Array Oper} {L : List Nat} {fuel : Nat} {listed : Array Bool} {v : Value}
theorem Vs (k : Nat) (h : stepV Tryz.tab Tryz.szs n k none ks pos env A H = some (none, ks', pos', env', A', H')) (hr : V Tryz.prog n Q ks' pos' env' A' H' Bs) : V Tryz.prog n Q ks pos env A H Bs := V.go Tryz.tabOk Tryz.szsOk k h hr
theorem Va (k : Nat) {p : Prop} (h : stepV Tryz.tab Tryz.szs n k none ks pos env A H = some (some p, ks', pos', env', A', H')) (hp : p) (hr : V Tryz.prog n Q ks' pos' env' A' H' Bs) : V Tryz.prog n Q ks pos env A H Bs := V.goA Tryz.tabOk Tryz.szsOk k h hp hr
theorem Vw {id : Nat} {l : List Oper} (hs L : List Nat) (hp : pickH H hs = some Hs) (h : VD Tryz.prog n Q ks l.toArray Hs Bs L l.length (Array.replicate l.length false) env A H Bs) : V Tryz.prog n Q ks (.c (.region id l.toArray true)) env A H Bs := V.drawK hs L Tryz.mixed hp h
theorem Vd (is : List Nat) (j : Nat) (hc : dchkV ops L is listed = true) (hB : Bs.drop j = B0) (hv : dpvV Tryz.tab Tryz.szs n ops Hs is none env A = some (none, env', A')) (hH0 : uniq (Hs.map (·.1)) = true) (h : VD Tryz.prog n Q ks ops Hs B0 L fuel (dset is listed) env' A' H Bs) : VD Tryz.prog n Q ks ops Hs B0 L (addN is fuel) listed env A H Bs := VD.ps Tryz.tabOk Tryz.szsOk is j hc hB hv hH0 h
theorem Vb (is : List Nat) (j : Nat) {p : Prop} (hc : dchkV ops L is listed = true) (hB : Bs.drop j = B0) (hv : dpvV Tryz.tab Tryz.szs n ops Hs is none env A = some (some p, env', A')) (hH0 : uniq (Hs.map (·.1)) = true) (hp : p) (h : VD Tryz.prog n Q ks ops Hs B0 L fuel (dset is listed) env' A' H Bs) : VD Tryz.prog n Q ks ops Hs B0 L (addN is fuel) listed env A H Bs := VD.psA Tryz.tabOk Tryz.szsOk is j hc hB hv hH0 hp h
end
end Go.Proofs.YtldhllpogdikdaaGreat
namespace Go.Proofs
theorem Tryz.el3 : (Tryz.prog.info? 3).map (fun i => (i.zero, i.size, i.bytes)) = some (some ((Value.int IntKind.i64 0)), 1, 8) := by kernel_rfl
theorem Tryz.el4 : (Tryz.prog.info? 4).map (fun i => (i.zero, i.size, i.bytes)) = some (some ((Value.bool false)), 1, 1) := by kernel_rfl
theorem Tryz.el40 : (Tryz.prog.info? 40).map (fun i => (i.zero, i.size, i.bytes)) = some (some ((Value.agg #[Value.int IntKind.i64 0, Value.int IntKind.i64 0, Value.int IntKind.i64 0, Value.int IntKind.i64 0])), 4, 32) := by kernel_rfl
theorem Tryz.el50 : (Tryz.prog.info? 50).map (fun i => (i.zero, i.size, i.bytes)) = some (some ((Value.slice none 0 0)), 1, 24) := by kernel_rfl
theorem Tryz.el86 : (Tryz.prog.info? 86).map (fun i => (i.zero, i.size, i.bytes)) = some (some ((Value.agg #[Value.int IntKind.i64 0, Value.int IntKind.i64 0, Value.int IntKind.i64 0, Value.int IntKind.i64 0, Value.int IntKind.i64 0, Value.int IntKind.i64 0, Value.slice none 0 0, Value.slice none 0 0, Value.slice none 0 0, Value.slice none 0 0])), 10, 144) := by kernel_rfl
theorem Tryz.el97 : (Tryz.prog.info? 97).map (fun i => (i.zero, i.size, i.bytes)) = some (some ((Value.agg #[Value.int IntKind.i64 0, Value.int IntKind.i64 0])), 2, 16) := by kernel_rfl
theorem Tryz.el125 : (Tryz.prog.info? 125).map (fun i => (i.zero, i.size, i.bytes)) = some (some ((Value.agg #[Value.string { data := #[] }, Value.int IntKind.i64 0, Value.int IntKind.i64 0, Value.int IntKind.i64 0, Value.int IntKind.i64 0])), 5, 48) := by kernel_rfl
theorem Tryz.el135 : (Tryz.prog.info? 135).map (fun i => (i.zero, i.size, i.bytes)) = some (some ((Value.map none)), 1, 8) := by kernel_rfl
theorem Tryz.el167 : (Tryz.prog.info? 167).map (fun i => (i.zero, i.size, i.bytes)) = some (some (Value.nilFunc), 1, 8) := by kernel_rfl
theorem Tryz.el243 : (Tryz.prog.info? 243).map (fun i => (i.zero, i.size, i.bytes)) = some (some ((Value.agg #[Value.int IntKind.i64 0, Value.int IntKind.i64 0])), 2, 16) := by kernel_rfl
end Go.Proofs
namespace Go.GL
mutual
def Tm.nodes : Tm → Nat
 | .mk _ _ ks => 1 + tnodes ks
def tnodes : List Tm → Nat
 | [] => 0
 | k :: r => k.nodes + tnodes r
end
mutual
def Tm.depth : Tm → Nat
 | .mk _ _ ks => tdepth ks + 1
def tdepth : List Tm → Nat
 | [] => 0
 | k :: r => max k.depth (tdepth r)
end
mutual
def St.nodes : St → Nat
 | .mk _ _ _ _ t f g _ => 1 + t.nodes + snodes f + snodes g
def snodes : List St → Nat
 | [] => 0
 | s :: r => s.nodes + snodes r
end
mutual
def St.bulk : St → Nat
 | .mk _ _ _ _ t f g b => 1 + t.nodes + b.length + sbulk f + sbulk g
def sbulk : List St → Nat
 | [] => 0
 | s :: r => s.bulk + sbulk r
end
mutual
def St.size : St → Nat
 | .mk _ _ _ _ _ f g _ => 1 + ssize f + ssize g
def ssize : List St → Nat
 | [] => 0
 | s :: r => s.size + ssize r
end
mutual
def St.depth : St → Nat
 | .mk _ _ _ _ _ f g _ => max (sdepth f + 1) (sdepth g + 1)
def sdepth : List St → Nat
 | [] => 0
 | s :: r => max s.depth (sdepth r)
end
mutual
/-- Some term of a step is nested too deep. -/
def St.tdeep : St → Bool
 | .mk _ _ _ _ t f g _ => decide (12 < t.depth) || stdeep f || stdeep g
def stdeep : List St → Bool
 | [] => false
 | s :: r => s.tdeep || stdeep r
end
theorem Tm.nodes_eq (t : Tm) : t.nodes = 1 + tnodes t.kids := by cases t; rfl
theorem Tm.depth_eq (t : Tm) : t.depth = tdepth t.kids + 1 := by cases t; rfl
theorem St.nodes_eq (s : St) : s.nodes = 1 + s.term.nodes + snodes s.thn + snodes s.els := by cases s; rfl
theorem St.bulk_eq (s : St) : s.bulk = 1 + s.term.nodes + s.bounds.length + sbulk s.thn + sbulk s.els := by cases s; rfl
theorem St.size_eq (s : St) : s.size = 1 + ssize s.thn + ssize s.els := by cases s; rfl
theorem St.depth_eq (s : St) : s.depth = max (sdepth s.thn + 1) (sdepth s.els + 1) := by cases s; rfl
theorem St.tdeep_eq (s : St) : s.tdeep = (decide (12 < s.term.depth) || stdeep s.thn || stdeep s.els) := by cases s; rfl
theorem tnodes_append (a b : List Tm) : tnodes (a ++ b) = tnodes a + tnodes b := by
 induction a with
 | nil => simp [tnodes]
 | cons x r ih => simp [tnodes, ih, Nat.add_assoc]
theorem tdepth_append (a b : List Tm) : tdepth (a ++ b) = max (tdepth a) (tdepth b) := by
 induction a with
 | nil => simp [tdepth]
 | cons x r ih => simp [tdepth, ih, Nat.max_assoc]
theorem snodes_append (a b : List St) : snodes (a ++ b) = snodes a + snodes b := by
 induction a with
 | nil => simp [snodes]
 | cons x r ih => simp [snodes, ih, Nat.add_assoc]
theorem sbulk_append (a b : List St) : sbulk (a ++ b) = sbulk a + sbulk b := by
 induction a with
 | nil => simp [sbulk]
 | cons x r ih => simp [sbulk, ih, Nat.add_assoc]
theorem ssize_append (a b : List St) : ssize (a ++ b) = ssize a + ssize b := by
 induction a with
 | nil => simp [ssize]
 | cons x r ih => simp [ssize, ih, Nat.add_assoc]
theorem sdepth_append (a b : List St) : sdepth (a ++ b) = max (sdepth a) (sdepth b) := by
 induction a with
 | nil => simp [sdepth]
 | cons x r ih => simp [sdepth, ih, Nat.max_assoc]
theorem stdeep_append (a b : List St) : stdeep (a ++ b) = (stdeep a || stdeep b) := by
 induction a with
 | nil => simp [stdeep]
 | cons x r ih => simp [stdeep, ih, Bool.or_assoc]
theorem take_get {α : Type} {l : List α} {i : Nat} {x : α} (h : l[i]? = some x) : l.take (i + 1) = l.take i ++ [x] := by
 rw [List.take_add_one, h]; rfl
theorem tnodes_take {l : List Tm} {i : Nat} {x : Tm} (h : l[i]? = some x) : tnodes (l.take (i + 1)) = tnodes (l.take i) + x.nodes := by rw [take_get h, tnodes_append]; simp [tnodes]
theorem tdepth_take {l : List Tm} {i : Nat} {x : Tm} (h : l[i]? = some x) : tdepth (l.take (i + 1)) = max (tdepth (l.take i)) x.depth := by rw [take_get h, tdepth_append]; simp [tdepth]
theorem snodes_take {l : List St} {i : Nat} {x : St} (h : l[i]? = some x) : snodes (l.take (i + 1)) = snodes (l.take i) + x.nodes := by rw [take_get h, snodes_append]; simp [snodes]
theorem sbulk_take {l : List St} {i : Nat} {x : St} (h : l[i]? = some x) : sbulk (l.take (i + 1)) = sbulk (l.take i) + x.bulk := by rw [take_get h, sbulk_append]; simp [sbulk]
theorem ssize_take {l : List St} {i : Nat} {x : St} (h : l[i]? = some x) : ssize (l.take (i + 1)) = ssize (l.take i) + x.size := by rw [take_get h, ssize_append]; simp [ssize]
theorem sdepth_take {l : List St} {i : Nat} {x : St} (h : l[i]? = some x) : sdepth (l.take (i + 1)) = max (sdepth (l.take i)) x.depth := by rw [take_get h, sdepth_append]; simp [sdepth]
theorem stdeep_take {l : List St} {i : Nat} {x : St} (h : l[i]? = some x) : stdeep (l.take (i + 1)) = (stdeep (l.take i) || x.tdeep) := by rw [take_get h, stdeep_append]; simp [stdeep]
theorem split_get {α : Type} {l : List α} {i : Nat} {x : α} (h : l[i]? = some x) : l = l.take i ++ x :: l.drop (i + 1) := by
 obtain ⟨h1, h2⟩ := List.getElem?_eq_some_iff.1 h
 rw [← h2, List.getElem_cons_drop, List.take_append_drop]
theorem sbulk_mem {l : List St} {x : St} (h : x ∈ l) : x.bulk ≤ sbulk l := by
 obtain ⟨i, hi⟩ := List.mem_iff_getElem?.1 h
 rw [split_get hi, sbulk_append]; simp [sbulk]; omega
theorem tnodes_split {l : List Tm} {i : Nat} {x : Tm} (h : l[i]? = some x) : tnodes l = tnodes (l.take i) + x.nodes + tnodes (l.drop (i + 1)) := by
 conv => lhs; rw [split_get h]
 rw [tnodes_append]; simp [tnodes, Nat.add_assoc]
theorem snodes_split {l : List St} {i : Nat} {x : St} (h : l[i]? = some x) : snodes l = snodes (l.take i) + x.nodes + snodes (l.drop (i + 1)) := by
 conv => lhs; rw [split_get h]
 rw [snodes_append]; simp [snodes, Nat.add_assoc]
theorem sbulk_split {l : List St} {i : Nat} {x : St} (h : l[i]? = some x) : sbulk l = sbulk (l.take i) + x.bulk + sbulk (l.drop (i + 1)) := by
 conv => lhs; rw [split_get h]
 rw [sbulk_append]; simp [sbulk, Nat.add_assoc]
theorem ssize_split {l : List St} {i : Nat} {x : St} (h : l[i]? = some x) : ssize l = ssize (l.take i) + x.size + ssize (l.drop (i + 1)) := by
 conv => lhs; rw [split_get h]
 rw [ssize_append]; simp [ssize, Nat.add_assoc]
theorem tlen_le (l : List Tm) : l.length ≤ tnodes l := by
 induction l with
 | nil => simp
 | cons x r ih => have := x.nodes_eq; simp [tnodes]; omega
theorem slen_le (l : List St) : l.length ≤ snodes l := by
 induction l with
 | nil => simp
 | cons x r ih => have := x.nodes_eq; simp [snodes]; omega
theorem sbulk_snodes : ∀ l : List St, snodes l ≤ sbulk l := by
 intro l
 induction l using Sts.ind with
 | h l ih =>
  have key : ∀ r : List St, (∀ s ∈ r, snodes s.thn ≤ sbulk s.thn ∧ snodes s.els ≤ sbulk s.els) → snodes r ≤ sbulk r := by
   intro r
   induction r with
   | nil => intro _; simp [snodes]
   | cons x r ih2 =>
    intro h
    have h1 := h x (List.mem_cons_self ..)
    have h2 := ih2 (fun s hs => h s (List.mem_cons_of_mem _ hs))
    have h3 := x.nodes_eq
    have h4 := x.bulk_eq
    simp only [snodes, sbulk]; omega
  exact key l ih
theorem ssize_snodes : ∀ l : List St, ssize l ≤ snodes l := by
 intro l
 induction l using Sts.ind with
 | h l ih =>
  have key : ∀ r : List St, (∀ s ∈ r, ssize s.thn ≤ snodes s.thn ∧ ssize s.els ≤ snodes s.els) → ssize r ≤ snodes r := by
   intro r
   induction r with
   | nil => intro _; simp [ssize]
   | cons x r ih2 =>
    intro h
    have h1 := h x (List.mem_cons_self ..)
    have h2 := ih2 (fun s hs => h s (List.mem_cons_of_mem _ hs))
    have h3 := x.nodes_eq
    have h4 := x.size_eq
    simp only [snodes, ssize]; omega
  exact key l ih
theorem slen_ssize (l : List St) : l.length ≤ ssize l := by
 induction l with
 | nil => simp
 | cons x r ih => have := x.size_eq; simp [ssize]; omega
theorem tdepth_nodes : ∀ l : List Tm, tdepth l ≤ tnodes l := by
 have key : ∀ l : List Tm, (∀ k ∈ l, k.depth ≤ k.nodes) → tdepth l ≤ tnodes l := by
  intro l
  induction l with
  | nil => intro _; simp [tdepth]
  | cons x r ih =>
   intro h
   have h1 := h x (List.mem_cons_self ..)
   have h2 := ih (fun k hk => h k (List.mem_cons_of_mem _ hk))
   simp only [tdepth, tnodes]; omega
 have all : ∀ t : Tm, t.depth ≤ t.nodes := by
  intro t
  induction t using Tm.ind with
  | h t ih =>
   have := key t.kids ih
   rw [t.depth_eq, t.nodes_eq]; omega
 exact fun l => key l (fun k _ => all k)
theorem sdepth_nodes : ∀ l : List St, sdepth l ≤ snodes l := by
 intro l
 induction l using Sts.ind with
 | h l ih =>
  have key : ∀ r : List St, (∀ s ∈ r, sdepth s.thn ≤ snodes s.thn ∧ sdepth s.els ≤ snodes s.els) → sdepth r ≤ snodes r := by
   intro r
   induction r with
   | nil => intro _; simp [sdepth]
   | cons x r ih2 =>
    intro h
    have h1 := h x (List.mem_cons_self ..)
    have h2 := ih2 (fun s hs => h s (List.mem_cons_of_mem _ hs))
    have h3 := x.nodes_eq
    have h4 := x.depth_eq
    simp only [snodes, sdepth]; omega
  exact key l ih
def hnodes : List Ht → Nat
 | [] => 0
 | h :: r => h.term.nodes + hnodes r
theorem hnodes_append (a b : List Ht) : hnodes (a ++ b) = hnodes a + hnodes b := by
 induction a with
 | nil => simp [hnodes]
 | cons x r ih => simp [hnodes, ih, Nat.add_assoc]
theorem hnodes_take {l : List Ht} {i : Nat} {x : Ht} (h : l[i]? = some x) : hnodes (l.take (i + 1)) = hnodes (l.take i) + x.term.nodes := by rw [take_get h, hnodes_append]; simp [hnodes]
theorem hnodes_split {l : List Ht} {i : Nat} {x : Ht} (h : l[i]? = some x) : hnodes l = hnodes (l.take i) + x.term.nodes + hnodes (l.drop (i + 1)) := by
 conv => lhs; rw [split_get h]
 rw [hnodes_append]; simp [hnodes, Nat.add_assoc]
def few (f : Fl) (vars nodes : Nat) : Bool := decide (f.vars.length ≤ vars ∧ f.hatches.length ≤ vars ∧ sbulk f.body + hnodes f.hatches ≤ nodes)
end Go.GL
namespace Go.Proofs.YtldhllpogdikdaaGreat
open Go.GL
theorem refTermNodes_ok (t : Tm) : ∀ (cs : List Value) (D : Nat → Prop) (w : World), RTm D w t cs → t.nodes ≤ 1000000 → Calls Tryz.prog 109 #[.agg cs.toArray] w (Ret fun r w' => r = .int .i64 t.nodes ∧ Ext w w') := by
 induction t using Tm.ind with
 | h t ih =>
 intro cs D w ht hsz
 have hlen := tlen_le t.kids
 have hse := t.nodes_eq
 obtain ⟨v, rfl, hk⟩ := ht.get
 obtain ⟨ao, cap, rfl⟩ := hk.form
 have hE := Keep.refl (fun _ => False) w
 refine G.in1 Tryz.func109 rfl Tryz.ntmps109 rfl (Gs 2 rfl (G.mem rfl rfl (M.box rfl rfl) ?_))
 rintro _ w_b ⟨b, rfl, hg_b, hs_b, hB_b, hk_b⟩
 have hge_b : _ ≤ b := Nat.le_trans hE.size (Nat.le_of_eq hg_b.symm)
 obtain ⟨hE, hk⟩ := Tr2 hk_b hE hk
 refine Gs 15 rfl (G.loop (σ := Nat) (fun i => [(1, .pointer (some ⟨b, 0, none⟩)), (3, .int .i64 (1 + tnodes (t.kids.take i) : Nat)), (4, .int .i64 i)]) (fun i => fun w' => i ≤ t.kids.length ∧ Ext w_b w') (fun i => t.kids.length - i) (0) (Sub.of rfl) (⟨Nat.zero_le _, Keep.refl _ _⟩) ?_)
 rintro i w1 ⟨hi, hL1⟩
 obtain ⟨hE, hk, hB_b⟩ := Tr3 hL1 hE hk hB_b
 refine Gs 5 rfl (G.ld rfl Tryz.isAgg82 (hB_b.cells 2 _ rfl) (Gs 4 rfl (G.ite rfl (fun hlt => ?_) (fun hge => ?_))))
 ·
  obtain ⟨k, he_k⟩ : ∃ x, t.kids[i]? = some x := ⟨_, List.getElem?_eq_getElem (by omega)⟩
  have hm_k := List.mem_of_getElem? he_k
  obtain ⟨b_k, o_k, c_k, ha_k, _, hc_k, hR_k⟩ := hk.at he_k
  have h1_k := RTm.one hR_k
  obtain ⟨v1_k, rfl, hk_k⟩ := hR_k.get
  obtain ⟨a1_k, n1_k, rfl⟩ := hk_k.form
  have hlt_k : b_k < _ := World.block_lt_of_cell? _ _ (hc_k 0 _ rfl)
  have hsp := tnodes_split he_k
  refine Gs 7 rfl (G.ld rfl Tryz.isAgg82 (hB_b.cells 2 _ rfl) (Gs 1 rfl (G.ops1 rfl rfl (R.indexS Tryz.runUnderlying82 Tryz.sizeOf84 rfl rfl ha_k (by omega)) (G.ldK rfl Tryz.isAgg84 Tryz.sizeOf84 hc_k rfl (G.call rfl Tryz.call109 (ih k hm_k _ D _ (RTm.put hk_k) (by omega)) ?_)))))
  rintro _ wz1 ⟨rfl, hz1⟩
  obtain ⟨hE, hk, hB_b, hL1, hc_k, hk_k⟩ := Tr6 hz1 hE hk hB_b hL1 hc_k hk_k
  refine Ga 10 rfl (by omega) (G.back (i + 1) (Sub.cons rfl (Sub.cons (slotI rfl (by rw [tnodes_take he_k]; omega)) (Sub.of rfl))) (⟨by omega, hL1⟩) (by first | omega | (dsimp only; omega)))
 ·
  have : i = t.kids.length := by omega
  subst this
  refine Gs 12 rfl (G.ret1 Tryz.results109 rfl ⟨_, rfl, by rw [List.take_length, t.nodes_eq], hE⟩)
theorem refTermDepth_ok (t : Tm) : ∀ (cs : List Value) (D : Nat → Prop) (w : World), RTm D w t cs → t.nodes ≤ 1000000 → Calls Tryz.prog 110 #[.agg cs.toArray] w (Ret fun r w' => r = .int .i64 t.depth ∧ Ext w w') := by
 induction t using Tm.ind with
 | h t ih =>
 intro cs D w ht hsz
 have hlen := tlen_le t.kids
 have hse := t.nodes_eq
 obtain ⟨v, rfl, hk⟩ := ht.get
 obtain ⟨ao, cap, rfl⟩ := hk.form
 have hE := Keep.refl (fun _ => False) w
 refine G.in1 Tryz.func110 rfl Tryz.ntmps110 rfl (Gs 2 rfl (G.mem rfl rfl (M.box rfl rfl) ?_))
 rintro _ w_b ⟨b, rfl, hg_b, hs_b, hB_b, hk_b⟩
 have hge_b : _ ≤ b := Nat.le_trans hE.size (Nat.le_of_eq hg_b.symm)
 obtain ⟨hE, hk⟩ := Tr2 hk_b hE hk
 refine Gs 15 rfl (G.loop (σ := Nat) (fun i => [(1, .pointer (some ⟨b, 0, none⟩)), (3, .int .i64 (tdepth (t.kids.take i) : Nat)), (4, .int .i64 i)]) (fun i => fun w' => i ≤ t.kids.length ∧ Ext w_b w') (fun i => t.kids.length - i) (0) (Sub.of rfl) (⟨Nat.zero_le _, Keep.refl _ _⟩) ?_)
 rintro i w1 ⟨hi, hL1⟩
 obtain ⟨hE, hk, hB_b⟩ := Tr3 hL1 hE hk hB_b
 refine Gs 5 rfl (G.ld rfl Tryz.isAgg82 (hB_b.cells 2 _ rfl) (Gs 4 rfl (G.ite rfl (fun hlt => ?_) (fun hge => ?_))))
 ·
  obtain ⟨k, he_k⟩ : ∃ x, t.kids[i]? = some x := ⟨_, List.getElem?_eq_getElem (by omega)⟩
  have hm_k := List.mem_of_getElem? he_k
  obtain ⟨b_k, o_k, c_k, ha_k, _, hc_k, hR_k⟩ := hk.at he_k
  have h1_k := RTm.one hR_k
  obtain ⟨v1_k, rfl, hk_k⟩ := hR_k.get
  obtain ⟨a1_k, n1_k, rfl⟩ := hk_k.form
  have hlt_k : b_k < _ := World.block_lt_of_cell? _ _ (hc_k 0 _ rfl)
  have hsp := tnodes_split he_k
  have htk := tdepth_take he_k
  refine Gs 7 rfl (G.ld rfl Tryz.isAgg82 (hB_b.cells 2 _ rfl) (Gs 1 rfl (G.ops1 rfl rfl (R.indexS Tryz.runUnderlying82 Tryz.sizeOf84 rfl rfl ha_k (by omega)) (G.ldK rfl Tryz.isAgg84 Tryz.sizeOf84 hc_k rfl (G.call rfl Tryz.call110 (ih k hm_k _ D _ (RTm.put hk_k) (by omega)) ?_)))))
  rintro _ wz1 ⟨rfl, hz1⟩
  obtain ⟨hE, hk, hB_b, hL1, hc_k, hk_k⟩ := Tr6 hz1 hE hk hB_b hL1 hc_k hk_k
  refine Gs 10 rfl (G.ite rfl (fun hgt => ?_) (fun hle => ?_))
  · refine Ga 11 rfl (by omega) (G.back (i + 1) (Sub.cons rfl (Sub.cons (slotI rfl (by rw [htk]; omega)) (Sub.of rfl))) (⟨by omega, hL1⟩) (by first | omega | (dsimp only; omega)))
  · refine Ga 8 rfl (by omega) (G.back (i + 1) (Sub.cons rfl (Sub.cons (slotI rfl (by rw [htk]; omega)) (Sub.of rfl))) (⟨by omega, hL1⟩) (by first | omega | (dsimp only; omega)))
 ·
  have : i = t.kids.length := by omega
  subst this
  have hdp := tdepth_nodes t.kids
  rw [List.take_length]
  refine Ga 13 rfl (by omega) (G.ret1 Tryz.results110 rfl ⟨_, rfl, by rw [t.depth_eq]; rfl, hE⟩)
theorem refNodes_ok (l : List St) : ∀ (v : Value) (D : Nat → Prop) (w : World), SlR 10 RSt D w v l → snodes l ≤ 1000000 → Calls Tryz.prog 108 #[v] w (Ret fun r w' => r = .int .i64 (snodes l) ∧ Ext w w') := by
 induction l using Sts.ind with
 | h l ih =>
 intro v D w hl hsz
 have hlen := slen_le l
 obtain ⟨ao, cap, rfl⟩ := hl.form
 refine G.in1 Tryz.func108 rfl Tryz.ntmps108 rfl (Gs 17 rfl (G.loop (σ := Nat) (fun i => [(0, .slice ao l.length cap), (3, .int .i64 (snodes (l.take i))), (4, .int .i64 i)]) (fun i => fun w' => i ≤ l.length ∧ Ext w w') (fun i => l.length - i) (0) (Sub.of rfl) (⟨Nat.zero_le _, Keep.refl _ _⟩) ?_))
 rintro i w1 ⟨hi, hL1⟩
 replace hl := Tr1 hL1 hl
 refine Gs 9 rfl (G.ite rfl (fun hlt => ?_) (fun hge => ?_))
 ·
  obtain ⟨s, he_s⟩ : ∃ x, l[i]? = some x := ⟨_, List.getElem?_eq_getElem (by omega)⟩
  have hm_s := List.mem_of_getElem? he_s
  obtain ⟨b_s, o_s, c_s, ha_s, _, hc_s, hR_s⟩ := hl.at he_s
  have h1_s := RSt.one hR_s
  obtain ⟨v1_s, v2_s, v3_s, v4_s, rfl, hk_s, ht_s, hs_s, hb_s⟩ := hR_s.get
  obtain ⟨a1_s, n1_s, rfl⟩ := hk_s.form
  obtain ⟨a2_s, n2_s, rfl⟩ := ht_s.form
  obtain ⟨a3_s, n3_s, rfl⟩ := hs_s.form
  obtain ⟨a4_s, n4_s, rfl⟩ := hb_s.form
  have hlt_s : b_s < _ := World.block_lt_of_cell? _ _ (hc_s 0 _ rfl)
  have hsp := snodes_split he_s
  have hse := s.nodes_eq
  refine Gs 4 rfl (Dw (fun q => Ext w1 q) [] (fun wd1 hD _ => ?_))
  refine Da [0, 1, 2, 3] (by kernel_rfl) rfl (by omega) (WD.takeW 4 rfl (by kernel_rfl) rfl rfl rfl (fun w1 => R.indexS Tryz.runUnderlying24 Tryz.sizeOf86 rfl rfl ha_s (by omega)) (Ds [5] (by kernel_rfl) rfl (WD.take 6 rfl (by kernel_rfl) rfl rfl rfl hD (fun w1 hw1 => R.loadK Tryz.isAgg84 Tryz.sizeOf84 rfl (by rfl) ((hw1.cells hc_s (fun h => h)).sub 4 3)) (Ds [9, 10] (by kernel_rfl) rfl (WD.takeW 11 rfl (by kernel_rfl) rfl rfl rfl (fun w1 => R.indexS Tryz.runUnderlying24 Tryz.sizeOf86 rfl rfl ha_s (by omega)) (Ds [12] (by kernel_rfl) rfl (WD.take 13 rfl (by kernel_rfl) rfl rfl rfl hD (fun w1 hw1 => R.load Tryz.isAgg24 rfl (hw1.cells hc_s (fun h => h) 7 _ rfl)) ?_)))))))
  refine Ds [16, 17] (by kernel_rfl) rfl (WD.takeW 18 rfl (by kernel_rfl) rfl rfl rfl (fun w1 => R.indexS Tryz.runUnderlying24 Tryz.sizeOf86 rfl rfl ha_s (by omega)) (Ds [19] (by kernel_rfl) rfl (WD.take 20 rfl (by kernel_rfl) rfl rfl rfl hD (fun w1 hw1 => R.load Tryz.isAgg24 rfl (hw1.cells hc_s (fun h => h) 8 _ rfl)) (WD.call 7 rfl (by kernel_rfl) rfl rfl rfl (F.call (vs := [_]) Tryz.call109 rfl) (refTermNodes_ok s.term _ D _ (RTm.put (hk_s.ext stable_tm hD)) (by omega)) ?_))))
  rintro _ wz2 ⟨rfl, hz2⟩
  replace hD := hD.ext hz2
  refine ⟨fun _ => hD, ?_⟩
  refine Da [8] (by kernel_rfl) rfl (by omega) (WD.call 14 rfl (by kernel_rfl) rfl rfl rfl (F.call (vs := [_]) Tryz.call108 rfl) ((ih s hm_s).1 _ D _ (ht_s.ext stable_st hD) (by omega)) ?_)
  rintro _ wz3 ⟨rfl, hz3⟩
  replace hD := hD.ext hz3
  refine ⟨fun _ => hD, ?_⟩
  refine Da [15] (by kernel_rfl) rfl (by omega) (WD.call 21 rfl (by kernel_rfl) rfl rfl rfl (F.call (vs := [_]) Tryz.call108 rfl) ((ih s hm_s).2 _ D _ (hs_s.ext stable_st hD) (by omega)) ?_)
  rintro _ wz4 ⟨rfl, hz4⟩
  replace hD := hD.ext hz4
  refine ⟨fun _ => hD, ?_⟩
  refine Da [22, 23] (by kernel_rfl) rfl (by omega) (G.done (by kernel_rfl) ?_ _)
  obtain ⟨hl, hL1, hc_s, hk_s, ht_s, hs_s, hb_s⟩ := Tr7 hD hl hL1 hc_s hk_s ht_s hs_s hb_s
  refine Ga 7 rfl (by omega) (G.back (i + 1) (Sub.cons rfl (Sub.cons (slotI rfl (by rw [snodes_take he_s]; omega)) (Sub.of rfl))) (⟨by omega, hL1⟩) (by first | omega | (dsimp only; omega)))
 ·
  have : i = l.length := by omega
  subst this
  refine Gs 12 rfl (G.ret1 Tryz.results108 rfl ⟨_, rfl, by rw [List.take_length], hL1⟩)
theorem refStepDepth_ok (l : List St) : ∀ (v : Value) (D : Nat → Prop) (w : World), SlR 10 RSt D w v l → snodes l ≤ 1000000 → Calls Tryz.prog 111 #[v] w (Ret fun r w' => r = .int .i64 (sdepth l) ∧ Ext w w') := by
 induction l using Sts.ind with
 | h l ih =>
 intro v D w hl hsz
 have hlen := slen_le l
 obtain ⟨ao, cap, rfl⟩ := hl.form
 refine G.in1 Tryz.func111 rfl Tryz.ntmps111 rfl (Gs 17 rfl (G.loop (σ := Nat) (fun i => [(0, .slice ao l.length cap), (3, .int .i64 (sdepth (l.take i))), (4, .int .i64 i)]) (fun i => fun w' => i ≤ l.length ∧ Ext w w') (fun i => l.length - i) (0) (Sub.of rfl) (⟨Nat.zero_le _, Keep.refl _ _⟩) ?_))
 rintro i w1 ⟨hi, hL1⟩
 replace hl := Tr1 hL1 hl
 refine Gs 9 rfl (G.ite rfl (fun hlt => ?_) (fun hge => ?_))
 ·
  obtain ⟨s, he_s⟩ : ∃ x, l[i]? = some x := ⟨_, List.getElem?_eq_getElem (by omega)⟩
  have hm_s := List.mem_of_getElem? he_s
  obtain ⟨b_s, o_s, c_s, ha_s, _, hc_s, hR_s⟩ := hl.at he_s
  have h1_s := RSt.one hR_s
  obtain ⟨v1_s, v2_s, v3_s, v4_s, rfl, hk_s, ht_s, hs_s, hb_s⟩ := hR_s.get
  obtain ⟨a1_s, n1_s, rfl⟩ := hk_s.form
  obtain ⟨a2_s, n2_s, rfl⟩ := ht_s.form
  obtain ⟨a3_s, n3_s, rfl⟩ := hs_s.form
  obtain ⟨a4_s, n4_s, rfl⟩ := hb_s.form
  have hlt_s : b_s < _ := World.block_lt_of_cell? _ _ (hc_s 0 _ rfl)
  have hsp := snodes_split he_s
  have hse := s.nodes_eq
  have htk := sdepth_take he_s
  have hde := s.depth_eq
  have hd1 := sdepth_nodes s.thn
  have hd2 := sdepth_nodes s.els
  refine Gs 8 rfl (G.ops1 rfl rfl (R.indexS Tryz.runUnderlying24 Tryz.sizeOf86 rfl rfl ha_s (by omega)) (Gs 1 rfl (G.ld rfl Tryz.isAgg24 (hc_s 7 _ rfl) (G.call rfl Tryz.call111 ((ih s hm_s).1 _ D _ ht_s (by omega)) ?_))))
  rintro _ wz1 ⟨rfl, hz1⟩
  obtain ⟨hl, hL1, hc_s, hk_s, ht_s, hs_s, hb_s⟩ := Tr7 hz1 hl hL1 hc_s hk_s ht_s hs_s hb_s
  refine Ga 8 rfl (by omega) (G.ops1 rfl rfl (R.indexS Tryz.runUnderlying24 Tryz.sizeOf86 rfl rfl ha_s (by omega)) (Gs 1 rfl (G.ld rfl Tryz.isAgg24 (hc_s 8 _ rfl) (G.call rfl Tryz.call111 ((ih s hm_s).2 _ D _ hs_s (by omega)) ?_))))
  rintro _ wz2 ⟨rfl, hz2⟩
  obtain ⟨hl, hL1, hc_s, hk_s, ht_s, hs_s, hb_s⟩ := Tr7 hz2 hl hL1 hc_s hk_s ht_s hs_s hb_s
  refine Ga 12 rfl (by omega) (G.ite rfl (fun h1 => ?_) (fun h1 => ?_))
  ·
   refine Gs 12 rfl (G.ite rfl (fun h2 => ?_) (fun h2 => ?_))
   · refine Ga 11 rfl (by omega) (G.back (i + 1) (Sub.cons rfl (Sub.cons (slotI rfl (by rw [htk]; omega)) (Sub.of rfl))) (⟨by omega, hL1⟩) (by first | omega | (dsimp only; omega)))
   · refine Ga 8 rfl (by omega) (G.back (i + 1) (Sub.cons rfl (Sub.cons (slotI rfl (by rw [htk]; omega)) (Sub.of rfl))) (⟨by omega, hL1⟩) (by first | omega | (dsimp only; omega)))
  ·
   refine Gs 9 rfl (G.ite rfl (fun h2 => ?_) (fun h2 => ?_))
   · refine Ga 11 rfl (by omega) (G.back (i + 1) (Sub.cons rfl (Sub.cons (slotI rfl (by rw [htk]; omega)) (Sub.of rfl))) (⟨by omega, hL1⟩) (by first | omega | (dsimp only; omega)))
   · refine Ga 8 rfl (by omega) (G.back (i + 1) (Sub.cons rfl (Sub.cons (slotI rfl (by rw [htk]; omega)) (Sub.of rfl))) (⟨by omega, hL1⟩) (by first | omega | (dsimp only; omega)))
 ·
  have : i = l.length := by omega
  subst this
  refine Gs 12 rfl (G.ret1 Tryz.results111 rfl ⟨_, rfl, by rw [List.take_length], hL1⟩)
theorem refTermsDeep_ok (l : List St) : ∀ (v : Value) (D : Nat → Prop) (w : World), SlR 10 RSt D w v l → snodes l ≤ 1000000 → Calls Tryz.prog 112 #[v] w (Ret fun r w' => r = .bool (stdeep l) ∧ Ext w w') := by
 induction l using Sts.ind with
 | h l ih =>
 intro v D w hl hsz
 have hlen := slen_le l
 obtain ⟨ao, cap, rfl⟩ := hl.form
 refine G.in1 Tryz.func112 rfl Tryz.ntmps112 rfl (Gs 12 rfl (G.loop (σ := Nat) (fun i => [(0, .slice ao l.length cap), (3, .int .i64 i)]) (fun i => fun w' => i ≤ l.length ∧ stdeep (l.take i) = false ∧ Ext w w') (fun i => l.length - i) (0) (Sub.of rfl) (⟨Nat.zero_le _, rfl, Keep.refl _ _⟩) ?_))
 rintro i w1 ⟨hi, hno, hL1⟩
 replace hl := Tr1 hL1 hl
 refine Gs 9 rfl (G.ite rfl (fun hlt => ?_) (fun hge => ?_))
 ·
  obtain ⟨s, he_s⟩ : ∃ x, l[i]? = some x := ⟨_, List.getElem?_eq_getElem (by omega)⟩
  have hm_s := List.mem_of_getElem? he_s
  obtain ⟨b_s, o_s, c_s, ha_s, _, hc_s, hR_s⟩ := hl.at he_s
  have h1_s := RSt.one hR_s
  obtain ⟨v1_s, v2_s, v3_s, v4_s, rfl, hk_s, ht_s, hs_s, hb_s⟩ := hR_s.get
  obtain ⟨a1_s, n1_s, rfl⟩ := hk_s.form
  obtain ⟨a2_s, n2_s, rfl⟩ := ht_s.form
  obtain ⟨a3_s, n3_s, rfl⟩ := hs_s.form
  obtain ⟨a4_s, n4_s, rfl⟩ := hb_s.form
  have hlt_s : b_s < _ := World.block_lt_of_cell? _ _ (hc_s 0 _ rfl)
  have hsp := snodes_split he_s
  have hse := s.nodes_eq
  have htk := stdeep_take he_s
  rw [hno, Bool.false_or, s.tdeep_eq] at htk
  have hyes : (decide (12 < s.term.depth) || stdeep s.thn || stdeep s.els) = true → stdeep l = true := by
   intro h
   rw [split_get he_s, stdeep_append]
   simp only [stdeep, s.tdeep_eq, h, Bool.true_or, Bool.or_true]
  refine Gs 8 rfl (G.ops1 rfl rfl (R.indexS Tryz.runUnderlying24 Tryz.sizeOf86 rfl rfl ha_s (by omega)) (Gs 1 rfl (G.ldK rfl Tryz.isAgg84 Tryz.sizeOf84 (hc_s.sub 4 3) rfl (G.call rfl Tryz.call110 (refTermDepth_ok s.term _ D _ (RTm.put hk_s) (by omega)) ?_))))
  rintro _ wz1 ⟨rfl, hz1⟩
  obtain ⟨hl, hL1, hc_s, hk_s, ht_s, hs_s, hb_s⟩ := Tr7 hz1 hl hL1 hc_s hk_s ht_s hs_s hb_s
  refine Gs 2 rfl (G.sp 17 rfl (fun h1 => ?_) (fun h1 => ?_))
  ·
   have h1' : decide (12 < s.term.depth) = true := decide_eq_true (by omega)
   refine Gs 29 rfl (G.ret1 Tryz.results112 rfl ⟨_, rfl, by rw [hyes (by rw [h1']; rfl)], hL1⟩)
  ·
   have h1' : decide (12 < s.term.depth) = false := decide_eq_false (by omega)
   refine Gs 2 rfl (G.ops1 rfl rfl (R.indexS Tryz.runUnderlying24 Tryz.sizeOf86 rfl rfl ha_s (by omega)) (Gs 1 rfl (G.ld rfl Tryz.isAgg24 (hc_s 7 _ rfl) (G.call rfl Tryz.call112 ((ih s hm_s).1 _ D _ ht_s (by omega)) ?_))))
   rintro _ wz2 ⟨rfl, hz2⟩
   obtain ⟨hl, hL1, hc_s, hk_s, ht_s, hs_s, hb_s⟩ := Tr7 hz2 hl hL1 hc_s hk_s ht_s hs_s hb_s
   refine Gs 2 rfl (G.sb 25 rfl (fun h2 => ?_) (fun h2 => ?_))
   · refine Gs 21 rfl (G.ret1 Tryz.results112 rfl ⟨_, rfl, by rw [hyes (by rw [h2]; simp)], hL1⟩)
   ·
    refine Gs 2 rfl (G.ops1 rfl rfl (R.indexS Tryz.runUnderlying24 Tryz.sizeOf86 rfl rfl ha_s (by omega)) (Gs 1 rfl (G.ld rfl Tryz.isAgg24 (hc_s 8 _ rfl) (G.call rfl Tryz.call112 ((ih s hm_s).2 _ D _ hs_s (by omega)) ?_))))
    rintro _ wz3 ⟨rfl, hz3⟩
    obtain ⟨hl, hL1, hc_s, hk_s, ht_s, hs_s, hb_s⟩ := Tr7 hz3 hl hL1 hc_s hk_s ht_s hs_s hb_s
    refine Gs 3 rfl (G.bool rfl (fun h3 => ?_) (fun h3 => ?_))
    · refine Gs 11 rfl (G.ret1 Tryz.results112 rfl ⟨_, rfl, by rw [hyes (by rw [h3]; simp)], hL1⟩)
    · refine Ga 8 rfl (by omega) (G.back (i + 1) (Sub.of rfl) (⟨by omega, by rw [htk, h1', h2, h3]; rfl, hL1⟩) (by first | omega | (dsimp only; omega)))
 ·
  have : i = l.length := by omega
  subst this
  rw [List.take_length] at hno
  refine Gs 11 rfl (G.ret1 Tryz.results112 rfl ⟨_, rfl, by rw [hno], hL1⟩)
theorem flatSize_ok (l : List St) : ∀ (v : Value) (D : Nat → Prop) (w : World), SlR 10 RSt D w v l → ssize l ≤ 1000000 → Calls Tryz.prog 119 #[v] w (Ret fun r w' => r = .int .i64 (ssize l) ∧ Ext w w') := by
 induction l using Sts.ind with
 | h l ih =>
 intro v D w hl hsz
 have hlen := slen_ssize l
 obtain ⟨ao, cap, rfl⟩ := hl.form
 refine G.in1 Tryz.func119 rfl Tryz.ntmps119 rfl (Gs 21 rfl (G.loop (σ := Nat) (fun i => [(3, .int .i64 ((l.length : Int) + ssize (l.take i) - i)), (8, .slice ao l.length cap), (9, .int .i64 l.length), (10, .int .i64 i)]) (fun i => fun w' => i ≤ l.length ∧ Ext w w') (fun i => l.length - i) (0) (Sub.of rfl) (⟨Nat.zero_le _, Keep.refl _ _⟩) ?_))
 rintro i w1 ⟨hi, hL1⟩
 replace hl := Tr1 hL1 hl
 refine Gs 6 rfl (G.ite rfl (fun hlt => ?_) (fun hge => ?_))
 ·
  obtain ⟨s, he_s⟩ : ∃ x, l[i]? = some x := ⟨_, List.getElem?_eq_getElem (by omega)⟩
  have hm_s := List.mem_of_getElem? he_s
  obtain ⟨b_s, o_s, c_s, ha_s, _, hc_s, hR_s⟩ := hl.at he_s
  have h1_s := RSt.one hR_s
  obtain ⟨v1_s, v2_s, v3_s, v4_s, rfl, hk_s, ht_s, hs_s, hb_s⟩ := hR_s.get
  obtain ⟨a1_s, n1_s, rfl⟩ := hk_s.form
  obtain ⟨a2_s, n2_s, rfl⟩ := ht_s.form
  obtain ⟨a3_s, n3_s, rfl⟩ := hs_s.form
  obtain ⟨a4_s, n4_s, rfl⟩ := hb_s.form
  have hlt_s : b_s < _ := World.block_lt_of_cell? _ _ (hc_s 0 _ rfl)
  have hsp := ssize_split he_s
  have hse := s.size_eq
  have hE := Keep.refl (fun _ => False) w1
  refine Gs 6 rfl (G.ops1 rfl rfl (R.indexS Tryz.runUnderlying24 Tryz.sizeOf86 rfl rfl ha_s (by omega)) (G.ldK rfl Tryz.isAgg86 Tryz.sizeOf86 hc_s rfl (G.mem rfl rfl (M.alloc (cs := _) Tryz.zeroValue86 rfl) ?_)))
  rintro _ wa1 ⟨b, rfl, hg_b, hs_b, hB_b, hk_b⟩
  refine G.mem0 rfl (M.storeK Tryz.sizeOf86 rfl rfl rfl rfl h1_s hB_b (by simp)) ?_
  rintro w_b ⟨_, hB_b, hkk_b⟩
  replace hk_b := hk_b.trans hkk_b (fun q hq h => by have h : q = b := h; omega)
  have hge_b : _ ≤ b := Nat.le_trans hE.size (Nat.le_of_eq hg_b.symm)
  obtain ⟨hl, hL1, hc_s, hk_s, ht_s, hs_s, hb_s⟩ := Tr7 hk_b hl hL1 hc_s hk_s ht_s hs_s hb_s
  replace hE := Tr1 hk_b hE
  refine Gs 2 rfl (Dw (fun q => Ext w_b q) [] (fun wd2 hD _ => ?_))
  refine Ds [0, 1] (by kernel_rfl) rfl (WD.take 2 rfl (by kernel_rfl) rfl rfl rfl hD (fun w1 hw1 => R.load Tryz.isAgg24 rfl ((hw1.blk hB_b (fun h => h)).cells 7 _ rfl)) (Ds [4] (by kernel_rfl) rfl (WD.take 5 rfl (by kernel_rfl) rfl rfl rfl hD (fun w1 hw1 => R.load Tryz.isAgg24 rfl ((hw1.blk hB_b (fun h => h)).cells 8 _ rfl)) (WD.call 3 rfl (by kernel_rfl) rfl rfl rfl (F.call (vs := [_]) Tryz.call119 rfl) ((ih s hm_s).1 _ D _ (ht_s.ext stable_st hD) (by omega)) ?_))))
  rintro _ wz3 ⟨rfl, hz3⟩
  replace hD := hD.ext hz3
  refine ⟨fun _ => hD, ?_⟩
  refine WD.call 6 rfl (by kernel_rfl) rfl rfl rfl (F.call (vs := [_]) Tryz.call119 rfl) ((ih s hm_s).2 _ D _ (hs_s.ext stable_st hD) (by omega)) ?_
  rintro _ wz4 ⟨rfl, hz4⟩
  replace hD := hD.ext hz4
  refine ⟨fun _ => hD, ?_⟩
  refine Da [7, 8, 9] (by kernel_rfl) rfl (by omega) (G.done (by kernel_rfl) ?_ _)
  obtain ⟨hl, hL1, hc_s, hk_s, ht_s, hs_s, hb_s⟩ := Tr7 hD hl hL1 hc_s hk_s ht_s hs_s hb_s
  obtain ⟨hE, hB_b⟩ := Tr2 hD hE hB_b
  refine Ga 6 rfl (by omega) (G.back (i + 1) (Sub.cons (slotI rfl (by rw [ssize_take he_s]; omega)) (Sub.of rfl)) (⟨by omega, hL1⟩) (by first | omega | (dsimp only; omega)))
 ·
  have : i = l.length := by omega
  subst this
  refine Gs 12 rfl (G.ret1 Tryz.results119 rfl ⟨_, rfl, by rw [List.take_length]; congr 1; omega, hL1⟩)
theorem flatSizeF_ok (f : Fl) (v1 v2 v3 : Value) (D : Nat → Prop) (w : World) (h : RFl D w f v1 v2 v3) (hsz : ssize f.body ≤ 1000000) : Calls Tryz.prog 70 #[.agg #[v1, v2, v3]] w (Ret fun r w' => r = .int .i64 (ssize f.body) ∧ Ext w w') := by
 have hE := Keep.refl (fun _ => False) w
 refine G.in1 Tryz.func70 rfl Tryz.ntmps70 rfl (Gs 2 rfl (G.mem rfl rfl (M.box rfl rfl) ?_))
 rintro _ w_b ⟨b, rfl, hg_b, hs_b, hB_b, hk_b⟩
 have hge_b : _ ≤ b := Nat.le_trans hE.size (Nat.le_of_eq hg_b.symm)
 obtain ⟨hE, h⟩ := Tr2 hk_b hE h
 refine Gs 6 rfl (G.ld rfl Tryz.isAgg24 (hB_b.cells 2 _ rfl) (G.call rfl Tryz.call119 (flatSize_ok f.body _ D _ h.body hsz) ?_))
 rintro _ wz1 ⟨rfl, hz1⟩
 obtain ⟨hE, h, hB_b⟩ := Tr3 hz1 hE h hB_b
 refine Gs 4 rfl (G.ret1 Tryz.results70 rfl ⟨_, rfl, rfl, hE⟩)
theorem refMost_ok (a b : Int) (w : World) : Calls Tryz.prog 117 #[.int .i64 a, .int .i64 b] w (Ret fun r w' => r = .int .i64 (max a b) ∧ Ext w w') := by
 refine G.in2 Tryz.func117 rfl Tryz.ntmps117 rfl (Gs 13 rfl (G.ite rfl (fun h => ?_) (fun h => ?_)))
 · refine Gs 8 rfl (G.ret1 Tryz.results117 rfl ⟨_, rfl, by rw [Int.max_eq_left (by omega)], Keep.refl _ _⟩)
 · refine Gs 9 rfl (G.ret1 Tryz.results117 rfl ⟨_, rfl, by rw [Int.max_eq_right (by omega)], Keep.refl _ _⟩)
theorem refLeast_ok (a b : Int) (w : World) : Calls Tryz.prog 118 #[.int .i64 a, .int .i64 b] w (Ret fun r w' => r = .int .i64 (min a b) ∧ Ext w w') := by
 refine G.in2 Tryz.func118 rfl Tryz.ntmps118 rfl (Gs 13 rfl (G.ite rfl (fun h => ?_) (fun h => ?_)))
 · refine Gs 8 rfl (G.ret1 Tryz.results118 rfl ⟨_, rfl, by rw [Int.min_eq_left (by omega)], Keep.refl _ _⟩)
 · refine Gs 9 rfl (G.ret1 Tryz.results118 rfl ⟨_, rfl, by rw [Int.min_eq_right (by omega)], Keep.refl _ _⟩)
def clampI (n low high : Int) : Int := if n < low then low else if high < n then high else n
theorem flatFlag_ok (p : Bool) (w : World) : Calls Tryz.prog 222 #[.bool p] w (Ret fun r w' => r = .int .i64 (if p then 1 else 0) ∧ Ext w w') := by
 refine G.in1 Tryz.func222 rfl Tryz.ntmps222 rfl (Gs 11 rfl (G.bool rfl (fun h => ?_) (fun h => ?_)))
 · refine Gs 7 rfl (G.ret1 Tryz.results222 rfl ⟨_, rfl, by rw [h]; rfl, Keep.refl _ _⟩)
 · refine Gs 8 rfl (G.ret1 Tryz.results222 rfl ⟨_, rfl, by rw [h]; rfl, Keep.refl _ _⟩)
theorem refSize1_ok (a : Int) (w : World) (ha : -4611686018427387904 ≤ a) : Calls Tryz.prog 205 #[.int .i64 a] w (Ret fun r w' => r = .int .i64 (if a < 0 then -a else a) ∧ Ext w w') := by
 refine G.in1 Tryz.func205 rfl Tryz.ntmps205 rfl (Gs 12 rfl (G.ite rfl (fun h => ?_) (fun h => ?_)))
 · refine Ga 9 rfl (by omega) (G.ret1 Tryz.results205 rfl ⟨_, rfl, by rw [if_pos h], Keep.refl _ _⟩)
 · refine Gs 9 rfl (G.ret1 Tryz.results205 rfl ⟨_, rfl, by rw [if_neg h], Keep.refl _ _⟩)
theorem flatClamp_ok (a b c : Int) (w : World) (hbc : b ≤ c) : Calls Tryz.prog 223 #[.int .i64 a, .int .i64 b, .int .i64 c] w (Ret fun r w' => r = .int .i64 (clampI a b c) ∧ Ext w w') := by
 refine G.in3 Tryz.func223 rfl Tryz.ntmps223 rfl (Gs 16 rfl (G.ret1 Tryz.results223 rfl ⟨_, rfl, ?_, Keep.refl _ _⟩))
 congr 1
 unfold clampI
 split
 · omega
 · split <;> omega
theorem termLeft_ok (t : Tm) : ∀ (cs : List Value) (D : Nat → Prop) (w : World) (left : Int), RTm D w t cs → -100000 ≤ left → left ≤ 1000000 → Calls Tryz.prog 58 #[.agg cs.toArray, .int .i64 left] w (Ret fun r w' => (∃ m : Int, r = .int .i64 m ∧ ((t.nodes : Int) ≤ left → m = left - t.nodes) ∧ (¬ (t.nodes : Int) ≤ left → m < 0 ∧ min left 0 - 1 ≤ m)) ∧ Ext w w') := by
 induction t using Tm.ind with
 | h t ih =>
 intro cs D w left ht h1 h2
 have hse := t.nodes_eq
 obtain ⟨v, rfl, hk⟩ := ht.get
 have hmx := hk.max
 obtain ⟨ao, cap, rfl⟩ := hk.form
 have hE := Keep.refl (fun _ => False) w
 refine G.in2 Tryz.func58 rfl Tryz.ntmps58 rfl (Gs 2 rfl (G.mem rfl rfl (M.box rfl rfl) ?_))
 rintro _ w_b ⟨b, rfl, hg_b, hs_b, hB_b, hk_b⟩
 have hge_b : _ ≤ b := Nat.le_trans hE.size (Nat.le_of_eq hg_b.symm)
 obtain ⟨hE, hk⟩ := Tr2 hk_b hE hk
 refine Ga 17 rfl (by omega) (G.loop (σ := Nat × Int) (fun ⟨i, x⟩ => [(1, .int .i64 x), (2, .pointer (some ⟨b, 0, none⟩)), (5, .int .i64 i)]) (fun ⟨i, x⟩ => fun w' => i ≤ t.kids.length ∧ ((1 + tnodes (t.kids.take i) : Nat) ≤ left → x = left - (1 + tnodes (t.kids.take i) : Nat)) ∧ (¬ ((1 + tnodes (t.kids.take i) : Nat) : Int) ≤ left → x < 0 ∧ min left 0 - 1 ≤ x) ∧ Ext w_b w') (fun ⟨i, x⟩ => t.kids.length - i) ((0, left - 1)) (Sub.of rfl) (⟨Nat.zero_le _, fun _ => rfl, fun h => by simp [tnodes] at h; omega, Keep.refl _ _⟩) ?_)
 rintro ⟨i, x⟩ w1 ⟨hi, hy, hn, hL1⟩
 show G _ _ _ _ _ [(1, .int .i64 x), (2, .pointer (some ⟨b, 0, none⟩)), (5, .int .i64 i)] _
 obtain ⟨hE, hk, hB_b⟩ := Tr3 hL1 hE hk hB_b
 refine Gs 5 rfl (G.ld rfl Tryz.isAgg82 (hB_b.cells 2 _ rfl) (Gs 3 rfl ?_))
 have hend : (i = t.kids.length ∨ x < 0) → ((t.nodes : Int) ≤ left → x = left - t.nodes) ∧ (¬ (t.nodes : Int) ≤ left → x < 0 ∧ min left 0 - 1 ≤ x) := by
  intro h
  have hle : tnodes (t.kids.take i) ≤ tnodes t.kids := by
   have := tnodes_append (t.kids.take i) (t.kids.drop i)
   rw [List.take_append_drop] at this
   omega
  rcases h with h | h
  ·
   rw [h, List.take_length] at hy hn
   constructor
   · intro h3; rw [hy (by omega)]; omega
   · intro h3; exact hn (by omega)
  ·
   constructor
   · intro h3; have := hy (by omega); omega
   ·
    intro h3
    by_cases h4 : ((1 + tnodes (t.kids.take i) : Nat) : Int) ≤ left
    · have := hy h4; omega
    · exact hn h4
 refine G.sp 13 rfl (fun hlt => ?_) (fun hlt => ?_)
 ·
  refine Gs 5 rfl (G.ite rfl (fun hx0 => ?_) (fun hx0 => ?_))
  ·
   obtain ⟨k, he_k⟩ : ∃ x, t.kids[i]? = some x := ⟨_, List.getElem?_eq_getElem (by omega)⟩
   have hm_k := List.mem_of_getElem? he_k
   obtain ⟨b_k, o_k, c_k, ha_k, _, hc_k, hR_k⟩ := hk.at he_k
   have h1_k := RTm.one hR_k
   obtain ⟨v1_k, rfl, hk_k⟩ := hR_k.get
   obtain ⟨a1_k, n1_k, rfl⟩ := hk_k.form
   have hlt_k : b_k < _ := World.block_lt_of_cell? _ _ (hc_k 0 _ rfl)
   have hsp := tnodes_take he_k
   refine Gs 6 rfl (G.ld rfl Tryz.isAgg82 (hB_b.cells 2 _ rfl) (Gs 1 rfl (G.ops1 rfl rfl (R.indexS Tryz.runUnderlying82 Tryz.sizeOf84 rfl rfl ha_k (by omega)) (G.ldK rfl Tryz.isAgg84 Tryz.sizeOf84 hc_k rfl (Gs 1 rfl (G.call rfl Tryz.call58 (ih k hm_k _ D _ x (RTm.put hk_k) (by omega) (by by_cases h4 : ((1 + tnodes (t.kids.take i) : Nat) : Int) ≤ left <;> first | (have := hy h4; omega) | (have := hn h4; omega))) ?_))))))
   rintro _ wz1 ⟨⟨m, rfl, hm1, hm2⟩, hz1⟩
   obtain ⟨hE, hk, hB_b, hL1, hc_k, hk_k⟩ := Tr6 hz1 hE hk hB_b hL1 hc_k hk_k
   refine Ga 9 rfl (by omega) (G.back ((i + 1, m)) (Sub.of rfl) (⟨by omega, ?_, ?_, hL1⟩) (by first | omega | (dsimp only; omega)))
   ·
    intro h3
    rw [hsp] at h3 ⊢
    have := hy (by omega)
    rw [hm1 (by omega)]; omega
   ·
    intro h3
    rw [hsp] at h3
    by_cases h4 : ((1 + tnodes (t.kids.take i) : Nat) : Int) ≤ left
    ·
     have := hy h4
     have := hm2 (by omega)
     omega
    · have := hn h4; omega
  · refine Gs 12 rfl (G.ret1 Tryz.results58 rfl ⟨_, rfl, ⟨x, rfl, hend (.inr (by omega))⟩, hE⟩)
 · refine Gs 18 rfl (G.ret1 Tryz.results58 rfl ⟨_, rfl, ⟨x, rfl, hend (.inl (by omega))⟩, hE⟩)
end Go.Proofs.YtldhllpogdikdaaGreat
namespace Go.GL
theorem Nd.eq4 {a b : Nd} (h1 : a.kind = b.kind) (h2 : a.at_ = b.at_) (h3 : a.next = b.next) (h4 : a.other = b.other) : a = b := by
 cases a; cases b; simp_all
mutual
/-- The number of nodes of a step. -/
def St.wid : St → Nat
 | .mk a _ _ _ _ f g _ => 1 + widL f + widL g + (if a = 4 then 1 else 0)
def widL : List St → Nat
 | [] => 0
 | s :: r => s.wid + widL r
end
theorem St.wid_eq (s : St) : s.wid = 1 + widL s.thn + widL s.els + (if s.act = 4 then 1 else 0) := by cases s; rfl
theorem widL_append (a b : List St) : widL (a ++ b) = widL a + widL b := by
 induction a with
 | nil => simp [widL]
 | cons x r ih => simp [widL, ih, Nat.add_assoc]
theorem widL_take {l : List St} {i : Nat} {x : St} (h : l[i]? = some x) : widL (l.take (i + 1)) = widL (l.take i) + x.wid := by rw [take_get h, widL_append]; simp [widL]
theorem widL_split {l : List St} {i : Nat} {x : St} (h : l[i]? = some x) : widL l = widL (l.take i) + x.wid + widL (l.drop (i + 1)) := by
 conv => lhs; rw [split_get h]
 rw [widL_append]; simp [widL, Nat.add_assoc]
theorem widL_le : ∀ l : List St, widL l ≤ 2 * ssize l := by
 intro l
 induction l using Sts.ind with
 | h l ih =>
  have key : ∀ r : List St, (∀ s ∈ r, widL s.thn ≤ 2 * ssize s.thn ∧ widL s.els ≤ 2 * ssize s.els) → widL r ≤ 2 * ssize r := by
   intro r
   induction r with
   | nil => intro _; simp [widL]
   | cons x r ih2 =>
    intro h
    have h1 := h x (List.mem_cons_self ..)
    have h2 := ih2 (fun s hs => h s (List.mem_cons_of_mem _ hs))
    have h3 := x.wid_eq
    have h4 := x.size_eq
    have h5 : (if x.act = 4 then 1 else 0) ≤ 1 := by split <;> omega
    simp only [widL, ssize]; omega
  exact key l ih
mutual
def St.lay : St → Nat → Nat → Nat → List Nd
 | .mk a _ _ _ _ f g _, at_, node, e =>
  if a = 3 then ⟨3, at_, if f.isEmpty then e else (node + 1 : Nat), if g.isEmpty then e else (node + 1 + widL f : Nat)⟩ :: (layL f (at_ + 1) (node + 1) e ++ layL g (at_ + 1 + ssize f) (node + 1 + widL f) e)
  else if a = 4 then ⟨4, at_, (node + 1 : Nat), -1⟩ :: ⟨5, at_, if f.isEmpty then (node + 1 : Nat) else (node + 2 : Nat), e⟩ :: layL f (at_ + 1) (node + 2) (node + 1)
  else [⟨2, at_, e, -1⟩]
def layL : List St → Nat → Nat → Nat → List Nd
 | [], _, _, _ => []
 | s :: r, at_, node, after => s.lay at_ node (if r.isEmpty then after else node + s.wid) ++ layL r (at_ + s.size) (node + s.wid) after
end
theorem St.lay_eq (s : St) (at_ node e : Nat) : s.lay at_ node e =
  if s.act = 3 then ⟨3, at_, if s.thn.isEmpty then e else (node + 1 : Nat), if s.els.isEmpty then e else (node + 1 + widL s.thn : Nat)⟩ :: (layL s.thn (at_ + 1) (node + 1) e ++ layL s.els (at_ + 1 + ssize s.thn) (node + 1 + widL s.thn) e)
  else if s.act = 4 then ⟨4, at_, (node + 1 : Nat), -1⟩ :: ⟨5, at_, if s.thn.isEmpty then (node + 1 : Nat) else (node + 2 : Nat), e⟩ :: layL s.thn (at_ + 1) (node + 2) (node + 1)
  else [⟨2, at_, e, -1⟩] := by cases s; rw [St.lay]; rfl
def cfgN (f : Fl) : List Nd := ⟨0, -1, 1, -1⟩ :: (layL f.body 0 1 (1 + widL f.body) ++ [⟨1, -1, -1, -1⟩])
abbrev Hang := Nat × Bool
def setE (ns : List Nd) (to : Int) (e : Hang) : List Nd := ns.modify e.1 fun x => if e.2 then { x with other := to } else { x with next := to }
def setAll (ns : List Nd) (to : Int) (es : List Hang) : List Nd := es.foldl (fun ns e => setE ns to e) ns
structure Bd where
 nodes : List Nd
 step : Nat
mutual
def St.one : St → Nat → Bd → Bd × List Hang
 | .mk a _ _ _ _ f g _, at_, b =>
  if a = 3 then
   let x := listB f { nodes := b.nodes ++ [⟨3, b.step, -1, -1⟩], step := b.step + 1 } [(at_, false)]
   let y := listB g x.1 [(at_, true)]
   (y.1, x.2 ++ y.2)
  else if a = 4 then
   let x := listB f { nodes := setE (b.nodes ++ [⟨4, b.step, -1, -1⟩, ⟨5, b.step, -1, -1⟩]) (at_ + 1 : Nat) (at_, false), step := b.step + 1 } [(at_ + 1, false)]
   ({ x.1 with nodes := setAll x.1.nodes (at_ + 1 : Nat) x.2 }, [(at_ + 1, true)])
  else ({ nodes := b.nodes ++ [⟨2, b.step, -1, -1⟩], step := b.step + 1 }, [(at_, false)])
def listB : List St → Bd → List Hang → Bd × List Hang
 | [], b, ins => (b, ins)
 | s :: r, b, ins =>
  let x := s.one b.nodes.length { b with nodes := setAll b.nodes b.nodes.length ins }
  listB r x.1 x.2
end
theorem St.one_eq (s : St) (at_ : Nat) (b : Bd) : s.one at_ b =
  if s.act = 3 then
   ((listB s.els (listB s.thn { nodes := b.nodes ++ [⟨3, b.step, -1, -1⟩], step := b.step + 1 } [(at_, false)]).1 [(at_, true)]).1,
    (listB s.thn { nodes := b.nodes ++ [⟨3, b.step, -1, -1⟩], step := b.step + 1 } [(at_, false)]).2 ++ (listB s.els (listB s.thn { nodes := b.nodes ++ [⟨3, b.step, -1, -1⟩], step := b.step + 1 } [(at_, false)]).1 [(at_, true)]).2)
  else if s.act = 4 then
   ({ (listB s.thn { nodes := setE (b.nodes ++ [⟨4, b.step, -1, -1⟩, ⟨5, b.step, -1, -1⟩]) (at_ + 1 : Nat) (at_, false), step := b.step + 1 } [(at_ + 1, false)]).1 with
    nodes := setAll (listB s.thn { nodes := setE (b.nodes ++ [⟨4, b.step, -1, -1⟩, ⟨5, b.step, -1, -1⟩]) (at_ + 1 : Nat) (at_, false), step := b.step + 1 } [(at_ + 1, false)]).1.nodes (at_ + 1 : Nat)
     (listB s.thn { nodes := setE (b.nodes ++ [⟨4, b.step, -1, -1⟩, ⟨5, b.step, -1, -1⟩]) (at_ + 1 : Nat) (at_, false), step := b.step + 1 } [(at_ + 1, false)]).2 }, [(at_ + 1, true)])
  else ({ nodes := b.nodes ++ [⟨2, b.step, -1, -1⟩], step := b.step + 1 }, [(at_, false)]) := by cases s; rw [St.one]; rfl
theorem listB_cons (s : St) (r : List St) (b : Bd) (ins : List Hang) : listB (s :: r) b ins = listB r (s.one b.nodes.length { b with nodes := setAll b.nodes b.nodes.length ins }).1 (s.one b.nodes.length { b with nodes := setAll b.nodes b.nodes.length ins }).2 := by rw [listB]
def buildB (f : Fl) : List Nd :=
 setAll (listB f.body { nodes := [⟨0, -1, -1, -1⟩], step := 0 } [(0, false)]).1.nodes ((listB f.body { nodes := [⟨0, -1, -1, -1⟩], step := 0 } [(0, false)]).1.nodes.length : Nat) (listB f.body { nodes := [⟨0, -1, -1, -1⟩], step := 0 } [(0, false)]).2 ++ [⟨1, -1, -1, -1⟩]
theorem setE_len (ns : List Nd) (to : Int) (e : Hang) : (setE ns to e).length = ns.length := by simp [setE]
theorem setAll_len (es : List Hang) : ∀ (ns : List Nd) (to : Int), (setAll ns to es).length = ns.length := by
 induction es with
 | nil => intro ns to; rfl
 | cons e r ih => intro ns to; rw [setAll, List.foldl_cons, ← setAll, ih, setE_len]
theorem setAll_cons (e : Hang) (r : List Hang) (ns : List Nd) (to : Int) : setAll ns to (e :: r) = setAll (setE ns to e) to r := rfl
theorem setAll_append (a b : List Hang) (ns : List Nd) (to : Int) : setAll ns to (a ++ b) = setAll (setAll ns to a) to b := by simp [setAll, List.foldl_append]
theorem setE_comm (ns : List Nd) (to to' : Int) (e e' : Hang) (h : to = to' ∨ e ≠ e') : setE (setE ns to e) to' e' = setE (setE ns to' e') to e := by
 apply List.ext_getElem?
 intro i
 simp only [setE, List.getElem?_modify]
 obtain ⟨a, p⟩ := e
 obtain ⟨a', p'⟩ := e'
 dsimp only
 by_cases h1 : a = i <;> by_cases h2 : a' = i <;> simp only [h1, h2, if_true, if_false] <;> cases ns[i]? <;> simp
 rename_i x
 cases p <;> cases p' <;> simp
 ·
  rcases h with h | h
  · exact h.symm
  · exact absurd (by rw [h1, h2]) h
 ·
  rcases h with h | h
  · exact h.symm
  · exact absurd (by rw [h1, h2]) h
theorem setAll_setE (es : List Hang) : ∀ (ns : List Nd) (to to' : Int) (e : Hang), (to = to' ∨ e ∉ es) → setAll (setE ns to' e) to es = setE (setAll ns to es) to' e := by
 induction es with
 | nil => intro ns to to' e _; rfl
 | cons x r ih =>
  intro ns to to' e h
  rw [setAll_cons, setAll_cons, ← ih _ _ _ _ (h.imp id (fun h hm => h (List.mem_cons_of_mem _ hm)))]
  congr 1
  exact setE_comm _ _ _ _ _ (h.imp (fun h => h.symm) (fun h he => h (by rw [he]; exact List.mem_cons_self ..)))
theorem setAll_comm (es es' : List Hang) (ns : List Nd) (to : Int) : setAll (setAll ns to es) to es' = setAll (setAll ns to es') to es := by
 induction es generalizing ns with
 | nil => rfl
 | cons e r ih =>
  rw [setAll_cons, ih, setAll_cons, setAll_setE _ _ _ _ _ (.inl rfl)]
theorem setE_left {ns ms : List Nd} {to : Int} {e : Hang} (h : e.1 < ns.length) : setE (ns ++ ms) to e = setE ns to e ++ ms := by
 apply List.ext_getElem?
 intro i
 simp only [setE, List.getElem?_modify]
 by_cases h1 : i < ns.length
 · rw [List.getElem?_append_left h1, List.getElem?_append_left (by simpa using h1), List.getElem?_modify]
 ·
  rw [List.getElem?_append_right (by omega), List.getElem?_append_right (by simp; omega)]
  simp [show ¬ e.1 = i by omega]
theorem setAll_left {es : List Hang} : ∀ {ns ms : List Nd} {to : Int}, (∀ e ∈ es, e.1 < ns.length) → setAll (ns ++ ms) to es = setAll ns to es ++ ms := by
 induction es with
 | nil => intro ns ms to _; rfl
 | cons e r ih =>
  intro ns ms to h
  rw [setAll_cons, setAll_cons, setE_left (h e (List.mem_cons_self ..)), ih (fun x hx => by rw [setE_len]; exact h x (List.mem_cons_of_mem _ hx))]
theorem setE_last {ns : List Nd} {x : Nd} {to : Int} {p : Bool} {k : Nat} (hk : k = ns.length) : setE (ns ++ [x]) to (k, p) = ns ++ [if p then { x with other := to } else { x with next := to }] := by
 subst hk
 apply List.ext_getElem?
 intro i
 simp only [setE, List.getElem?_modify]
 by_cases h1 : i < ns.length
 · rw [List.getElem?_append_left h1, List.getElem?_append_left h1]; simp [show ¬ ns.length = i by omega]
 ·
  rw [List.getElem?_append_right (by omega), List.getElem?_append_right (by omega)]
  by_cases h2 : i = ns.length
  · subst h2; simp
  · rw [List.getElem?_eq_none (by simp; omega), List.getElem?_eq_none (by simp; omega)]; simp
theorem setE_mid {ns ms : List Nd} {x : Nd} {to : Int} {p : Bool} {k : Nat} (hk : k = ns.length) : setE (ns ++ x :: ms) to (k, p) = ns ++ (if p then { x with other := to } else { x with next := to }) :: ms := by
 have := setE_left (ns := ns ++ [x]) (ms := ms) (to := to) (e := (k, p)) (by simp; omega)
 rw [List.append_assoc, List.singleton_append, setE_last hk] at this
 simpa using this
mutual
def St.plainB : St → Bool
 | .mk a _ _ _ _ f g _ => (if a = 3 then true else if a = 4 then g.isEmpty else f.isEmpty && g.isEmpty) && plainL f && plainL g
def plainL : List St → Bool
 | [] => true
 | s :: r => s.plainB && plainL r
end
theorem St.plainB_eq (s : St) : s.plainB = ((if s.act = 3 then true else if s.act = 4 then s.els.isEmpty else s.thn.isEmpty && s.els.isEmpty) && plainL s.thn && plainL s.els) := by cases s; rw [St.plainB]; rfl
theorem plainL_mem {l : List St} (h : plainL l = true) : ∀ s ∈ l, s.plainB = true := by
 induction l with
 | nil => intro s hs; simp at hs
 | cons x r ih =>
  intro s hs
  rw [plainL, Bool.and_eq_true] at h
  rcases List.mem_cons.1 hs with rfl | hs
  · exact h.1
  · exact ih h.2 s hs
theorem plainL_of {l : List St} (h : ∀ s ∈ l, s.plainB = true) : plainL l = true := by
 induction l with
 | nil => rfl
 | cons x r ih => rw [plainL, h x (List.mem_cons_self ..), ih (fun s hs => h s (List.mem_cons_of_mem _ hs))]; rfl
structure BOk (l : List St) (b : Bd) (ins : List Hang) (c : Bd) (outs : List Hang) : Prop where
 len : c.nodes.length = b.nodes.length + widL l
 step : c.step = b.step + ssize l
 out : ∀ e ∈ outs, e ∈ ins ∨ b.nodes.length ≤ e.1
 lt : ∀ e ∈ outs, e.1 < c.nodes.length
 lay : ∀ after : Nat, setAll c.nodes after outs = setAll b.nodes (if l.isEmpty then after else b.nodes.length : Nat) ins ++ layL l b.step b.nodes.length after
structure OOk (s : St) (b : Bd) (c : Bd) (outs : List Hang) : Prop where
 len : c.nodes.length = b.nodes.length + s.wid
 step : c.step = b.step + s.size
 out : ∀ e ∈ outs, b.nodes.length ≤ e.1
 lt : ∀ e ∈ outs, e.1 < c.nodes.length
 lay : ∀ after : Nat, setAll c.nodes after outs = b.nodes ++ s.lay b.step b.nodes.length after
theorem one_built (s : St) (hp : s.plainB = true) (h1 : ∀ (b : Bd) (ins : List Hang), (∀ e ∈ ins, e.1 < b.nodes.length) → BOk s.thn b ins (listB s.thn b ins).1 (listB s.thn b ins).2)
  (h2 : ∀ (b : Bd) (ins : List Hang), (∀ e ∈ ins, e.1 < b.nodes.length) → BOk s.els b ins (listB s.els b ins).1 (listB s.els b ins).2) (b : Bd) : OOk s b (s.one b.nodes.length b).1 (s.one b.nodes.length b).2 := by
 rw [s.plainB_eq, Bool.and_eq_true, Bool.and_eq_true] at hp
 have hw := s.wid_eq
 have hz := s.size_eq
 rw [s.one_eq]
 by_cases a3 : s.act = 3
 ·
  rw [if_neg (show ¬ s.act = 4 by omega)] at hw
  simp only [if_pos a3]
  have H1 := h1 { nodes := b.nodes ++ [⟨3, b.step, -1, -1⟩], step := b.step + 1 } [(b.nodes.length, false)] (by simp)
  generalize hx : listB s.thn { nodes := b.nodes ++ [⟨3, b.step, -1, -1⟩], step := b.step + 1 } [(b.nodes.length, false)] = x at H1
  obtain ⟨len1, step1, out1, lt1, lay1⟩ := H1
  simp only [List.length_append, List.length_singleton] at len1 step1 out1 lay1
  have H2 := h2 x.1 [(b.nodes.length, true)] (by simp; omega)
  generalize hy : listB s.els x.1 [(b.nodes.length, true)] = y at H2
  obtain ⟨len2, step2, out2, lt2, lay2⟩ := H2
  refine ⟨by omega, by omega, ?_, ?_, ?_⟩
  ·
   intro e he
   rcases List.mem_append.1 he with he | he
   ·
    rcases out1 e he with h | h
    · rw [List.mem_singleton.1 h]; exact Nat.le_refl _
    · omega
   ·
    rcases out2 e he with h | h
    · rw [List.mem_singleton.1 h]; exact Nat.le_refl _
    · omega
  ·
   intro e he
   rcases List.mem_append.1 he with he | he
   · have := lt1 e he; omega
   · exact lt2 e he
  ·
   intro after
   have hnot : (b.nodes.length, true) ∉ x.2 := by
    intro h
    rcases out1 _ h with h | h
    · simp at h
    · dsimp only at h; omega
   rw [setAll_append, setAll_comm, lay2, setAll_left (by intro e he; rw [setAll_len]; exact lt1 e he)]
   rw [show ∀ (t : Int), setAll x.1.nodes t [(b.nodes.length, true)] = setE x.1.nodes t (b.nodes.length, true) from fun _ => rfl]
   rw [setAll_setE _ _ _ _ _ (.inr hnot), lay1]
   rw [show ∀ (t : Int) (ns : List Nd), setAll ns t [(b.nodes.length, false)] = setE ns t (b.nodes.length, false) from fun _ _ => rfl]
   rw [setE_last rfl, List.append_assoc, List.singleton_append, setE_mid rfl, s.lay_eq, if_pos a3]
   rw [List.append_assoc, List.cons_append, step1, len1]
   simp only [if_true, Bool.false_eq_true, if_false]
   congr 2
   apply Nd.eq4 <;> dsimp only
   · split <;> rfl
   · rw [apply_ite Nat.cast]
 ·
  by_cases a4 : s.act = 4
  ·
   rw [if_pos a4] at hw
   rw [if_neg a3, if_pos a4] at hp
   have he0 : s.els = [] := by simpa using hp.1.1
   rw [he0] at hw hz
   simp only [widL, ssize] at hw hz
   simp only [if_neg a3, if_pos a4]
   have hst : setE (b.nodes ++ [⟨4, b.step, -1, -1⟩, ⟨5, b.step, -1, -1⟩]) (b.nodes.length + 1 : Nat) (b.nodes.length, false) = b.nodes ++ [⟨4, b.step, (b.nodes.length + 1 : Nat), -1⟩, ⟨5, b.step, -1, -1⟩] := by rw [setE_mid rfl]; rfl
   rw [hst]
   have H1 := h1 { nodes := b.nodes ++ [⟨4, b.step, (b.nodes.length + 1 : Nat), -1⟩, ⟨5, b.step, -1, -1⟩], step := b.step + 1 } [(b.nodes.length + 1, false)] (by simp)
   generalize hx : listB s.thn { nodes := b.nodes ++ [⟨4, b.step, (b.nodes.length + 1 : Nat), -1⟩, ⟨5, b.step, -1, -1⟩], step := b.step + 1 } [(b.nodes.length + 1, false)] = x at H1
   obtain ⟨len1, step1, out1, lt1, lay1⟩ := H1
   simp only [List.length_append, List.length_cons, List.length_nil] at len1 step1 out1 lay1
   refine ⟨by rw [setAll_len]; omega, by dsimp only; omega, ?_, ?_, ?_⟩
   ·
    intro e he
    rw [List.mem_singleton.1 he]; dsimp only; omega
   ·
    intro e he
    rw [List.mem_singleton.1 he, setAll_len]; dsimp only; omega
   ·
    intro after
    dsimp only
    rw [lay1]
    simp only [show ∀ (t : Int) (ns : List Nd) (q : Bool), setAll ns t [(b.nodes.length + 1, q)] = setE ns t (b.nodes.length + 1, q) from fun _ _ _ => rfl]
    rw [show ∀ (x y : Nd), b.nodes ++ [x, y] = (b.nodes ++ [x]) ++ [y] from fun x y => by simp]
    rw [setE_last (by simp)]
    rw [List.append_assoc (b.nodes ++ [_]), List.singleton_append, setE_mid (by simp), s.lay_eq, if_neg a3, if_pos a4, List.append_assoc, List.singleton_append]
    simp only [if_true, Bool.false_eq_true, if_false]
    congr 3
    apply Nd.eq4 <;> dsimp only
    rw [apply_ite Nat.cast]
  ·
   rw [if_neg a4] at hw
   rw [if_neg a3, if_neg a4, Bool.and_eq_true, List.isEmpty_iff, List.isEmpty_iff] at hp
   rw [hp.1.1.1, hp.1.1.2] at hw hz
   simp only [widL, ssize] at hw hz
   simp only [if_neg a3, if_neg a4]
   refine ⟨by simp; omega, by dsimp only; omega, ?_, ?_, ?_⟩
   · intro e he; rw [List.mem_singleton.1 he]; exact Nat.le_refl _
   · intro e he; rw [List.mem_singleton.1 he]; simp
   ·
    intro after
    dsimp only
    rw [show ∀ (t : Int) (ns : List Nd), setAll ns t [(b.nodes.length, false)] = setE ns t (b.nodes.length, false) from fun _ _ => rfl]
    rw [setE_last rfl, s.lay_eq, if_neg a3, if_neg a4]
    rfl
theorem list_built (l : List St) : plainL l = true → ∀ (b : Bd) (ins : List Hang), (∀ e ∈ ins, e.1 < b.nodes.length) → BOk l b ins (listB l b ins).1 (listB l b ins).2 := by
 induction l using Sts.ind with
 | h l ih =>
 intro hp
 have key : ∀ r : List St, (∀ x ∈ r, x ∈ l) → ∀ (b : Bd) (ins : List Hang), (∀ e ∈ ins, e.1 < b.nodes.length) → BOk r b ins (listB r b ins).1 (listB r b ins).2 := by
  intro r
  induction r with
  | nil =>
   intro _ b ins hi
   rw [listB]
   exact ⟨by simp [widL], by simp [ssize], fun e he => .inl he, hi, fun after => by simp [layL]⟩
  | cons s r ihr =>
   intro hm b ins hi
   have hs := plainL_mem hp s (hm s (List.mem_cons_self ..))
   have hs2 := hs
   rw [s.plainB_eq, Bool.and_eq_true, Bool.and_eq_true] at hs2
   have H := one_built s hs (fun b ins h => (ih s (hm s (List.mem_cons_self ..))).1 hs2.1.2 b ins h) (fun b ins h => (ih s (hm s (List.mem_cons_self ..))).2 hs2.2 b ins h) { b with nodes := setAll b.nodes b.nodes.length ins }
   rw [listB_cons]
   dsimp only at H
   rw [setAll_len] at H
   generalize s.one b.nodes.length { b with nodes := setAll b.nodes b.nodes.length ins } = x at H
   obtain ⟨len1, step1, out1, lt1, lay1⟩ := H
   simp only [setAll_len] at len1 step1 out1 lt1 lay1
   have H2 := ihr (fun y hy => hm y (List.mem_cons_of_mem _ hy)) x.1 x.2 lt1
   generalize listB r x.1 x.2 = y at H2
   obtain ⟨len2, step2, out2, lt2, lay2⟩ := H2
   refine ⟨by simp only [widL]; omega, by simp only [ssize]; omega, ?_, lt2, ?_⟩
   ·
    intro e he
    rcases out2 e he with h | h
    · exact .inr (out1 e h)
    · exact .inr (by omega)
   ·
    intro after
    rw [lay2, lay1, layL, List.append_assoc, len1, step1]
    simp only [List.isEmpty_cons, Bool.false_eq_true, if_false]
 exact key l (fun x h => h)
theorem build_eq (f : Fl) (hp : plainL f.body = true) : buildB f = cfgN f := by
 have H := list_built f.body hp { nodes := [⟨0, -1, -1, -1⟩], step := 0 } [(0, false)] (by simp)
 unfold buildB cfgN
 generalize listB f.body { nodes := [⟨0, -1, -1, -1⟩], step := 0 } [(0, false)] = x at H ⊢
 obtain ⟨len1, step1, out1, lt1, lay1⟩ := H
 simp only [List.length_singleton] at len1 lay1
 rw [lay1, len1]
 rw [show ∀ (t : Int) (ns : List Nd), setAll ns t [((0 : Nat), false)] = setE ns t (0, false) from fun _ _ => rfl]
 have h1 : ∀ t : Int, setE [⟨0, -1, -1, -1⟩] t (0, false) = [⟨0, -1, t, -1⟩] := fun t => rfl
 rw [h1]
 have h2 : ((if f.body.isEmpty then 1 + widL f.body else 1 : Nat) : Int) = 1 := by
  split
  ·
   rename_i h
   have : f.body = [] := by simpa using h
   rw [this]; rfl
  · rfl
 rw [h2]
 rfl
theorem layL_len (l : List St) : plainL l = true → ∀ at_ node after, (layL l at_ node after).length = widL l := by
 intro hp at_ node after
 have H := list_built l hp { nodes := List.replicate node ⟨0, 0, 0, 0⟩, step := at_ } [] (by simp)
 have h1 := H.lay after
 have h2 := congrArg List.length h1
 rw [setAll_len, H.len] at h2
 simp [setAll] at h2
 exact h2.symm
theorem cfgN_len (f : Fl) (hp : plainL f.body = true) : (cfgN f).length = widL f.body + 2 := by
 simp [cfgN, layL_len _ hp]
structure Nums (ns : List Nd) (a n : Nat) : Prop where
 range : ∀ x ∈ ns, (a : Int) ≤ x.at_ ∧ x.at_ < (a + n : Nat)
 ord : ns.Pairwise fun x y => x.at_ ≤ y.at_
 all : ∀ k, k < n → ∃ x ∈ ns, x.at_ = (a + k : Nat)
theorem Nums.nil (a : Nat) : Nums [] a 0 := ⟨fun x h => by simp at h, List.Pairwise.nil, fun k h => by omega⟩
theorem Nums.append {ns ms : List Nd} {a n b m : Nat} (h : Nums ns a n) (h' : Nums ms b m) (hb : b = a + n) : Nums (ns ++ ms) a (n + m) := by
 subst hb
 refine ⟨fun x hx => ?_, ?_, fun k hk => ?_⟩
 ·
  rcases List.mem_append.1 hx with hx | hx
  · have := h.range x hx; omega
  · have := h'.range x hx; omega
 ·
  rw [List.pairwise_append]
  refine ⟨h.ord, h'.ord, fun x hx y hy => ?_⟩
  have := h.range x hx
  have := h'.range y hy
  omega
 ·
  by_cases hk2 : k < n
  ·
   obtain ⟨x, hx, e⟩ := h.all k hk2
   exact ⟨x, List.mem_append_left _ hx, e⟩
  ·
   obtain ⟨x, hx, e⟩ := h'.all (k - n) (by omega)
   exact ⟨x, List.mem_append_right _ hx, by rw [e]; omega⟩
theorem Nums.cons {ns : List Nd} {a n : Nat} {x : Nd} (h : Nums ns (a + 1) n) (hx : x.at_ = a) : Nums (x :: ns) a (n + 1) := by
 refine ⟨fun y hy => ?_, ?_, fun k hk => ?_⟩
 ·
  rcases List.mem_cons.1 hy with rfl | hy
  · omega
  · have := h.range y hy; omega
 ·
  rw [List.pairwise_cons]
  exact ⟨fun y hy => by have := h.range y hy; omega, h.ord⟩
 ·
  by_cases hk2 : k = 0
  · subst hk2; exact ⟨x, List.mem_cons_self .., hx⟩
  ·
   obtain ⟨y, hy, e⟩ := h.all (k - 1) (by omega)
   exact ⟨y, List.mem_cons_of_mem _ hy, by rw [e]; omega⟩
theorem Nums.again {ns : List Nd} {a n : Nat} {x : Nd} (h : Nums ns a n) (hn : 0 < n) (hx : x.at_ = a) : Nums (x :: ns) a n := by
 refine ⟨fun y hy => ?_, ?_, fun k hk => ?_⟩
 ·
  rcases List.mem_cons.1 hy with rfl | hy
  · omega
  · exact h.range y hy
 ·
  rw [List.pairwise_cons]
  exact ⟨fun y hy => by have := h.range y hy; omega, h.ord⟩
 ·
  obtain ⟨y, hy, e⟩ := h.all k hk
  exact ⟨y, List.mem_cons_of_mem _ hy, e⟩
theorem lay_nums (l : List St) : plainL l = true → ∀ a node after, Nums (layL l a node after) a (ssize l) := by
 induction l using Sts.ind with
 | h l ih =>
 intro hp
 have key : ∀ r : List St, (∀ x ∈ r, x ∈ l) → ∀ a node after, Nums (layL r a node after) a (ssize r) := by
  intro r
  induction r with
  | nil => intro _ a node after; exact Nums.nil a
  | cons s r ihr =>
   intro hm a node after
   have hs := plainL_mem hp s (hm s (List.mem_cons_self ..))
   rw [s.plainB_eq, Bool.and_eq_true, Bool.and_eq_true] at hs
   have h1 := (ih s (hm s (List.mem_cons_self ..))).1 hs.1.2
   have h2 := (ih s (hm s (List.mem_cons_self ..))).2 hs.2
   rw [layL, ssize]
   refine Nums.append ?_ (ihr (fun y hy => hm y (List.mem_cons_of_mem _ hy)) _ _ _) rfl
   generalize (if r.isEmpty = true then after else node + s.wid) = e
   have hz := s.size_eq
   rw [s.lay_eq]
   by_cases a3 : s.act = 3
   ·
    rw [if_pos a3, show s.size = (ssize s.thn + ssize s.els) + 1 by omega]
    exact Nums.cons (Nums.append (h1 _ _ _) (h2 _ _ _) rfl) rfl
   ·
    by_cases a4 : s.act = 4
    ·
     rw [if_neg a3, if_pos a4] at hs
     rw [if_neg a3, if_pos a4]
     have he0 : s.els = [] := by simpa using hs.1.1
     rw [he0] at hz
     simp only [ssize] at hz
     rw [show s.size = ssize s.thn + 1 by omega]
     exact Nums.again (Nums.cons (h1 _ _ _) rfl) (by omega) rfl
    ·
     rw [if_neg a3, if_neg a4, Bool.and_eq_true, List.isEmpty_iff, List.isEmpty_iff] at hs
     rw [if_neg a3, if_neg a4]
     rw [hs.1.1.1, hs.1.1.2] at hz
     simp only [ssize] at hz
     rw [show s.size = 0 + 1 by omega]
     exact Nums.cons (Nums.nil _) rfl
 exact key l (fun x h => h)
def fIdx {α : Type} (p : α → Bool) (l : List α) : Int := match l.findIdx? p with
 | some i => i
 | none => -1
open Go.RowKit
def Wr (p : TypeId → Bool) (W0 : Nat) (w : World) (k : Nat) : Prop := W0 ≤ k ∧ ∀ cs e, Blk w k cs e → p e = true
abbrev KT (p : TypeId → Bool) (W0 : Nat) (w w' : World) : Prop := Keep (Wr p W0 w) w w'
section
variable {p : TypeId → Bool} {W0 : Nat} {w w' w'' : World}
theorem Blk.ty {b : Nat} {cs cs' : List Value} {e e' : TypeId} (h : Blk w b cs e) (h' : Blk w b cs' e') : e = e' ∧ cs = cs' := by
 unfold Blk at h h'
 rw [h] at h'
 injection h' with h'
 injection h' with h1 h2
 exact ⟨h2, List.toArray_inj h1⟩
theorem Blk.ne {a b : Nat} {cs cs' : List Value} {e e' : TypeId} (h : Blk w a cs e) (h' : Blk w b cs' e') (hne : e ≠ e') : a ≠ b := by
 rintro rfl
 exact hne (h.ty h').1
theorem Wr.mk {k : Nat} {cs : List Value} {e : TypeId} (hW : W0 ≤ k) (hb : Blk w k cs e) (hp : p e = true) : Wr p W0 w k := ⟨hW, fun cs' e' h => by rw [← (hb.ty h).1]; exact hp⟩
theorem KT.refl : KT p W0 w w := Keep.refl _ _
theorem KT.trans (h : KT p W0 w w') (h' : KT p W0 w' w'') : KT p W0 w w'' := by
 refine Keep.trans h h' (fun k hk hT => ?_)
 by_cases hS : Wr p W0 w k
 · exact hS
 ·
  exfalso
  apply hS
  refine ⟨hT.1, fun cs e h2 => hT.2 cs e ?_⟩
  unfold Blk at h2 ⊢
  rw [h.block k hk hS]; exact h2
theorem KT.of_ext (h : Ext w w') : KT p W0 w w' := Keep.mono h (fun _ _ h => h.elim)
theorem KT.ext' (h : KT p W0 w w') (h' : Ext w' w'') : KT p W0 w w'' := KT.trans h (KT.of_ext h')
theorem KT.wrote {b : Nat} {cs cs' : List Value} {e : TypeId} (hb : Blk w b cs e) (hp : p e = true) (hW : W0 ≤ b) (h : Wrote w b cs' e w') : KT p W0 w w' :=
 h.2.2.mono (fun k _ (hk : k = b) => by subst hk; exact Wr.mk hW hb hp)
theorem own_blkty {e : TypeId} {k : Nat} {v : Value} {n : Nat} {xs : List Value} (h : w.ownsRow 0 e k v n xs) {g : Nat} (hg : v.ownBlock = some g) : ∃ cs, Blk w g cs e := by
 rcases h.2 with ⟨rfl, _⟩ | ⟨g', cap, cur, rfl, _, h2, _⟩
 · simp [Value.ownBlock] at hg
 ·
  simp [Value.ownBlock] at hg
  subst hg
  exact ⟨cur.toList, by unfold Blk; simpa using h2⟩
theorem KT.row {e : TypeId} {k : Nat} {v : Value} {n : Nat} {xs : List Value} (ho : w.ownsRow 0 e k v n xs) (hp : p e = true) (hW : ∀ g, v.ownBlock = some g → W0 ≤ g) (h : Keep (fun k => v.ownBlock = some k) w w') : KT p W0 w w' :=
 h.mono (fun g _ hg => by obtain ⟨cs, hb⟩ := own_blkty ho hg; exact Wr.mk (hW g hg) hb hp)
theorem KT.new {S : Nat → Prop} (h : KT p W0 w w') (h' : Keep S w' w'') (hS : ∀ k, S k → w.heap.size ≤ k) : KT p W0 w w'' :=
 Keep.trans h h' (fun k hk hT => absurd (hS k hT) (by omega))
theorem KT.mono {q : TypeId → Bool} {W1 : Nat} (h : KT p W0 w w') (hq : ∀ e, p e = true → q e = true) (hW : W1 ≤ W0) : KT q W1 w w' :=
 Keep.mono h (fun k _ ⟨h1, h2⟩ => ⟨by omega, fun cs e hb => hq e (h2 cs e hb)⟩)
theorem KT.fresh (h : KT p W0 w w') (hW : w.heap.size ≤ W0) : Ext w w' := Keep.mono h (fun k hk ⟨h1, _⟩ => by omega)
theorem KT.blk (h : KT p W0 w w') {b : Nat} {cs : List Value} {e : TypeId} (hb : Blk w b cs e) (hp : p e = false) : Blk w' b cs e :=
 Keep.blk h hb (fun ⟨_, h2⟩ => by have := h2 _ _ hb; rw [hp] at this; cases this)
theorem KT.own (h : KT p W0 w w') {e : TypeId} {k : Nat} {v : Value} {n : Nat} {xs : List Value} (ho : w.ownsRow 0 e k v n xs) (hp : p e = false) : w'.ownsRow 0 e k v n xs :=
 own_keep ho h (fun g hg ⟨_, h2⟩ => by obtain ⟨cs, hb⟩ := own_blkty ho hg; have := h2 _ _ hb; rw [hp] at this; cases this)
theorem KT.sl (h : KT p W0 w w') {α : Type} {k : Nat} {R : Rel α} (hs : Stable R) {D : Nat → Prop} {v : Value} {l : List α} (hl : SlR k R D w v l) (hD : ∀ q, D q → q < W0) : SlR k R D w' v l :=
 hl.keep hs h (fun q hq _ ⟨h1, _⟩ => by have := hD q hq; omega)
abbrev Above (B : Nat) (w w' : World) : Prop := Keep (fun k => B ≤ k) w w'
theorem Above.of_ext {B : Nat} (h : Ext w w') : Above B w w' := Keep.mono h (fun _ _ h => h.elim)
theorem Above.then {B : Nat} (h : Above B w w') (h' : Above B w' w'') : Above B w w'' := Keep.trans h h' (fun _ _ h => h)
theorem Above.ext' {B : Nat} (h : Above B w w') (h' : Ext w' w'') : Above B w w'' := Keep.ext h h'
theorem Above.of_keep {B : Nat} {S : Nat → Prop} (h : Keep S w w') (hS : ∀ k, S k → B ≤ k) : Above B w w' := Keep.mono h (fun k _ hk => hS k hk)
theorem Above.sl {B : Nat} (h : Above B w w') {α : Type} {k : Nat} {R : Rel α} (hs : Stable R) {D : Nat → Prop} {v : Value} {l : List α} (hl : SlR k R D w v l) (hD : ∀ q, D q → q < B) : SlR k R D w' v l :=
 hl.keep hs h (fun q hq _ (h1 : B ≤ q) => by have := hD q hq; omega)
theorem Above.fresh {B : Nat} (h : Above B w w') (hB : w.heap.size ≤ B) : Ext w w' := Keep.mono h (fun k hk (h1 : B ≤ k) => by omega)
end
structure Item where
 i : Nat
 o : Oper
 d : Nat
 R : World → Value → World → Prop
def anyOrder (ops : Array Oper) (L3 : Array Bool) : Nat → List Nat → Array Bool → Bool
 | 0, is, listed => is.isEmpty && (listed == L3)
 | k + 1, is, listed => !(Region.ready .any ops listed).isEmpty && (Region.ready .any ops listed).all (fun j => is.contains j && anyOrder ops L3 k (is.filter (fun x => x != j)) (listed.setIfInBounds j true))
def Apart (R : World → Value → World → Prop) (v : Value) (R' : World → Value → World → Prop) (u : Value) : Prop :=
 (∃ a a' c c', R a v a' ∧ R' c u c' ∧ Ext a' c) ∨ (∃ a a' c c', R a v a' ∧ R' c u c' ∧ Ext c' a)
theorem nodup_inj {α : Type} {f : α → Nat} : ∀ {l : List α}, (l.map f).Nodup → ∀ {x y : α}, x ∈ l → y ∈ l → f x = f y → x = y
 | [], _, _, _, hx, _, _ => by simp at hx
 | z :: r, h, x, y, hx, hy, e => by
  rw [List.map_cons, List.nodup_cons] at h
  rcases List.mem_cons.1 hx with h1 | h1
  ·
   rcases List.mem_cons.1 hy with h2 | h2
   · rw [h1, h2]
   · exact absurd (List.mem_map.2 ⟨y, h2, by rw [← e, h1]⟩) h.1
  ·
   rcases List.mem_cons.1 hy with h2 | h2
   · exact absurd (List.mem_map.2 ⟨x, h1, by rw [e, h2]⟩) h.1
   · exact nodup_inj h.2 h1 h2 e
theorem get_items {env : Env} {val : Nat → Value} : ∀ (I : List Item) (m : Nat) (v : Value), get (I.map (fun x => (x.d, val x.d)) ++ env) m = some v → (∃ x ∈ I, x.d = m ∧ v = val m) ∨ get env m = some v
 | [], m, v, h => .inr h
 | x :: r, m, v, h => by
  rw [List.map_cons, List.cons_append] at h
  simp only [GL.get] at h
  cases hb : Nat.beq x.d m with
  | true =>
   rw [hb] at h
   have e := Nat.eq_of_beq_eq_true hb
   exact .inl ⟨x, List.mem_cons_self .., e, by rw [← e]; exact (Option.some.inj h).symm⟩
  | false =>
   rw [hb] at h
   rcases get_items r m v h with ⟨y, hy, h1, h2⟩ | h1
   · exact .inl ⟨y, List.mem_cons_of_mem _ hy, h1, h2⟩
   · exact .inr h1
section
variable {P : Program} {n : Nat} {ops : Array Oper} {Q : Exit → Act → World → Prop} {S : World → Prop} {L : List Nat} {env : Env} {w : World} {fuel : Nat} {listed : Array Bool}
theorem wp_does {i d : Nat} {o : Oper} {R : Value → World → Prop} {K : Act → World → Prop} {Q' : Exit → Act → World → Prop} {a : Act} (hi : ops[i]? = some o) (hg : o.guard = none) (hd : o.dst = some d) (ha : Ok n env a) (hm : Does P o env w R)
  (h : ∀ v w', R v w' → K (a.put (some d) v) w') : wpOp P ops Q' i K a w := by
 refine mk_wpOp hi hg ?_
 unfold Oper.wp
 rcases hm with ⟨v, w', h1, h2⟩ | ⟨f, args, h1, h2⟩
 ·
  rw [h1 n a ha, Oper.upon_value, hd]
  exact h v w' h2
 ·
  rw [h1 n a ha, Oper.upon_enter]
  refine h2.mono ?_
  rintro e w' ⟨v, rfl, hR⟩
  simp only [hd]
  exact h v w' hR
theorem WD.many (I : List Item) {L3 : Array Bool} (hI : ∀ x ∈ I, ops[x.i]? = some x.o ∧ x.o.guard = none ∧ x.o.dst = some x.d ∧ Nat.blt x.d n = true ∧ get env x.d = none)
  (hnd : (I.map (·.d)).Nodup) (hni : (I.map (·.i)).Nodup) (hr : anyOrder ops L3 I.length (I.map (·.i)) listed = true)
  (hS : ∀ w', Ext w w' → S w') (hR : ∀ x ∈ I, ∀ a v a', x.R a v a' → Ext a a') (hm : ∀ x ∈ I, ∀ w', Ext w w' → Does P x.o env w' (x.R w'))
  (h : ∀ (val : Nat → Value) w', Ext w w' → (∀ x ∈ I, Made w x.R (val x.d) w') → (∀ x ∈ I, ∀ y ∈ I, x.d ≠ y.d → Apart x.R (val x.d) y.R (val y.d)) → WD P n ops Q S L fuel L3 (I.map (fun x => (x.d, val x.d)) ++ env) w') :
  WD P n ops Q S L (fuel + I.length) listed env w := by
 have key : ∀ (k : Nat) (J : List Item) (listed : Array Bool) (env' : Env) (w' : World) (val : Nat → Value), (∀ x ∈ J, x ∈ I) → anyOrder ops L3 k (J.map (·.i)) listed = true → Ext w w' → Sub env env' →
   (∀ x ∈ I, x ∉ J → get env' x.d = some (val x.d) ∧ Made w x.R (val x.d) w') → (∀ x ∈ I, x ∉ J → ∀ y ∈ I, y ∉ J → x.d ≠ y.d → Apart x.R (val x.d) y.R (val y.d)) →
   WD P n ops Q S L (fuel + k) listed env' w' := by
  intro k
  induction k with
  | zero =>
   intro J listed env' w' val hJ ho hE hsub hdone hap
   rw [anyOrder, Bool.and_eq_true, List.isEmpty_iff, List.map_eq_nil_iff] at ho
   obtain ⟨rfl, ho⟩ := ho
   have e : listed = L3 := by simpa using ho
   rw [e]
   refine (h val w' hE (fun x hx => (hdone x hx (by simp)).2) (fun x hx y hy hne => hap x hx (by simp) y hy (by simp) hne)).sub ?_
   intro m v hv
   rcases get_items I m v hv with ⟨x, hx, e1, e2⟩ | h1
   · rw [← e1, (hdone x hx (by simp)).1, e2, e1]
   · exact hsub m v h1
  | succ k ih =>
   intro J listed env' w' val hJ ho hE hsub hdone hap a ha
   rw [anyOrder, Bool.and_eq_true, List.all_eq_true] at ho
   refine ⟨fun h0 => (by rw [h0] at ho; simp at ho), fun j hj => ?_⟩
   have h1 := ho.2 j hj
   rw [Bool.and_eq_true] at h1
   obtain ⟨x, hx, rfl⟩ : ∃ x ∈ J, x.i = j := by simpa using h1.1
   have hxI := hJ x hx
   obtain ⟨q1, q2, q3, q4, q5⟩ := hI x hxI
   refine wp_does q1 q2 q3 ha ((hm x hxI w' hE).sub hsub) (fun v w2 hv => ?_)
   have k2 := hR x hxI _ _ _ hv
   refine ⟨fun _ _ => hS _ (hE.ext k2), ?_⟩
   have hne : ∀ y ∈ I, y ∉ J → y.d ≠ x.d := fun y hy hyJ e => hyJ (by rw [nodup_inj hnd hy hxI e]; exact hx)
   have hmem : ∀ z ∈ I, z ∉ J.filter (fun y => y.i != x.i) → z = x ∨ z ∉ J := by
    intro z hz hz2
    by_cases hzJ : z ∈ J
    ·
     left
     by_cases e : z.i = x.i
     · exact nodup_inj hni hz hxI e
     · exact absurd (List.mem_filter.2 ⟨hzJ, by simpa using e⟩) hz2
    · exact .inr hzJ
   refine ih (J.filter (fun y => y.i != x.i)) (listed.setIfInBounds x.i true) ((x.d, v) :: env') w2 (fun m => if m = x.d then v else val m) (fun z hz => hJ z (List.mem_filter.1 hz).1) ?_ (hE.ext k2) ?_ ?_ ?_ _ (ha.put q4)
   ·
    have := h1.2
    rw [List.filter_map] at this
    exact this
   ·
    intro m u hu
    simp only [GL.get]
    cases hb : Nat.beq x.d m with
    | true =>
     have e := Nat.eq_of_beq_eq_true hb
     rw [← e, q5] at hu
     cases hu
    | false => exact hsub m u hu
   ·
    intro z hz hz2
    rcases hmem z hz hz2 with rfl | hzJ
    ·
     refine ⟨by simp [GL.get, Nat.beq_refl], ?_⟩
     simp only [if_true]
     exact ⟨w', w2, hE, hv, Keep.refl _ _⟩
    ·
     have hzd := hne z hz hzJ
     simp only [hzd, if_false]
     obtain ⟨g1, a1, a2, g2, g3, g4⟩ := hdone z hz hzJ
     refine ⟨?_, a1, a2, g2, g3, g4.ext k2⟩
     simp only [GL.get]
     cases hb : Nat.beq x.d z.d with
     | true => exact absurd (Nat.eq_of_beq_eq_true hb).symm hzd
     | false => exact g1
   ·
    intro z hz hz2 y hy hy2 hzy
    rcases hmem z hz hz2 with rfl | hzJ <;> rcases hmem y hy hy2 with rfl | hyJ
    · exact absurd rfl hzy
    ·
     have hyd := hne y hy hyJ
     simp only [hyd, if_false, if_true]
     obtain ⟨_, a1, a2, g2, g3, g4⟩ := hdone y hy hyJ
     exact .inr ⟨_, _, _, _, hv, g3, g4⟩
    ·
     have hzd := hne z hz hzJ
     simp only [hzd, if_false, if_true]
     obtain ⟨_, a1, a2, g2, g3, g4⟩ := hdone z hz hzJ
     exact .inl ⟨_, _, _, _, g3, hv, g4⟩
    ·
     simp only [hne z hz hzJ, hne y hy hyJ, if_false]
     exact hap z hz hzJ y hy hyJ hzy
 refine key I.length I listed env w (fun _ => undef) (fun x hx => hx) hr (Keep.refl _ _) (Sub.refl _) (fun x hx h => absurd hx h) (fun x hx h => absurd hx h)
end
end Go.GL
namespace Go.Proofs.YtldhllpogdikdaaGreat
open Go.GL
def encN (x : Nd) : List Value := [.int .i64 x.kind, .int .i64 x.at_, .int .i64 x.next, .int .i64 x.other]
theorem encN_len (x : Nd) : (encN x).length = 4 := rfl
theorem encN_one (x : Nd) : ∀ u ∈ encN x, u.oneCell' = true := by simp [encN, Value.oneCell']
def bty (e : TypeId) : Bool := e == 164 || e == 40
theorem bty1 : bty 164 = true := by decide
theorem bty2 : bty 40 = true := by decide
structure BdS (W0 B : Nat) (w : World) (b : Bd) (v : Value) : Prop where
 blk : Blk w B [v, .int .i64 b.step] 164
 row : w.ownsRow 0 40 4 v b.nodes.length (b.nodes.flatMap encN)
 low : W0 ≤ B
 far : ∀ g, v.ownBlock = some g → W0 ≤ g
theorem BdS.ext {W0 B : Nat} {w w' : World} {b : Bd} {v : Value} (h : BdS W0 B w b v) (hk : Ext w w') : BdS W0 B w' b v := ⟨hk.blk h.blk (fun h => h), own_keep h.row hk (fun _ _ h => h), h.low, h.far⟩
theorem BdS.ne {W0 B : Nat} {w : World} {b : Bd} {v : Value} (h : BdS W0 B w b v) {g : Nat} (hg : v.ownBlock = some g) : g ≠ B := by
 obtain ⟨cs, hb⟩ := own_blkty h.row hg
 exact hb.ne h.blk (by decide)
def HC (B : Nat) (w : World) (e : Hang) (x : Value) : Prop := ∃ bb ab, x = .func (.func (if e.2 then 220 else 160)) #[] #[.pointer (some ⟨bb, 0, none⟩), .pointer (some ⟨ab, 0, none⟩)] ∧ Blk w bb [.pointer (some ⟨B, 0, none⟩)] 162 ∧ Blk w ab [.int .i64 e.1] 3
theorem HC.one {B : Nat} {w : World} {e : Hang} {x : Value} (h : HC B w e x) : x.oneCell' = true := by obtain ⟨_, _, rfl, _⟩ := h; rfl
theorem HC.ext {B : Nat} {w w' : World} {e : Hang} {x : Value} (h : HC B w e x) (hk : Ext w w') : HC B w' e x := by
 obtain ⟨bb, ab, h1, h2, h3⟩ := h
 exact ⟨bb, ab, h1, hk.blk h2 (fun h => h), hk.blk h3 (fun h => h)⟩
theorem HC.kt {B W0 : Nat} {w w' : World} {e : Hang} {x : Value} (h : HC B w e x) (hk : KT bty W0 w w') : HC B w' e x := by
 obtain ⟨bb, ab, h1, h2, h3⟩ := h
 exact ⟨bb, ab, h1, hk.blk h2 (by decide), hk.blk h3 (by decide)⟩
def Hung (B : Nat) (w : World) (v : Value) (es : List Hang) : Prop := ∃ xs : List Value, w.ownsRow 0 167 1 v es.length xs ∧ ∀ (i : Nat) e x, es[i]? = some e → xs[i]? = some x → HC B w e x
theorem Hung.ext {B : Nat} {w w' : World} {v : Value} {es : List Hang} (h : Hung B w v es) (hk : Ext w w') : Hung B w' v es := by
 obtain ⟨xs, h1, h2⟩ := h
 exact ⟨xs, own_keep h1 hk (fun _ _ h => h), fun i e x he hx => (h2 i e x he hx).ext hk⟩
theorem Hung.kt {B W0 : Nat} {w w' : World} {v : Value} {es : List Hang} (h : Hung B w v es) (hk : KT bty W0 w w') : Hung B w' v es := by
 obtain ⟨xs, h1, h2⟩ := h
 exact ⟨xs, hk.own h1 (by decide), fun i e x he hx => (h2 i e x he hx).kt hk⟩
theorem Hung.form {B : Nat} {w : World} {v : Value} {es : List Hang} (h : Hung B w v es) : ∃ ao c, v = .slice ao es.length c ∧ es.length ≤ c := by
 obtain ⟨xs, h1, h2⟩ := h
 rcases h1.2 with ⟨rfl, h3⟩ | ⟨g, cap, cur, rfl, h3, h4, h5, h6⟩
 · rw [h3]; exact ⟨_, _, rfl, Nat.le_refl _⟩
 · exact ⟨_, _, rfl, h5⟩
theorem Hung.at {B : Nat} {w : World} {ao : Option Addr} {n c : Nat} {es : List Hang} (h : Hung B w (.slice ao n c) es) {i : Nat} {e : Hang} (he : es[i]? = some e) : ∃ g x, ao = some ⟨g, 0, none⟩ ∧ Cells w g (0 + i * 1) [x] ∧ HC B w e x := by
 obtain ⟨xs, h1, h2⟩ := h
 have hi := (List.getElem?_eq_some_iff.1 he).1
 have hxl := h1.1
 obtain ⟨x, hx⟩ : ∃ x, xs[i]? = some x := ⟨_, List.getElem?_eq_getElem (by omega)⟩
 rcases h1.2 with ⟨h3, h4⟩ | ⟨g, cap, cur, h3, _, h4, h5, h6, h7, h8⟩
 · omega
 ·
  cases h3
  refine ⟨g, x, rfl, ?_, h2 i e x he hx⟩
  intro j u hu
  cases j with
  | zero =>
   simp at hu; subst hu
   have hb : Blk w g cur.toList 167 := by unfold Blk; simpa using h4
   have := hb.cells i x (by rw [← h8, List.getElem?_take] at hx; split at hx; exact hx; cases hx)
   simpa using this
  | succ j => simp at hu
theorem next_ok (B : Nat) (k : Nat) (w : World) : Calls Tryz.prog 107 #[.pointer (some ⟨B, 0, none⟩), .int .i64 k] w (Ret fun r w' => HC B w' (k, false) r ∧ Ext w w') := by
 have hE := Keep.refl (fun _ => False) w
 refine G.in2 Tryz.func107 rfl Tryz.ntmps107 rfl (Gs 2 rfl (G.mem rfl rfl (M.box rfl rfl) ?_))
 rintro _ w_bb ⟨bb, rfl, hg_bb, hs_bb, hB_bb, hk_bb⟩
 have hge_bb : _ ≤ bb := Nat.le_trans hE.size (Nat.le_of_eq hg_bb.symm)
 replace hE := Tr1 hk_bb hE
 refine G.mem rfl rfl (M.box rfl rfl) ?_
 rintro _ w_ab ⟨ab, rfl, hg_ab, hs_ab, hB_ab, hk_ab⟩
 have hn_bb_ab : bb ≠ ab := by have := hB_bb.lt; omega
 have hge_ab : _ ≤ ab := Nat.le_trans hE.size (Nat.le_of_eq hg_ab.symm)
 obtain ⟨hE, hB_bb⟩ := Tr2 hk_ab hE hB_bb
 refine Gs 10 rfl (G.ret1 Tryz.results107 rfl ⟨_, rfl, ⟨bb, ab, rfl, hB_bb, hB_ab⟩, hE⟩)
theorem other_ok (B : Nat) (k : Nat) (w : World) : Calls Tryz.prog 204 #[.pointer (some ⟨B, 0, none⟩), .int .i64 k] w (Ret fun r w' => HC B w' (k, true) r ∧ Ext w w') := by
 have hE := Keep.refl (fun _ => False) w
 refine G.in2 Tryz.func204 rfl Tryz.ntmps204 rfl (Gs 2 rfl (G.mem rfl rfl (M.box rfl rfl) ?_))
 rintro _ w_bb ⟨bb, rfl, hg_bb, hs_bb, hB_bb, hk_bb⟩
 have hge_bb : _ ≤ bb := Nat.le_trans hE.size (Nat.le_of_eq hg_bb.symm)
 replace hE := Tr1 hk_bb hE
 refine G.mem rfl rfl (M.box rfl rfl) ?_
 rintro _ w_ab ⟨ab, rfl, hg_ab, hs_ab, hB_ab, hk_ab⟩
 have hn_bb_ab : bb ≠ ab := by have := hB_bb.lt; omega
 have hge_ab : _ ≤ ab := Nat.le_trans hE.size (Nat.le_of_eq hg_ab.symm)
 obtain ⟨hE, hB_bb⟩ := Tr2 hk_ab hE hB_bb
 refine Gs 10 rfl (G.ret1 Tryz.results204 rfl ⟨_, rfl, ⟨bb, ab, rfl, hB_bb, hB_ab⟩, hE⟩)
theorem set_node (L : List Nd) (i : Nat) (hi : i < L.length) (sp : List Value) (to : Int) (p : Bool) : (L.flatMap encN ++ sp).set (i * 4 + (if p then 3 else 2)) (.int .i64 to) = (setE L to (i, p)).flatMap encN ++ sp := by
 have h1 := flat_set (enc := encN) encN_len hi (if p then { L[i] with other := to } else { L[i] with next := to }) sp
 have h2 : setE L to (i, p) = L.set i (if p then { L[i] with other := to } else { L[i] with next := to }) := by
  apply List.ext_getElem?
  intro j
  simp only [setE, List.getElem?_modify, List.getElem?_set]
  by_cases hj : i = j
  · subst hj; simp [hi]
  · simp [hj]
 rw [h2, ← h1]
 have h3 := flat_set (enc := encN) encN_len hi L[i] sp
 rw [List.set_getElem_self] at h3
 have ht : ((L.flatMap encN ++ sp).take (i * 4)).length = i * 4 := by
  have := flat_len encN_len L
  rw [List.length_take, List.length_append]; omega
 generalize (L.flatMap encN ++ sp).drop (i * 4 + 4) = C at h3 ⊢
 generalize (L.flatMap encN ++ sp).take (i * 4) = A at h3 ht ⊢
 rw [← h3, List.append_assoc, List.append_assoc, List.set_append_right _ _ (by rw [ht]; exact Nat.le_add_right _ _), ht, Nat.add_sub_cancel_left]
 cases p <;> rfl
theorem next_ok' (W0 B bb ab i : Nat) (to : Int) (b : Bd) (v : Value) (w : World) (hb : BdS W0 B w b v) (hbb : Blk w bb [.pointer (some ⟨B, 0, none⟩)] 162) (hab : Blk w ab [.int .i64 (i : Nat)] 3) (hi : i < b.nodes.length) :
  Calls Tryz.prog 160 #[.int .i64 to, .pointer (some ⟨bb, 0, none⟩), .pointer (some ⟨ab, 0, none⟩)] w (Ret fun _ w' => BdS W0 B w' { b with nodes := setE b.nodes to (i, false) } v ∧ KT bty W0 w w') := by
 obtain ⟨g, cap, sp, rfl, _, hnc, hcm, hBg, hlen⟩ := own_open encN_len (by decide) hb.row (by intro h; rw [h] at hi; simp at hi)
 have hB := hb.blk
 have hll := flat_len encN_len b.nodes
 have hfl : (b.nodes.flatMap encN ++ sp).length = b.nodes.length * 4 + sp.length := by rw [List.length_append, hll]
 have hgB := hb.ne rfl
 have hset := set_node b.nodes i hi sp to false
 refine G.in3 Tryz.func160 rfl Tryz.ntmps160 rfl (Dw (fun q => Ext w q) [8] (fun wd1 hD _ => ?_))
 refine WD.take 0 rfl (by kernel_rfl) rfl rfl rfl hD (fun w1 hw1 => R.load Tryz.isAgg162 rfl ((hw1.blk hbb (fun h => h)).cells 0 _ rfl)) (Ds [1, 2] (by kernel_rfl) rfl (WD.take 3 rfl (by kernel_rfl) rfl rfl rfl hD (fun w1 hw1 => R.load Tryz.isAgg29 rfl ((hw1.blk hB (fun h => h)).cells 0 _ rfl)) (WD.take 4 rfl (by kernel_rfl) rfl rfl rfl hD (fun w1 hw1 => R.load Tryz.isAgg3 rfl ((hw1.blk hab (fun h => h)).cells 0 _ rfl)) (Da [5, 6, 7] (by kernel_rfl) rfl (by omega) (WD.mem0 8 rfl (by kernel_rfl) rfl rfl (M.store Tryz.sizeOf3 rfl rfl rfl rfl (hD.blk hBg (fun h => h)) (by rw [hfl]; show 0 + (i : Int).toNat * 4 + 2 < _; omega)) ?_)))))
 rintro wf ⟨_, hBf, hkf⟩
 refine ⟨fun h => absurd (List.mem_singleton.2 rfl) h, ?_⟩
 rw [show 0 + (i : Int).toNat * 4 + _ = i * 4 + (if false then 3 else 2) by simp, hset] at hBf
 have hK : KT bty W0 w wf := Keep.trans (KT.of_ext hD) hkf (fun q hq h => by have h : q = g := h; subst h; exact Wr.mk (hb.far _ rfl) hBg bty2)
 refine G.done (by kernel_rfl) ?_ _
 refine G.end0 Tryz.results160 ⟨_, rfl, ⟨hkf.blk (hD.blk hB (fun h => h)) (fun h => hgB h.symm), ?_, hb.low, hb.far⟩, hK⟩
 have h := own_shut encN_len (k := b.nodes.length) hBf (by rw [List.length_append, flat_len encN_len, setE_len]; omega) (by rw [setE_len]; exact Nat.le_refl _) hnc hcm
 rw [List.take_of_length_le (by rw [setE_len]; exact Nat.le_refl _)] at h
 rw [setE_len]; exact h
theorem other_ok' (W0 B bb ab i : Nat) (to : Int) (b : Bd) (v : Value) (w : World) (hb : BdS W0 B w b v) (hbb : Blk w bb [.pointer (some ⟨B, 0, none⟩)] 162) (hab : Blk w ab [.int .i64 (i : Nat)] 3) (hi : i < b.nodes.length) :
  Calls Tryz.prog 220 #[.int .i64 to, .pointer (some ⟨bb, 0, none⟩), .pointer (some ⟨ab, 0, none⟩)] w (Ret fun _ w' => BdS W0 B w' { b with nodes := setE b.nodes to (i, true) } v ∧ KT bty W0 w w') := by
 obtain ⟨g, cap, sp, rfl, _, hnc, hcm, hBg, hlen⟩ := own_open encN_len (by decide) hb.row (by intro h; rw [h] at hi; simp at hi)
 have hB := hb.blk
 have hll := flat_len encN_len b.nodes
 have hfl : (b.nodes.flatMap encN ++ sp).length = b.nodes.length * 4 + sp.length := by rw [List.length_append, hll]
 have hgB := hb.ne rfl
 have hset := set_node b.nodes i hi sp to true
 refine G.in3 Tryz.func220 rfl Tryz.ntmps220 rfl (Dw (fun q => Ext w q) [8] (fun wd1 hD _ => ?_))
 refine WD.take 0 rfl (by kernel_rfl) rfl rfl rfl hD (fun w1 hw1 => R.load Tryz.isAgg162 rfl ((hw1.blk hbb (fun h => h)).cells 0 _ rfl)) (Ds [1, 2] (by kernel_rfl) rfl (WD.take 3 rfl (by kernel_rfl) rfl rfl rfl hD (fun w1 hw1 => R.load Tryz.isAgg29 rfl ((hw1.blk hB (fun h => h)).cells 0 _ rfl)) (WD.take 4 rfl (by kernel_rfl) rfl rfl rfl hD (fun w1 hw1 => R.load Tryz.isAgg3 rfl ((hw1.blk hab (fun h => h)).cells 0 _ rfl)) (Da [5, 6, 7] (by kernel_rfl) rfl (by omega) (WD.mem0 8 rfl (by kernel_rfl) rfl rfl (M.store Tryz.sizeOf3 rfl rfl rfl rfl (hD.blk hBg (fun h => h)) (by rw [hfl]; show 0 + (i : Int).toNat * 4 + 3 < _; omega)) ?_)))))
 rintro wf ⟨_, hBf, hkf⟩
 refine ⟨fun h => absurd (List.mem_singleton.2 rfl) h, ?_⟩
 rw [show 0 + (i : Int).toNat * 4 + _ = i * 4 + (if true then 3 else 2) by simp, hset] at hBf
 have hK : KT bty W0 w wf := Keep.trans (KT.of_ext hD) hkf (fun q hq h => by have h : q = g := h; subst h; exact Wr.mk (hb.far _ rfl) hBg bty2)
 refine G.done (by kernel_rfl) ?_ _
 refine G.end0 Tryz.results220 ⟨_, rfl, ⟨hkf.blk (hD.blk hB (fun h => h)) (fun h => hgB h.symm), ?_, hb.low, hb.far⟩, hK⟩
 have h := own_shut encN_len (k := b.nodes.length) hBf (by rw [List.length_append, flat_len encN_len, setE_len]; omega) (by rw [setE_len]; exact Nat.le_refl _) hnc hcm
 rw [List.take_of_length_le (by rw [setE_len]; exact Nat.le_refl _)] at h
 rw [setE_len]; exact h
theorem add_ok (W0 B : Nat) (kind : Int) (b : Bd) (v : Value) (w : World) (hb : BdS W0 B w b v) (hW : W0 ≤ w.heap.size) (hsz : b.nodes.length ≤ 100000) :
  Calls Tryz.prog 203 #[.pointer (some ⟨B, 0, none⟩), .int .i64 kind] w (Ret fun _ w' => (∃ v', BdS W0 B w' { b with nodes := b.nodes ++ [⟨kind, b.step, -1, -1⟩] } v') ∧ KT bty W0 w w') := by
 have hB := hb.blk
 refine G.in2 Tryz.func203 rfl Tryz.ntmps203 rfl (Dw (fun q => Blk q B [v, .int .i64 b.step] 164) [15] (fun wd hD _ => ?_))
 have hb1 := hb.ext hD
 refine Ds [0, 1, 2, 3] (by kernel_rfl) rfl (WD.take 4 rfl (by kernel_rfl) rfl rfl rfl hb1.blk (fun w1 hw1 => R.load Tryz.isAgg29 rfl (hw1.cells 0 _ rfl)) (Ds [5, 6, 7, 8] (by kernel_rfl) rfl (WD.take 9 rfl (by kernel_rfl) rfl rfl rfl hb1.blk (fun w1 hw1 => R.load Tryz.isAgg3 rfl (hw1.cells 1 _ rfl)) (WD.takeW 10 rfl (by kernel_rfl) rfl rfl rfl (fun w1 => R.build (v := .agg #[.int .i64 kind, .int .i64 b.step, .int .i64 (-1), .int .i64 (-1)]) [(0, _), (1, _), (2, _), (3, _)] rfl (fun _ => by kernel_rfl)) (WD.mem 11 rfl (by kernel_rfl) rfl rfl rfl (M.buildSlice (cs := encN ⟨kind, b.step, -1, -1⟩) [(0, _)] Tryz.runUnderlying29 Tryz.sizeOf40 Tryz.zeroValue40 (by decide) rfl (by kernel_rfl)) ?_)))))
 rintro _ w2 ⟨b2, rfl, hb2, hs2, hB2, hk2⟩
 have hb3 := hb1.ext hk2
 refine ⟨fun _ => hb3.blk, ?_⟩
 refine WD.mem 12 rfl (by kernel_rfl) rfl rfl rfl (M.append Tryz.underlying29 Tryz.el40 rfl (by decide) rfl rfl hb3.row rfl (Cells.add hB2.cells) (encN_one _) (by omega) (by omega)) ?_
 rintro v' w3 ⟨hown, hfr, hk3, _⟩
 have hBB := hk3.blk hb3.blk (fun h => hb3.ne h rfl)
 refine ⟨fun _ => hBB, ?_⟩
 refine Ds [13, 14] (by kernel_rfl) rfl ?_
 obtain ⟨av, cv, rfl⟩ := own_form hown
 refine WD.mem0 15 rfl (by kernel_rfl) rfl rfl (M.store Tryz.sizeOf29 rfl rfl rfl rfl hBB (by simp)) ?_
 rintro wf ⟨_, hBf, hkf⟩
 refine ⟨fun h => absurd (List.mem_singleton.2 rfl) h, ?_⟩
 have hsz1 := hD.size
 have hfar : ∀ g, Value.ownBlock (.slice av (b.nodes.length + 1) cv) = some g → W0 ≤ g ∧ g ≠ B := by
  intro g hg
  rcases hfr with h | ⟨g', h1, h2⟩
  · exact ⟨hb.far g (by rw [← h]; exact hg), hb3.ne (by rw [← h]; exact hg)⟩
  ·
   rw [h1] at hg; cases hg
   have := hb3.blk.lt
   exact ⟨by omega, by omega⟩
 refine G.done (by kernel_rfl) ?_ _
 refine G.end0 Tryz.results203 ⟨_, rfl, ⟨.slice av (b.nodes.length + 1) cv, hBf, ?_, hb.low, fun g hg => (hfar g hg).1⟩, ?_⟩
 ·
  have h := own_keep hown hkf (fun g hg h => (hfar g hg).2 h)
  rw [List.length_append, List.flatMap_append]
  simpa using h
 · exact KT.trans (KT.trans (KT.of_ext (hD.ext hk2)) (KT.row hb3.row bty2 hb3.far hk3)) (hkf.mono (fun q hq h => by have h : q = B := h; subst h; exact Wr.mk hb.low hBB bty1))
theorem hang_ok (W0 B i : Nat) (p : Bool) (to : Int) (b : Bd) (v x : Value) (w : World) (hb : BdS W0 B w b v) (hx : HC B w (i, p) x) (hi : i < b.nodes.length) :
  ∃ f, ∃ cs : List Value, x = .func (.func f) #[] cs.toArray ∧ (∀ args w, (callFunc f args).run Tryz.prog w = .ok (.enter f args) w) ∧ Calls Tryz.prog f (([] : List Value) ++ [Value.int .i64 to] ++ cs).toArray w (Ret fun _ w' => BdS W0 B w' { b with nodes := setE b.nodes to (i, p) } v ∧ KT bty W0 w w') := by
 obtain ⟨bb, ab, rfl, h1, h2⟩ := hx
 cases p
 · exact ⟨_, [_, _], rfl, Tryz.call160, next_ok' W0 B bb ab i to b v w hb h1 h2 hi⟩
 · exact ⟨_, [_, _], rfl, Tryz.call220, other_ok' W0 B bb ab i to b v w hb h1 h2 hi⟩
theorem BdS.bump {W0 B : Nat} {w w' : World} {b : Bd} {v : Value} (h : BdS W0 B w b v) (hw : Wrote w B [v, .int .i64 ((b.step : Int) + 1)] 164 w') : BdS W0 B w' { b with step := b.step + 1 } v ∧ KT bty W0 w w' :=
 ⟨⟨hw.2.1, own_keep h.row hw.2.2 (fun _ hg he => h.ne hg he), h.low, h.far⟩, KT.wrote h.blk bty1 h.low hw⟩
theorem Hung.lit {B : Nat} {w : World} {g : Nat} {x : Value} {e : Hang} (hb : Blk w g [x] 167) (hx : HC B w e x) : Hung B w (.slice (some ⟨g, 0, none⟩) 1 1) [e] :=
 ⟨[x], own_blk (k := 1) (n := 1) (cap := 1) hb (Nat.le_refl _) (by decide) rfl, fun i e' x' he hx' => by
  cases i with
  | zero => simp at he hx'; subst he; subst hx'; exact hx
  | succ i => simp at he⟩
theorem Hung.len {B : Nat} {w : World} {v : Value} {es : List Hang} (h : Hung B w v es) : es.length ≤ 9223372036854775807 := by
 obtain ⟨xs, h1, _⟩ := h
 obtain ⟨_, _, _, h2, h3⟩ := own_slice h1
 omega
theorem one_hang (s : St) (h1 : ∀ b ins, (listB s.thn b ins).2.length ≤ max ins.length 1 + widL s.thn) (h2 : ∀ b ins, (listB s.els b ins).2.length ≤ max ins.length 1 + widL s.els) (a : Nat) (b : Bd) : (s.one a b).2.length ≤ 1 + s.wid := by
 rw [s.one_eq]
 have hw := s.wid_eq
 split
 ·
  dsimp only
  rw [List.length_append]
  have e1 := h1 { nodes := b.nodes ++ [⟨3, b.step, -1, -1⟩], step := b.step + 1 } [(a, false)]
  have e2 := h2 (listB s.thn { nodes := b.nodes ++ [⟨3, b.step, -1, -1⟩], step := b.step + 1 } [(a, false)]).1 [(a, true)]
  simp only [List.length_singleton] at e1 e2
  omega
 · split <;> simp
theorem list_hang (l : List St) : ∀ b ins, (listB l b ins).2.length ≤ max ins.length 1 + widL l := by
 induction l using Sts.ind with
 | h l ih =>
 have key : ∀ r : List St, (∀ x ∈ r, x ∈ l) → ∀ b ins, (listB r b ins).2.length ≤ max ins.length 1 + widL r := by
  intro r
  induction r with
  | nil => intro _ b ins; rw [listB]; dsimp only; omega
  | cons s r ihr =>
   intro hm b ins
   have h1 := one_hang s (ih s (hm s (List.mem_cons_self ..))).1 (ih s (hm s (List.mem_cons_self ..))).2 b.nodes.length { b with nodes := setAll b.nodes b.nodes.length ins }
   rw [listB_cons]
   have h2 := ihr (fun y hy => hm y (List.mem_cons_of_mem _ hy)) (s.one b.nodes.length { b with nodes := setAll b.nodes b.nodes.length ins }).1 (s.one b.nodes.length { b with nodes := setAll b.nodes b.nodes.length ins }).2
   simp only [widL]
   omega
 exact key l (fun x h => h)
theorem setAll_take {ns : List Nd} {to : Int} {es : List Hang} {i : Nat} {e : Hang} (h : es[i]? = some e) : setAll ns to (es.take (i + 1)) = setE (setAll ns to (es.take i)) to e := by rw [take_get h, setAll_append]; rfl
def ListOk (l : List St) : Prop := ∀ (W0 B : Nat) (v vin : Value) (D : Nat → Prop) (w : World) (b : Bd) (nv : Value) (ins : List Hang), SlR 10 RSt D w v l → (∀ q, D q → q < W0) → BdS W0 B w b nv → Hung B w vin ins → (∀ e ∈ ins, e.1 < b.nodes.length) → W0 ≤ w.heap.size →
 plainL l = true → b.nodes.length + widL l ≤ 100000 → b.step + ssize l ≤ 100000 →
 Calls Tryz.prog 106 #[.pointer (some ⟨B, 0, none⟩), v, vin] w (Ret fun r w' => (∃ nv', BdS W0 B w' (listB l b ins).1 nv') ∧ Hung B w' r (listB l b ins).2 ∧ (r.ownBlock = vin.ownBlock ∨ ∃ g, r.ownBlock = some g ∧ w.heap.size ≤ g) ∧ KT bty W0 w w')
theorem one_ok (s : St) (h1 : ListOk s.thn) (h2 : ListOk s.els) (W0 B : Nat) (cs : List Value) (D : Nat → Prop) (w : World) (b : Bd) (nv : Value) (hs : RSt D w s cs) (hD : ∀ q, D q → q < W0) (hb : BdS W0 B w b nv) (hW : W0 ≤ w.heap.size) (hp : s.plainB = true)
  (hn : b.nodes.length + s.wid ≤ 100000) (hst : b.step + s.size ≤ 100000) :
  Calls Tryz.prog 159 #[.pointer (some ⟨B, 0, none⟩), .agg cs.toArray, .int .i64 b.nodes.length] w (Ret fun r w' => (∃ nv', BdS W0 B w' (s.one b.nodes.length b).1 nv') ∧ Hung B w' r (s.one b.nodes.length b).2 ∧ (∃ g, r.ownBlock = some g ∧ w.heap.size ≤ g) ∧ KT bty W0 w w') := by
 have hs1 := hs.one
 obtain ⟨v1, v2, v3, v4, rfl, hk, ht, he, hbs⟩ := hs.get
 have hw := s.wid_eq
 have hz := s.size_eq
 have hp2 := hp
 rw [s.plainB_eq, Bool.and_eq_true, Bool.and_eq_true] at hp2
 have hwl := hW
 refine G.in3 Tryz.func159 rfl Tryz.ntmps159 rfl (Gs 2 rfl (G.mem rfl rfl (M.box rfl rfl) ?_))
 rintro _ w1 ⟨c, rfl, hc, hs1', hBc, hk1⟩
 replace hb := hb.ext hk1
 have hE1 : KT bty W0 w w1 := KT.of_ext hk1
 refine Gs 7 rfl (G.ld rfl Tryz.isAgg80 (hBc.cells 0 _ rfl) (Gs 9 rfl (G.ite rfl (fun a3 => ?_) (fun a3 => ?_))))
 ·
  rw [s.one_eq, if_pos a3]
  rw [if_neg (show ¬ s.act = 4 by omega)] at hw
  refine Gs 3 rfl (G.call rfl Tryz.call203 (add_ok W0 B 3 b nv w1 hb (by have := hk1.size; omega) (by omega)) ?_)
  rintro _ w2 ⟨⟨nv2, hb2⟩, hK2⟩
  have hE2 := hE1.trans hK2
  have hBc2 := hK2.blk hBc (by decide)
  refine Gs 7 rfl (G.ld rfl Tryz.isAgg3 (hb2.blk.cells 1 (.int .i64 b.step) rfl) (Ga 3 rfl (by omega) (G.mem0 rfl (M.store Tryz.sizeOf3 rfl rfl rfl rfl hb2.blk (by simp)) ?_)))
  rintro w3 hw3
  obtain ⟨hb3, hK3⟩ := hb2.bump hw3
  have hE3 := hE2.trans hK3
  have hBc3 := hK3.blk hBc2 (by decide)
  refine Gs 3 rfl (Dw (fun q => Blk q c [.int .i64 s.act, .int .i64 s.cost, .int .i64 s.var, .int .i64 s.n, .int .i64 s.term.op, .int .i64 s.term.n, v1, v2, v3, v4] 86) [] (fun w4 hk4 _ => ?_))
  have hBc4 := hk4.blk hBc3 (fun h => h)
  have hb4 := hb3.ext hk4
  have hE4 := hE3.ext' hk4
  refine Ds [0, 1] (by kernel_rfl) rfl (WD.take 2 rfl (by kernel_rfl) rfl rfl rfl hBc4 (fun w1 hw1 => R.load Tryz.isAgg24 rfl (hw1.cells 7 _ rfl)) (Ds [3, 4] (by kernel_rfl) rfl (WD.call 5 rfl (by kernel_rfl) rfl rfl rfl (F.call (vs := [_, _]) Tryz.call107 rfl) (next_ok B b.nodes.length w4) ?_)))
  rintro x w5 ⟨hx, hk5⟩
  have hBc5 := hk5.blk hBc4 (fun h => h)
  have hb5 := hb4.ext hk5
  have hE5 := hE4.ext' hk5
  refine ⟨fun _ => hBc5, ?_⟩
  have hx0 := hx
  obtain ⟨bb, ab, rfl, _, _⟩ := hx
  refine WD.mem 6 rfl (by kernel_rfl) rfl rfl rfl (M.buildSlice (cs := [.func (.func 160) #[] #[.pointer (some ⟨bb, 0, none⟩), .pointer (some ⟨ab, 0, none⟩)]]) [(0, _)] Tryz.runUnderlying165 Tryz.sizeOf167 Tryz.zeroValue167 (by decide) rfl (by kernel_rfl)) ?_
  rintro _ w6 ⟨g6, rfl, hg6, hs6, hB6, hk6⟩
  have hBc6 := hk6.blk hBc5 (fun h => h)
  have hb6 := hb5.ext hk6
  have hE6 := hE5.ext' hk6
  refine ⟨fun _ => hBc6, ?_⟩
  have hu6 := Hung.lit hB6 (hx0.ext hk6)
  have hsz6 := hE6.size
  refine WD.call 7 rfl (by kernel_rfl) rfl rfl rfl (F.call (vs := [_, _, _]) Tryz.call106 rfl) (h1 W0 B _ _ D w6 _ _ _ (hE6.sl stable_st ht hD) hD hb6 hu6 (by simp) (by omega) hp2.1.2 (by simp; omega) (by dsimp only; omega)) ?_
  rintro r7 w7 ⟨⟨nv7, hb7⟩, hu7, hf7, hK7⟩
  have hBc7 := hK7.blk hBc6 (by decide)
  have hE7 := hE6.trans hK7
  refine ⟨fun _ => hBc7, ?_⟩
  have hl7 := list_built s.thn hp2.1.2 { nodes := b.nodes ++ [⟨3, b.step, -1, -1⟩], step := b.step + 1 } [(b.nodes.length, false)] (by simp)
  have hh7 := list_hang s.thn { nodes := b.nodes ++ [⟨3, b.step, -1, -1⟩], step := b.step + 1 } [(b.nodes.length, false)]
  simp only [List.length_singleton] at hh7
  generalize hX : listB s.thn { nodes := b.nodes ++ [⟨3, b.step, -1, -1⟩], step := b.step + 1 } [(b.nodes.length, false)] = X at hb7 hu7 hl7 hh7 ⊢
  have hlen7 := hl7.len
  have hstep7 := hl7.step
  simp only [List.length_append, List.length_singleton] at hlen7 hstep7
  have hr7 : ∃ g, r7.ownBlock = some g ∧ w.heap.size ≤ g := by
   have := hE5.size
   rcases hf7 with h | ⟨g, h, h'⟩
   · exact ⟨g6, by rw [h]; rfl, by omega⟩
   · exact ⟨g, h, by omega⟩
  refine Ds [8] (by kernel_rfl) rfl (G.done (by kernel_rfl) ?_ _)
  refine Gs 2 rfl (Dw (fun q => Blk q c [.int .i64 s.act, .int .i64 s.cost, .int .i64 s.var, .int .i64 s.n, .int .i64 s.term.op, .int .i64 s.term.n, v1, v2, v3, v4] 86) [] (fun x4 yk4 _ => ?_))
  have yBc4 := yk4.blk hBc7 (fun h => h)
  have yb4 := hb7.ext yk4
  have yu4 := hu7.ext yk4
  have yE4 := hE7.ext' yk4
  refine Ds [0, 1, 2] (by kernel_rfl) rfl (WD.take 3 rfl (by kernel_rfl) rfl rfl rfl yBc4 (fun w1 hw1 => R.load Tryz.isAgg24 rfl (hw1.cells 8 _ rfl)) (Ds [4, 5] (by kernel_rfl) rfl (WD.call 6 rfl (by kernel_rfl) rfl rfl rfl (F.call (vs := [_, _]) Tryz.call204 rfl) (other_ok B b.nodes.length x4) ?_)))
  rintro x x5 ⟨hx, yk5⟩
  have yBc5 := yk5.blk yBc4 (fun h => h)
  have yb5 := yb4.ext yk5
  have yu5 := yu4.ext yk5
  have yE5 := yE4.ext' yk5
  refine ⟨fun _ => yBc5, ?_⟩
  have hx0 := hx
  obtain ⟨bb, ab, rfl, _, _⟩ := hx
  refine WD.mem 7 rfl (by kernel_rfl) rfl rfl rfl (M.buildSlice (cs := [.func (.func 220) #[] #[.pointer (some ⟨bb, 0, none⟩), .pointer (some ⟨ab, 0, none⟩)]]) [(0, _)] Tryz.runUnderlying165 Tryz.sizeOf167 Tryz.zeroValue167 (by decide) rfl (by kernel_rfl)) ?_
  rintro _ x6 ⟨g6', rfl, yg6, ys6, yB6, yk6⟩
  have yBc6 := yk6.blk yBc5 (fun h => h)
  have yb6 := yb5.ext yk6
  have yu6 := yu5.ext yk6
  have yE6 := yE5.ext' yk6
  refine ⟨fun _ => yBc6, ?_⟩
  have zu6 := Hung.lit yB6 (hx0.ext yk6)
  have ysz6 := yE6.size
  refine WD.call 8 rfl (by kernel_rfl) rfl rfl rfl (F.call (vs := [_, _, _]) Tryz.call106 rfl) (h2 W0 B _ _ D x6 _ _ _ (yE6.sl stable_st he hD) hD yb6 zu6 (by intro e he; rw [List.mem_singleton.1 he]; dsimp only; omega) (by omega) hp2.2 (by omega) (by omega)) ?_
  rintro r8 x7 ⟨⟨nv8, yb7⟩, yu7, yf7, yK7⟩
  have yBc7 := yK7.blk yBc6 (by decide)
  have yE7 := yE6.trans yK7
  have zu7 := yu6.kt yK7
  refine ⟨fun _ => yBc7, ?_⟩
  have hh8 := list_hang s.els X.1 [(b.nodes.length, true)]
  simp only [List.length_singleton] at hh8
  generalize listB s.els X.1 [(b.nodes.length, true)] = Y at yb7 yu7 hh8 ⊢
  obtain ⟨xs7, ho7, hat7⟩ := zu7
  obtain ⟨xs8, ho8, hat8⟩ := yu7
  have h1c : ∀ u ∈ xs8, u.oneCell' = true := by
   intro u hu
   obtain ⟨i, hi⟩ := List.mem_iff_getElem?.1 hu
   have hlt := (List.getElem?_eq_some_iff.1 hi).1
   have h8 := ho8.1
   exact (hat8 i Y.2[i] u (List.getElem?_eq_getElem (by omega)) hi).one
  refine WD.mem 9 rfl (by kernel_rfl) rfl rfl rfl (M.appendO Tryz.underlying165 Tryz.el167 rfl (by decide) rfl rfl ho7 ho8 h1c (by omega) (by omega)) ?_
  rintro u x8 ⟨hou, hfu, yk8⟩
  have hfr8 : ∀ k, r7.ownBlock = some k → w.heap.size ≤ k := by
   intro k hk
   obtain ⟨g, h, h'⟩ := hr7
   rw [h] at hk; cases hk; exact h'
  have yE8 : KT bty W0 w x8 := yE7.new yk8 hfr8
  have hbl8 : ∀ k cs e, Blk x7 k cs e → e ≠ 167 → Blk x8 k cs e := fun k cs e hb hne => yk8.blk hb (fun h => by
   obtain ⟨cs', hb'⟩ := own_blkty ho7 h
   exact hne (hb.ty hb').1)
  refine ⟨fun _ => hbl8 _ _ _ yBc7 (by decide), ?_⟩
  refine Ds [10] (by kernel_rfl) rfl (G.done (by kernel_rfl) ?_ _)
  refine Gs 4 rfl ?_
  refine G.ret1 Tryz.results159 rfl ⟨_, rfl, ⟨nv8, hbl8 _ _ _ yb7.blk (by decide), own_keep yb7.row yk8 (fun g hg h => by
    obtain ⟨cs', hb'⟩ := own_blkty ho7 h
    obtain ⟨cs2, hb2⟩ := own_blkty yb7.row hg
    exact absurd (hb2.ty hb').1 (by decide)), yb7.low, yb7.far⟩, ⟨xs7 ++ xs8, by rw [List.length_append]; exact hou, ?_⟩, ?_, yE8⟩
  ·
   have hcc : ∀ e x, HC B x7 e x → HC B x8 e x := by
    rintro e x ⟨bb, ab, q1, q2, q3⟩
    exact ⟨bb, ab, q1, hbl8 _ _ _ q2 (by decide), hbl8 _ _ _ q3 (by decide)⟩
   intro i e x he' hx'
   have hl1 := ho7.1
   by_cases hi : i < X.2.length
   ·
    rw [List.getElem?_append_left hi] at he'
    rw [List.getElem?_append_left (by omega)] at hx'
    exact hcc _ _ (hat7 i e x he' hx')
   ·
    rw [List.getElem?_append_right (by omega)] at he'
    rw [List.getElem?_append_right (by omega), show i - xs7.length = i - X.2.length by omega] at hx'
    exact hcc _ _ (hat8 _ e x he' hx')
  ·
   rcases hfu with h | ⟨g, h, h'⟩
   ·
    obtain ⟨g, q1, q2⟩ := hr7
    exact ⟨g, by rw [h]; exact q1, q2⟩
   ·
    have := yE7.size
    exact ⟨g, h, by omega⟩
 ·
  rw [s.one_eq, if_neg a3]
  refine Gs 6 rfl (G.ite rfl (fun a4 => ?_) (fun a4 => ?_))
  ·
   rw [if_pos a4]
   rw [if_pos a4] at hw
   rw [if_neg a3, if_pos a4] at hp2
   refine Gs 3 rfl (G.call rfl Tryz.call203 (add_ok W0 B 4 b nv w1 hb (by have := hk1.size; omega) (by omega)) ?_)
   rintro _ w2 ⟨⟨nv2, hb2⟩, hK2⟩
   have hE2 := hE1.trans hK2
   have hBc2 := hK2.blk hBc (by decide)
   refine Gs 5 rfl (G.call rfl Tryz.call203 (add_ok W0 B 5 _ nv2 w2 hb2 (by have := hE2.size; omega) (by simp; omega)) ?_)
   rintro _ w3 ⟨⟨nv3, hb3⟩, hK3⟩
   have hE3 := hE2.trans hK3
   have hBc3 := hK3.blk hBc2 (by decide)
   dsimp only at hb3
   rw [List.append_assoc, List.singleton_append] at hb3
   refine Gs 7 rfl (G.ld rfl Tryz.isAgg3 (hb3.blk.cells 1 (.int .i64 b.step) rfl) (Ga 3 rfl (by omega) (G.mem0 rfl (M.store Tryz.sizeOf3 rfl rfl rfl rfl hb3.blk (by simp)) ?_)))
   rintro w4 hw4
   obtain ⟨hb4, hK4⟩ := hb3.bump hw4
   dsimp only at hb4
   have hE4 := hE3.trans hK4
   have hBc4 := hK4.blk hBc3 (by decide)
   obtain ⟨g, cap, sp, rfl, _, hnc, hcm, hBg, hlen⟩ := own_open encN_len (by decide) hb4.row (by simp)
   have hlx : (b.nodes ++ [⟨4, b.step, -1, -1⟩, ⟨5, b.step, -1, -1⟩] : List Nd).length = b.nodes.length + 2 := by simp
   have hfl : ((b.nodes ++ [⟨4, b.step, -1, -1⟩, ⟨5, b.step, -1, -1⟩] : List Nd).flatMap encN ++ sp).length = (b.nodes.length + 2) * 4 + sp.length := by rw [List.length_append, flat_len encN_len, hlx]
   have hset := set_node (b.nodes ++ [⟨4, b.step, -1, -1⟩, ⟨5, b.step, -1, -1⟩]) b.nodes.length (by omega) sp (b.nodes.length + 1 : Nat) false
   refine Gs 7 rfl (G.ld rfl Tryz.isAgg29 (hb4.blk.cells 0 _ rfl) (Ga 3 rfl (by omega) (G.ops1 rfl rfl (R.indexS Tryz.runUnderlying29 Tryz.sizeOf40 rfl rfl rfl (by simp; omega)) (Gs 1 rfl (G.mem0 rfl (M.store Tryz.sizeOf3 rfl rfl rfl rfl hBg (by rw [hfl]; show 0 + (b.nodes.length : Int).toNat * 4 + 2 < _; omega)) ?_)))))
   rintro w5 ⟨_, hBf, hkf⟩
   have e5 : 0 + (b.nodes.length : Int).toNat * 4 + 2 = b.nodes.length * 4 + (if false then 3 else 2) := by simp
   have hBf' : Blk w5 g (((b.nodes ++ [⟨4, b.step, -1, -1⟩, ⟨5, b.step, -1, -1⟩] : List Nd).flatMap encN ++ sp).set (0 + (b.nodes.length : Int).toNat * 4 + 2) (.int .i64 (b.nodes.length + 1 : Nat))) 40 := hBf
   rw [e5, hset] at hBf'
   have hK5 : KT bty W0 w4 w5 := KT.wrote hBg bty2 (hb4.far _ rfl) ⟨‹_›, hBf, hkf⟩
   have hE5 := hE4.trans hK5
   have hBc5 := hK5.blk hBc4 (by decide)
   have hgB := hb4.ne rfl
   have hb5 : BdS W0 B w5 { nodes := setE (b.nodes ++ [⟨4, b.step, -1, -1⟩, ⟨5, b.step, -1, -1⟩]) (b.nodes.length + 1 : Nat) (b.nodes.length, false), step := b.step + 1 } (.slice (some ⟨g, 0, none⟩) (b.nodes ++ [⟨4, b.step, -1, -1⟩, ⟨5, b.step, -1, -1⟩] : List Nd).length cap) := by
    refine ⟨hkf.blk hb4.blk (fun h => hgB h.symm), ?_, hb4.low, hb4.far⟩
    have h := own_shut encN_len (k := (b.nodes ++ [⟨4, b.step, -1, -1⟩, ⟨5, b.step, -1, -1⟩] : List Nd).length) hBf' (by rw [List.length_append, flat_len encN_len, setE_len, hlx]; exact hfl.symm.trans hlen) (by rw [setE_len]; exact Nat.le_refl _) hnc hcm
    rw [List.take_of_length_le (by rw [setE_len]; exact Nat.le_refl _)] at h
    dsimp only
    rw [setE_len]; exact h
   refine Gs 4 rfl (Dw (fun q => Blk q c [.int .i64 s.act, .int .i64 s.cost, .int .i64 s.var, .int .i64 s.n, .int .i64 s.term.op, .int .i64 s.term.n, v1, v2, v3, v4] 86) [] (fun w6 hk6 _ => ?_))
   have hBc6 := hk6.blk hBc5 (fun h => h)
   have hb6 := hb5.ext hk6
   have hE6 := hE5.ext' hk6
   refine Ds [0, 1] (by kernel_rfl) rfl (WD.take 2 rfl (by kernel_rfl) rfl rfl rfl hBc6 (fun w1 hw1 => R.load Tryz.isAgg24 rfl (hw1.cells 7 _ rfl)) (Da [3, 4, 5, 10] (by kernel_rfl) rfl (by omega) (WD.call 6 rfl (by kernel_rfl) rfl rfl rfl (F.call (vs := [_, _]) Tryz.call107 rfl) (next_ok B (b.nodes.length + 1) w6) ?_)))
   rintro x w7 ⟨hx, hk7⟩
   have hBc7 := hk7.blk hBc6 (fun h => h)
   have hb7 := hb6.ext hk7
   have hE7 := hE6.ext' hk7
   refine ⟨fun _ => hBc7, ?_⟩
   have hx0 := hx
   obtain ⟨bb, ab, rfl, _, _⟩ := hx
   refine WD.mem 7 rfl (by kernel_rfl) rfl rfl rfl (M.buildSlice (cs := [.func (.func 160) #[] #[.pointer (some ⟨bb, 0, none⟩), .pointer (some ⟨ab, 0, none⟩)]]) [(0, _)] Tryz.runUnderlying165 Tryz.sizeOf167 Tryz.zeroValue167 (by decide) rfl (by kernel_rfl)) ?_
   rintro _ w8 ⟨g8, rfl, hg8, hs8, hB8, hk8⟩
   have hBc8 := hk8.blk hBc7 (fun h => h)
   have hb8 := hb7.ext hk8
   have hE8 := hE7.ext' hk8
   refine ⟨fun _ => hBc8, ?_⟩
   have hu8 := Hung.lit hB8 (hx0.ext hk8)
   have hsz8 := hE8.size
   refine WD.call 8 rfl (by kernel_rfl) rfl rfl rfl (F.call (vs := [_, _, _]) Tryz.call106 rfl) (h1 W0 B _ _ D w8 _ _ _ (hE8.sl stable_st ht hD) hD hb8 hu8 (by intro e he; rw [List.mem_singleton.1 he]; dsimp only; rw [setE_len, hlx]; omega) (by omega) hp2.1.2 (by dsimp only; rw [setE_len, hlx]; omega) (by dsimp only; omega)) ?_
   rintro r9 w9 ⟨⟨nv9, hb9⟩, hu9, hf9, hK9⟩
   have hBc9 := hK9.blk hBc8 (by decide)
   have hE9 := hE8.trans hK9
   refine ⟨fun _ => hBc9, ?_⟩
   have hl9 := list_built s.thn hp2.1.2 { nodes := setE (b.nodes ++ [⟨4, b.step, -1, -1⟩, ⟨5, b.step, -1, -1⟩]) (b.nodes.length + 1 : Nat) (b.nodes.length, false), step := b.step + 1 } [(b.nodes.length + 1, false)] (by intro e he; rw [List.mem_singleton.1 he]; dsimp only; rw [setE_len, hlx]; omega)
   generalize hX : listB s.thn { nodes := setE (b.nodes ++ [⟨4, b.step, -1, -1⟩, ⟨5, b.step, -1, -1⟩]) (b.nodes.length + 1 : Nat) (b.nodes.length, false), step := b.step + 1 } [(b.nodes.length + 1, false)] = X at hb9 hu9 hl9 ⊢
   obtain ⟨a9, c9, rfl, _⟩ := hu9.form
   have hlen9 := hl9.len
   have hlt9 := hl9.lt
   have hmx9 := hu9.len
   dsimp only at hlen9
   rw [setE_len, hlx] at hlen9
   refine Ds [9] (by kernel_rfl) rfl (G.done (by kernel_rfl) ?_ _)
   refine Gs 1 rfl (G.cut (σ := Unit) (fun u => [(0, .pointer (some ⟨B, 0, none⟩)), (2, .int .i64 b.nodes.length)]) (fun u => fun w' => (∃ nv', BdS W0 B w' { X.1 with nodes := setAll X.1.nodes (b.nodes.length + 1 : Nat) X.2 } nv') ∧ KT bty W0 w w') ?_ ?_)
   ·
    refine Gs 1 rfl (G.loop (σ := Nat) (fun j => [(0, .pointer (some ⟨B, 0, none⟩)), (2, .int .i64 b.nodes.length), (71, .slice a9 X.2.length c9), (72, .int .i64 X.2.length), (73, .int .i64 j)]) (fun j => fun w' => j ≤ X.2.length ∧ (∃ nv', BdS W0 B w' { X.1 with nodes := setAll X.1.nodes (b.nodes.length + 1 : Nat) (X.2.take j) } nv') ∧ Hung B w' (.slice a9 X.2.length c9) X.2 ∧ KT bty W0 w w') (fun j => X.2.length - j) (0) (Sub.of rfl) (⟨Nat.zero_le _, ⟨_, hb9⟩, hu9, hE9⟩) ?_)
    rintro j y1 ⟨hj, ⟨nvj, hbj⟩, huj, hEj⟩
    refine Gs 6 rfl (G.ite rfl (fun hlt => ?_) (fun hge => ?_))
    ·
     obtain ⟨e, he⟩ : ∃ e, X.2[j]? = some e := ⟨_, List.getElem?_eq_getElem (by omega)⟩
     obtain ⟨ge, x, rfl, hcx, hHx⟩ := huj.at he
     obtain ⟨ie, pe⟩ := e
     obtain ⟨f, fcs, rfl, hcf, hcall⟩ := hang_ok W0 B ie pe (b.nodes.length + 1 : Nat) _ _ x y1 hbj hHx (by dsimp only; rw [setAll_len]; exact hlt9 _ (List.mem_of_getElem? he))
     refine Ga 7 rfl (by omega) (G.ld rfl Tryz.isAgg167 (hcx 0 _ rfl) (Ga 7 rfl (by omega) (G.callV rfl hcf hcall ?_)))
     rintro _ y2 ⟨hb', hK'⟩
     refine Ga 7 rfl (by omega) (G.back (j + 1) (Sub.of rfl) (⟨by omega, ⟨nvj, by rw [setAll_take he]; exact hb'⟩, huj.kt hK', hEj.trans hK'⟩) (by first | omega | (dsimp only; omega)))
    ·
     have hjj : j = X.2.length := by omega
     subst hjj
     rw [List.take_length] at hbj
     refine Gs 4 rfl (G.meet (()) (Sub.of rfl) (⟨⟨nvj, hbj⟩, hEj⟩))
   ·
    rintro u y3 ⟨⟨nv3', yb3⟩, yE3⟩
    refine Ga 6 rfl (by omega) (G.call rfl Tryz.call204 (other_ok B (b.nodes.length + 1) y3) ?_)
    rintro x y4 ⟨hx, yk4⟩
    have hx0 := hx
    obtain ⟨bb, ab, rfl, _, _⟩ := hx
    refine G.mem rfl rfl (M.buildSlice (cs := [.func (.func 220) #[] #[.pointer (some ⟨bb, 0, none⟩), .pointer (some ⟨ab, 0, none⟩)]]) [(0, _)] Tryz.runUnderlying165 Tryz.sizeOf167 Tryz.zeroValue167 (by decide) rfl (by kernel_rfl)) ?_
    rintro _ y5 ⟨g5, rfl, yg5, ys5, yB5, yk5⟩
    have := yE3.size
    have := yk4.size
    refine Gs 6 rfl (G.ret1 Tryz.results159 rfl ⟨_, rfl, ⟨nv3', (yb3.ext yk4).ext yk5⟩, Hung.lit yB5 (hx0.ext yk5), ⟨g5, rfl, by omega⟩, (yE3.ext' yk4).ext' yk5⟩)
  ·
   rw [if_neg a4]
   rw [if_neg a4] at hw
   rw [if_neg a3, if_neg a4] at hp2
   refine Gs 6 rfl (G.call rfl Tryz.call203 (add_ok W0 B 2 b nv w1 hb (by have := hk1.size; omega) (by omega)) ?_)
   rintro _ w2 ⟨⟨nv2, hb2⟩, hK2⟩
   have hE2 := hE1.trans hK2
   refine Gs 7 rfl (G.ld rfl Tryz.isAgg3 (hb2.blk.cells 1 (.int .i64 b.step) rfl) (Ga 3 rfl (by omega) (G.mem0 rfl (M.store Tryz.sizeOf3 rfl rfl rfl rfl hb2.blk (by simp)) ?_)))
   rintro w3 hw3
   obtain ⟨hb3, hK3⟩ := hb2.bump hw3
   have hE3 := hE2.trans hK3
   refine Gs 6 rfl (G.call rfl Tryz.call107 (next_ok B b.nodes.length w3) ?_)
   rintro x w4 ⟨hx, hk4⟩
   have hx0 := hx
   obtain ⟨bb, ab, rfl, _, _⟩ := hx
   refine G.mem rfl rfl (M.buildSlice (cs := [.func (.func 160) #[] #[.pointer (some ⟨bb, 0, none⟩), .pointer (some ⟨ab, 0, none⟩)]]) [(0, _)] Tryz.runUnderlying165 Tryz.sizeOf167 Tryz.zeroValue167 (by decide) rfl (by kernel_rfl)) ?_
   rintro _ w5 ⟨g5, rfl, hg5, hs5, hB5, hk5⟩
   have := hE3.size
   have := hk4.size
   refine Gs 4 rfl (G.ret1 Tryz.results159 rfl ⟨_, rfl, ⟨nv2, (hb3.ext hk4).ext hk5⟩, Hung.lit hB5 (hx0.ext hk5), ⟨g5, rfl, by omega⟩, (hE3.ext' hk4).ext' hk5⟩)
theorem drop_cons {α : Type} {l : List α} {i : Nat} {x : α} (h : l[i]? = some x) : l.drop i = x :: l.drop (i + 1) := by
 obtain ⟨h1, h2⟩ := List.getElem?_eq_some_iff.1 h
 rw [← h2, List.getElem_cons_drop]
theorem list_ok (l : List St) : ListOk l := by
 induction l using Sts.ind with
 | h l ih =>
 intro W0 B v vin D w b nv ins hl hD hb hu hlt hW hp hn hst
 obtain ⟨av, cv, rfl⟩ := hl.form
 have hmx := hl.max
 refine G.in3 Tryz.func106 rfl Tryz.ntmps106 rfl (Gs 14 rfl (G.loop (σ := Nat × Value) (fun ⟨i, vi⟩ => [(0, .pointer (some ⟨B, 0, none⟩)), (2, vi), (12, .slice av l.length cv), (13, .int .i64 l.length), (14, .int .i64 i)]) (fun ⟨i, vi⟩ => fun w' => i ≤ l.length ∧ (∃ b' nv' ins', BdS W0 B w' b' nv' ∧ Hung B w' vi ins' ∧ (∀ e ∈ ins', e.1 < b'.nodes.length) ∧ listB (l.drop i) b' ins' = listB l b ins ∧ b'.nodes.length = b.nodes.length + widL (l.take i) ∧ b'.step = b.step + ssize (l.take i)) ∧ (vi.ownBlock = vin.ownBlock ∨ ∃ g, vi.ownBlock = some g ∧ w.heap.size ≤ g) ∧ KT bty W0 w w') (fun ⟨i, vi⟩ => l.length - i) ((0, vin)) (Sub.of rfl) (⟨Nat.zero_le _, ⟨b, nv, ins, hb, hu, hlt, rfl, by simp [widL], by simp [ssize]⟩, .inl rfl, KT.refl⟩) ?_))
 rintro ⟨i, vi⟩ w1 ⟨hi, ⟨b1, nv1, ins1, hb1, hu1, hlt1, hL1, hn1, hs1⟩, hf1, hE1⟩
 show G _ _ _ _ _ [(0, .pointer (some ⟨B, 0, none⟩)), (2, vi), (12, .slice av l.length cv), (13, .int .i64 l.length), (14, .int .i64 i)] _
 refine Gs 6 rfl (G.ite rfl (fun hlt' => ?_) (fun hge => ?_))
 ·
  obtain ⟨s, he⟩ : ∃ x, l[i]? = some x := ⟨_, List.getElem?_eq_getElem (by omega)⟩
  have hm := List.mem_of_getElem? he
  have hl1 := hE1.sl stable_st hl hD
  obtain ⟨bq, oq, cq, haq, hDq, hcl, hcq, hRq⟩ : ∃ b o cs, av = some ⟨b, o, none⟩ ∧ D b ∧ cs.length = 10 ∧ Cells w1 b (o + i * 10) cs ∧ RSt D w1 s cs := by
   obtain ⟨ao', cap', h1, h2, h3, h4⟩ := hl1
   cases h1
   exact h4 i s he
  have hone := hRq.one
  have hps := plainL_mem hp s hm
  have hws := widL_split he
  have hzs := ssize_split he
  obtain ⟨v1, v2, v3, v4, rfl, q1, q2, q3, q4⟩ := hRq.get
  refine Gs 6 rfl (G.ops1 rfl rfl (R.indexS Tryz.runUnderlying24 Tryz.sizeOf86 rfl rfl haq (by omega)) (G.ldK rfl Tryz.isAgg86 Tryz.sizeOf86 hcq rfl (G.mem rfl rfl (M.alloc (cs := _) Tryz.zeroValue86 rfl) ?_)))
  rintro _ w2 ⟨c, rfl, hc, hsc, hBc0, hk2⟩
  refine G.mem0 rfl (M.storeK Tryz.sizeOf86 rfl rfl rfl rfl hone hBc0 (by simp)) ?_
  rintro w3 ⟨_, hBc, hkc⟩
  have hk3 : Ext w1 w3 := hk2.trans hkc (fun q hq h => by have h : q = c := h; omega)
  have hE3 := hE1.ext' hk3
  replace hb1 := hb1.ext hk3
  replace hu1 := hu1.ext hk3
  obtain ⟨an, cn, rfl, hnc, _⟩ := own_slice hb1.row
  obtain ⟨a1, c1, rfl, _⟩ := hu1.form
  have hmx1 := hu1.len
  have hBc' : Blk w3 c [.int .i64 s.act, .int .i64 s.cost, .int .i64 s.var, .int .i64 s.n, .int .i64 s.term.op, .int .i64 s.term.n, v1, v2, v3, v4] 86 := hBc
  refine Gs 7 rfl (G.ld rfl Tryz.isAgg29 (hb1.blk.cells 0 _ rfl) (Gs 13 rfl (G.loop (σ := Nat) (fun j => [(0, .pointer (some ⟨B, 0, none⟩)), (8, .pointer (some ⟨c, 0, none⟩)), (9, .int .i64 b1.nodes.length), (12, .slice av l.length cv), (13, .int .i64 l.length), (14, .int .i64 i), (23, .slice a1 ins1.length c1), (24, .int .i64 ins1.length), (25, .int .i64 j)]) (fun j => fun w' => j ≤ ins1.length ∧ BdS W0 B w' { b1 with nodes := setAll b1.nodes b1.nodes.length (ins1.take j) } (.slice an b1.nodes.length cn) ∧ Hung B w' (.slice a1 ins1.length c1) ins1 ∧ Blk w' c [.int .i64 s.act, .int .i64 s.cost, .int .i64 s.var, .int .i64 s.n, .int .i64 s.term.op, .int .i64 s.term.n, v1, v2, v3, v4] 86 ∧ KT bty W0 w3 w') (fun j => ins1.length - j) (0) (Sub.of rfl) (⟨Nat.zero_le _, hb1, hu1, hBc', KT.refl⟩) ?_)))
  rintro j y1 ⟨hj, hbj, huj, hBj, hFj⟩
  have hEj := hE3.trans hFj
  refine Gs 6 rfl (G.ite rfl (fun hjl => ?_) (fun hjg => ?_))
  ·
   obtain ⟨e, hee⟩ : ∃ e, ins1[j]? = some e := ⟨_, List.getElem?_eq_getElem (by omega)⟩
   obtain ⟨ge, x, rfl, hcx, hHx⟩ := huj.at hee
   obtain ⟨ie, pe⟩ := e
   obtain ⟨f, fcs, rfl, hcf, hcall⟩ := hang_ok W0 B ie pe (b1.nodes.length : Nat) _ _ x y1 hbj hHx (by dsimp only; rw [setAll_len]; exact hlt1 _ (List.mem_of_getElem? hee))
   refine Ga 7 rfl (by omega) (G.ld rfl Tryz.isAgg167 (hcx 0 _ rfl) (Gs 6 rfl (G.callV rfl hcf hcall ?_)))
   rintro _ y2 ⟨hb', hK'⟩
   refine Ga 7 rfl (by omega) (G.back (j + 1) (Sub.of rfl) (⟨by omega, by rw [setAll_take hee]; exact hb', huj.kt hK', hK'.blk hBj (by decide), hFj.trans hK'⟩) (by first | omega | (dsimp only; omega)))
  ·
   have hjj : j = ins1.length := by omega
   subst hjj
   rw [List.take_length] at hbj
   have hszj := hEj.size
   have hone := one_ok s (ih s hm).1 (ih s hm).2 W0 B _ D y1 { b1 with nodes := setAll b1.nodes b1.nodes.length ins1 } _ (RSt.put (s := s) (hFj.sl stable_tm (q1.ext stable_tm hk3) hD) (hFj.sl stable_st (q2.ext stable_st hk3) hD) (hFj.sl stable_st (q3.ext stable_st hk3) hD) (hFj.sl stable_int (q4.ext stable_int hk3) hD)) hD hbj (by omega) hps (by dsimp only; rw [setAll_len]; omega) (by dsimp only; omega)
   have hbt := one_built s hps (fun b ins h => list_built s.thn (by rw [s.plainB_eq, Bool.and_eq_true, Bool.and_eq_true] at hps; exact hps.1.2) b ins h) (fun b ins h => list_built s.els (by rw [s.plainB_eq, Bool.and_eq_true, Bool.and_eq_true] at hps; exact hps.2) b ins h) { b1 with nodes := setAll b1.nodes b1.nodes.length ins1 }
   simp only [setAll_len] at hone hbt
   refine Gs 7 rfl (G.ldK rfl Tryz.isAgg86 Tryz.sizeOf86 hBj.cells rfl (Gs 1 rfl (G.call rfl Tryz.call159 hone ?_)))
   rintro r y2 ⟨⟨nv2, hb2⟩, hu2, ⟨g2, hg2, hg2'⟩, hK2⟩
   refine Ga 8 rfl (by omega) (G.back ((i + 1, r)) (Sub.of rfl) (⟨by omega, ⟨_, nv2, _, hb2, hu2, hbt.lt, ?_, ?_, ?_⟩, .inr ⟨g2, hg2, by omega⟩, hEj.trans hK2⟩) (by first | omega | (dsimp only; omega)))
   · rw [← hL1, drop_cons he, listB_cons]
   · have := hbt.len; dsimp only at this; rw [setAll_len] at this; rw [widL_take he]; omega
   · have := hbt.step; dsimp only at this; rw [ssize_take he]; omega
 ·
  have hii : i = l.length := by omega
  subst hii
  rw [List.drop_length, listB] at hL1
  refine Gs 12 rfl (G.ret1 Tryz.results106 rfl ⟨_, rfl, ⟨nv1, by rw [← hL1]; exact hb1⟩, by rw [← hL1]; exact hu1, hf1, hE1⟩)
theorem stepsLeft_ok (l : List St) : ∀ (v : Value) (D : Nat → Prop) (w : World) (left : Int), SlR 10 RSt D w v l → -10 ≤ left → left ≤ 1000000 → Calls Tryz.prog 57 #[v, .int .i64 left] w (Ret fun r w' => (∃ m : Int, r = .int .i64 m ∧ ((sbulk l : Int) ≤ left → m = left - sbulk l) ∧ (¬ (sbulk l : Int) ≤ left → m < 0 ∧ min left (-1) ≤ m)) ∧ Ext w w') := by
 induction l using Sts.ind with
 | h l ih =>
 intro v D w left hl h1 h2
 have hmx := hl.max
 obtain ⟨ao, cap, rfl⟩ := hl.form
 refine G.in2 Tryz.func57 rfl Tryz.ntmps57 rfl (Gs 12 rfl (G.loop (σ := Nat × Int) (fun ⟨i, x⟩ => [(0, .slice ao l.length cap), (1, .int .i64 x), (5, .int .i64 i)]) (fun ⟨i, x⟩ => fun w' => i ≤ l.length ∧ ((sbulk (l.take i) : Int) ≤ left → x = left - sbulk (l.take i)) ∧ (¬ (sbulk (l.take i) : Int) ≤ left → x < 0 ∧ min left (-1) ≤ x) ∧ Ext w w') (fun ⟨i, x⟩ => l.length - i) ((0, left)) (Sub.of rfl) (⟨Nat.zero_le _, fun _ => by simp [sbulk], fun h => by simp [sbulk] at h; omega, Keep.refl _ _⟩) ?_))
 rintro ⟨i, x⟩ w1 ⟨hi, hy, hn, hL1⟩
 show G _ _ _ _ _ [(0, .slice ao l.length cap), (1, .int .i64 x), (5, .int .i64 i)] _
 replace hl := Tr1 hL1 hl
 have hend : (i = l.length ∨ x < 0) → ((sbulk l : Int) ≤ left → x = left - sbulk l) ∧ (¬ (sbulk l : Int) ≤ left → x < 0 ∧ min left (-1) ≤ x) := by
  intro h
  have hle : sbulk (l.take i) ≤ sbulk l := by
   have := sbulk_append (l.take i) (l.drop i)
   rw [List.take_append_drop] at this
   omega
  rcases h with h | h
  ·
   rw [h, List.take_length] at hy hn
   exact ⟨hy, hn⟩
  ·
   constructor
   · intro h3; have := hy (by omega); omega
   ·
    intro h3
    by_cases h4 : (sbulk (l.take i) : Int) ≤ left
    · have := hy h4; omega
    · exact hn h4
 refine Gs 8 rfl (G.sp 10 rfl (fun hlt => ?_) (fun hlt => ?_))
 ·
  refine Gs 5 rfl (G.ite rfl (fun hx0 => ?_) (fun hx0 => ?_))
  ·
   obtain ⟨s, he_s⟩ : ∃ x, l[i]? = some x := ⟨_, List.getElem?_eq_getElem (by omega)⟩
   have hm_s := List.mem_of_getElem? he_s
   obtain ⟨b_s, o_s, c_s, ha_s, _, hc_s, hR_s⟩ := hl.at he_s
   have h1_s := RSt.one hR_s
   obtain ⟨v1_s, v2_s, v3_s, v4_s, rfl, hk_s, ht_s, hs_s, hb_s⟩ := hR_s.get
   obtain ⟨a1_s, n1_s, rfl⟩ := hk_s.form
   obtain ⟨a2_s, n2_s, rfl⟩ := ht_s.form
   obtain ⟨a3_s, n3_s, rfl⟩ := hs_s.form
   obtain ⟨a4_s, n4_s, rfl⟩ := hb_s.form
   have hlt_s : b_s < _ := World.block_lt_of_cell? _ _ (hc_s 0 _ rfl)
   have hsp := sbulk_take he_s
   have hss := sbulk_split he_s
   have hbe := s.bulk_eq
   have hyes : (sbulk (l.take i) : Int) ≤ left ∧ x = left - sbulk (l.take i) := by
    by_cases h4 : (sbulk (l.take i) : Int) ≤ left
    · exact ⟨h4, hy h4⟩
    · have := hn h4; omega
   have hbm := hb_s.max
   refine Gs 8 rfl (G.ops1 rfl rfl (R.indexS Tryz.runUnderlying24 Tryz.sizeOf86 rfl rfl ha_s (by omega)) (Gs 1 rfl (G.ldK rfl Tryz.isAgg84 Tryz.sizeOf84 (hc_s.sub 4 3) rfl (Ga 2 rfl (by omega) (G.call rfl Tryz.call58 (termLeft_ok s.term _ D _ (x - 1) (RTm.put hk_s) (by omega) (by omega)) ?_)))))
   rintro _ wz1 ⟨⟨m1, rfl, hm1, hm2⟩, hz1⟩
   obtain ⟨hl, hL1, hc_s, hk_s, ht_s, hs_s, hb_s⟩ := Tr7 hz1 hl hL1 hc_s hk_s ht_s hs_s hb_s
   refine Gs 9 rfl (G.ops1 rfl rfl (R.indexS Tryz.runUnderlying24 Tryz.sizeOf86 rfl rfl ha_s (by omega)) (Gs 1 rfl (G.ld rfl Tryz.isAgg50 (hc_s 9 _ rfl) (Gs 4 rfl (G.ite rfl (fun hb => ?_) (fun hb => ?_))))))
   ·
    refine Gs 12 rfl (G.ret1 Tryz.results57 rfl ⟨_, rfl, ⟨-1, rfl, fun h3 => ?_, fun h3 => by omega⟩, hL1⟩)
    by_cases h5 : (s.term.nodes : Int) ≤ x - 1
    · have := hm1 h5; omega
    · omega
   ·
    have h5 : (s.term.nodes : Int) ≤ x - 1 := by
     by_cases h5 : (s.term.nodes : Int) ≤ x - 1
     · exact h5
     · have := hm2 h5; omega
    have hm := hm1 h5
    refine Gs 2 rfl (Dw (fun q => Ext wz1 q) [] (fun wd2 hD _ => ?_))
    refine Ds [0, 1] (by kernel_rfl) rfl (WD.takeW 2 rfl (by kernel_rfl) rfl rfl rfl (fun w1 => R.indexS Tryz.runUnderlying24 Tryz.sizeOf86 rfl rfl ha_s (by omega)) (Ds [3] (by kernel_rfl) rfl (WD.take 4 rfl (by kernel_rfl) rfl rfl rfl hD (fun w1 hw1 => R.load Tryz.isAgg24 rfl (hw1.cells hc_s (fun h => h) 8 _ rfl)) (Ds [5, 6] (by kernel_rfl) rfl (WD.takeW 7 rfl (by kernel_rfl) rfl rfl rfl (fun w1 => R.indexS Tryz.runUnderlying24 Tryz.sizeOf86 rfl rfl ha_s (by omega)) (Ds [8] (by kernel_rfl) rfl (WD.take 9 rfl (by kernel_rfl) rfl rfl rfl hD (fun w1 hw1 => R.load Tryz.isAgg24 rfl (hw1.cells hc_s (fun h => h) 7 _ rfl)) ?_)))))))
    refine Ds [10, 11, 12] (by kernel_rfl) rfl (WD.takeW 13 rfl (by kernel_rfl) rfl rfl rfl (fun w1 => R.indexS Tryz.runUnderlying24 Tryz.sizeOf86 rfl rfl ha_s (by omega)) (Ds [14] (by kernel_rfl) rfl (WD.take 15 rfl (by kernel_rfl) rfl rfl rfl hD (fun w1 hw1 => R.load Tryz.isAgg50 rfl (hw1.cells hc_s (fun h => h) 9 _ rfl)) (Da [16, 17] (by kernel_rfl) rfl (by omega) (WD.call 18 rfl (by kernel_rfl) rfl rfl rfl (F.call (vs := [_, _]) Tryz.call57 rfl) ((ih s hm_s).1 _ D _ (m1 - s.bounds.length) (ht_s.ext stable_st hD) (by omega) (by omega)) ?_)))))
    rintro _ wz3 ⟨⟨m2, rfl, h6, h7⟩, hz3⟩
    replace hD := hD.ext hz3
    refine ⟨fun _ => hD, ?_⟩
    refine WD.call 19 rfl (by kernel_rfl) rfl rfl rfl (F.call (vs := [_, _]) Tryz.call57 rfl) ((ih s hm_s).2 _ D _ m2 (hs_s.ext stable_st hD) (by by_cases h : (sbulk s.thn : Int) ≤ m1 - s.bounds.length <;> first | (have := h6 h; omega) | (have := h7 h; omega)) (by by_cases h : (sbulk s.thn : Int) ≤ m1 - s.bounds.length <;> first | (have := h6 h; omega) | (have := h7 h; omega))) ?_
    rintro _ wz4 ⟨⟨m3, rfl, h8, h9⟩, hz4⟩
    replace hD := hD.ext hz4
    refine ⟨fun _ => hD, ?_⟩
    refine Ds [20] (by kernel_rfl) rfl (G.done (by kernel_rfl) ?_ _)
    obtain ⟨hl, hL1, hc_s, hk_s, ht_s, hs_s, hb_s⟩ := Tr7 hD hl hL1 hc_s hk_s ht_s hs_s hb_s
    refine Ga 7 rfl (by omega) (G.back ((i + 1, m3)) (Sub.of rfl) (⟨by omega, ?_, ?_, hL1⟩) (by first | omega | (dsimp only; omega)))
    ·
     intro h3
     rw [hsp] at h3 ⊢
     have := h6 (by omega)
     rw [h8 (by omega)]; omega
    ·
     intro h3
     rw [hsp] at h3
     by_cases h : (sbulk s.thn : Int) ≤ m1 - s.bounds.length
     ·
      have := h6 h
      by_cases h' : (sbulk s.els : Int) ≤ m2
      · have := h8 h'; omega
      · have := h9 h'; omega
     ·
      have := h7 h
      by_cases h' : (sbulk s.els : Int) ≤ m2
      · omega
      · have := h9 h'; omega
  · refine Gs 12 rfl (G.ret1 Tryz.results57 rfl ⟨_, rfl, ⟨x, rfl, hend (.inr (by omega))⟩, hL1⟩)
 · refine Gs 18 rfl (G.ret1 Tryz.results57 rfl ⟨_, rfl, ⟨x, rfl, hend (.inl (by omega))⟩, hL1⟩)
theorem few17_ok (f : Fl) (a b : Int) (v1 v2 v3 : Value) (D : Nat → Prop) (w : World) (h : RFl D w f v1 v2 v3) (hb : 0 ≤ b ∧ b ≤ 1000000) (ha : a ≤ 1000) : Calls Tryz.prog 15 #[.agg #[v1, v2, v3], .int .i64 a, .int .i64 b] w (Ret fun r w' => r = .bool (decide ((f.vars.length : Int) ≤ a ∧ (f.hatches.length : Int) ≤ a ∧ ((sbulk f.body + hnodes f.hatches : Nat) : Int) ≤ b)) ∧ Ext w w') := by
 obtain ⟨hv, hh, hbd⟩ := h
 obtain ⟨a1, n1, rfl⟩ := hv.form
 obtain ⟨a2, n2, rfl⟩ := hh.form
 obtain ⟨a3, n3, rfl⟩ := hbd.form
 have hmx := hh.max
 have hE := Keep.refl (fun _ => False) w
 refine G.in3 Tryz.func15 rfl Tryz.ntmps15 rfl (Gs 2 rfl (G.mem rfl rfl (M.box rfl rfl) ?_))
 rintro _ w_g ⟨g, rfl, hg_g, hs_g, hB_g, hk_g⟩
 have hge_g : _ ≤ g := Nat.le_trans hE.size (Nat.le_of_eq hg_g.symm)
 obtain ⟨hE, hh, hbd⟩ := Tr3 hk_g hE hh hbd
 refine Gs 7 rfl (G.ld rfl Tryz.isAgg22 (hB_g.cells 0 _ rfl) (Gs 4 rfl (G.sp 15 rfl (fun h1 => ?_) (fun h1 => ?_))))
 · refine Gs 16 rfl (G.ret1 Tryz.results15 rfl ⟨_, rfl, by rw [decide_eq_false (by omega)], hE⟩)
 ·
  refine Gs 1 rfl (G.ld rfl Tryz.isAgg23 (hB_g.cells 1 _ rfl) (Gs 6 rfl (G.ite rfl (fun h2 => ?_) (fun h2 => ?_))))
  · refine Gs 7 rfl (G.ret1 Tryz.results15 rfl ⟨_, rfl, by rw [decide_eq_false (by omega)], hE⟩)
  ·
   refine Gs 5 rfl (G.ld rfl Tryz.isAgg24 (hB_g.cells 2 _ rfl) (Gs 1 rfl (G.call rfl Tryz.call57 (stepsLeft_ok f.body _ D _ b hbd (by omega) (by omega)) ?_)))
   rintro _ wz1 ⟨⟨m, rfl, hm1, hm2⟩, hz1⟩
   obtain ⟨hE, hh, hbd, hB_g⟩ := Tr4 hz1 hE hh hbd hB_g
   refine Gs 7 rfl (G.ld rfl Tryz.isAgg23 (hB_g.cells 1 _ rfl) (Gs 5 rfl (G.loop (σ := Nat × Int) (fun ⟨i, x⟩ => [(7, .int .i64 x), (27, .slice a2 f.hatches.length n2), (28, .int .i64 f.hatches.length), (29, .int .i64 i)]) (fun ⟨i, x⟩ => fun w' => i ≤ f.hatches.length ∧ (((sbulk f.body + hnodes (f.hatches.take i) : Nat) : Int) ≤ b → x = b - (sbulk f.body + hnodes (f.hatches.take i) : Nat)) ∧ (¬ ((sbulk f.body + hnodes (f.hatches.take i) : Nat) : Int) ≤ b → x < 0 ∧ -1 - (i : Int) ≤ x) ∧ Ext wz1 w') (fun ⟨i, x⟩ => f.hatches.length - i) ((0, m)) (Sub.of rfl) (⟨Nat.zero_le _, fun h => by simp [hnodes] at h ⊢; omega, fun h => by simp [hnodes] at h ⊢; omega, Keep.refl _ _⟩) ?_)))
   rintro ⟨i, x⟩ w1 ⟨hi, hy, hn, hL1⟩
   show G _ _ _ _ _ [(7, .int .i64 x), (27, .slice a2 f.hatches.length n2), (28, .int .i64 f.hatches.length), (29, .int .i64 i)] _
   obtain ⟨hE, hh, hbd, hB_g⟩ := Tr4 hL1 hE hh hbd hB_g
   refine Gs 6 rfl (G.ite rfl (fun hlt => ?_) (fun hlt => ?_))
   ·
    obtain ⟨e, he_e⟩ : ∃ x, f.hatches[i]? = some x := ⟨_, List.getElem?_eq_getElem (by omega)⟩
    have hm_e := List.mem_of_getElem? he_e
    obtain ⟨b_e, o_e, c_e, ha_e, _, hc_e, hR_e⟩ := hh.at he_e
    have h1_e := RHt.one hR_e
    obtain ⟨v1_e, rfl, hk_e⟩ := hR_e
    obtain ⟨a1_e, n1_e, rfl⟩ := hk_e.form
    have hlt_e : b_e < _ := World.block_lt_of_cell? _ _ (hc_e 0 _ rfl)
    have hsp := hnodes_take he_e
    refine Gs 6 rfl (G.ops1 rfl rfl (R.indexS Tryz.runUnderlying23 Tryz.sizeOf109 rfl rfl ha_e (by omega)) (G.ldK rfl Tryz.isAgg109 Tryz.sizeOf109 hc_e rfl (G.mem rfl rfl (M.alloc (cs := _) Tryz.zeroValue109 rfl) ?_)))
    rintro _ wa2 ⟨c, rfl, hg_c, hs_c, hB_c, hk_c⟩
    refine G.mem0 rfl (M.storeK Tryz.sizeOf109 rfl rfl rfl rfl h1_e hB_c (by simp)) ?_
    rintro w_c ⟨_, hB_c, hkk_c⟩
    replace hk_c := hk_c.trans hkk_c (fun q hq h => by have h : q = c := h; omega)
    have hn_g_c : g ≠ c := by have := hB_g.lt; omega
    have hge_c : _ ≤ c := Nat.le_trans hE.size (Nat.le_of_eq hg_c.symm)
    obtain ⟨hE, hh, hbd, hB_g, hL1, hc_e, hk_e⟩ := Tr7 hk_c hE hh hbd hB_g hL1 hc_e hk_e
    refine Gs 4 rfl (G.ldK rfl Tryz.isAgg84 Tryz.sizeOf84 (hB_c.cells.sub 3 3) rfl (Gs 1 rfl (G.call rfl Tryz.call58 (termLeft_ok e.term _ D _ x (RTm.put hk_e) (by by_cases h4 : ((sbulk f.body + hnodes (f.hatches.take i) : Nat) : Int) ≤ b <;> first | (have := hy h4; omega) | (have := hn h4; omega)) (by by_cases h4 : ((sbulk f.body + hnodes (f.hatches.take i) : Nat) : Int) ≤ b <;> first | (have := hy h4; omega) | (have := hn h4; omega))) ?_)))
    rintro _ wz3 ⟨⟨m2, rfl, h6, h7⟩, hz3⟩
    obtain ⟨hE, hh, hbd, hB_g, hL1, hc_e, hk_e⟩ := Tr7 hz3 hE hh hbd hB_g hL1 hc_e hk_e
    replace hB_c := Tr1 hz3 hB_c
    refine Ga 8 rfl (by omega) (G.back ((i + 1, m2)) (Sub.of rfl) (⟨by omega, ?_, ?_, hL1⟩) (by first | omega | (dsimp only; omega)))
    ·
     intro h3
     rw [hsp] at h3 ⊢
     have := hy (by omega)
     rw [h6 (by omega)]; omega
    ·
     intro h3
     rw [hsp] at h3
     by_cases h4 : ((sbulk f.body + hnodes (f.hatches.take i) : Nat) : Int) ≤ b
     ·
      have := hy h4
      have := h7 (by omega)
      omega
     ·
      have := hn h4
      have := h7 (by omega)
      omega
   ·
    have : i = f.hatches.length := by omega
    subst this
    rw [List.take_length] at hy hn
    refine Gs 13 rfl (G.ret1 Tryz.results15 rfl ⟨_, rfl, ?_, hE⟩)
    congr 1
    by_cases h4 : ((sbulk f.body + hnodes f.hatches : Nat) : Int) ≤ b
    · rw [decide_eq_true (by have := hy h4; omega), decide_eq_true (by omega)]
    · rw [decide_eq_false (by have := hn h4; omega), decide_eq_false (by omega)]
def kidsN (op : Int) : Int := if op = 0 ∨ op = 24 then 0 else if op = 6 ∨ op = 7 then 1 else if 8 ≤ op ∧ op ≤ 22 then 2 else if op = 23 then 3 else if op = 25 then -2 else -1
theorem refKids_ok (op : Int) (w : World) : Calls Tryz.prog 161 #[.int .i64 op] w (Ret fun r w' => r = .int .i64 (kidsN op) ∧ Ext w w') := by
 refine G.in1 Tryz.func161 rfl Tryz.ntmps161 rfl (Gs 19 rfl (G.ite rfl (fun k0 => ?_) (fun k0 => ?_)))
 · refine Gs 11 rfl (G.ret1 Tryz.results161 rfl ⟨_, rfl, by unfold kidsN; repeat (first | rw [if_pos (by omega)] | rw [if_neg (by omega)]), Keep.refl _ _⟩)
 ·
  refine Gs 5 rfl (G.ite rfl (fun k24 => ?_) (fun k24 => ?_))
  · refine Gs 8 rfl (G.ret1 Tryz.results161 rfl ⟨_, rfl, by unfold kidsN; repeat (first | rw [if_pos (by omega)] | rw [if_neg (by omega)]), Keep.refl _ _⟩)
  ·
   refine Gs 7 rfl (G.ite rfl (fun k6 => ?_) (fun k6 => ?_))
   · refine Gs 11 rfl (G.ret1 Tryz.results161 rfl ⟨_, rfl, by unfold kidsN; repeat (first | rw [if_pos (by omega)] | rw [if_neg (by omega)]), Keep.refl _ _⟩)
   ·
    refine Gs 5 rfl (G.ite rfl (fun k7 => ?_) (fun k7 => ?_))
    · refine Gs 8 rfl (G.ret1 Tryz.results161 rfl ⟨_, rfl, by unfold kidsN; repeat (first | rw [if_pos (by omega)] | rw [if_neg (by omega)]), Keep.refl _ _⟩)
    ·
     refine Gs 7 rfl (G.ite rfl (fun k8 => ?_) (fun k8 => ?_))
     · refine Gs 11 rfl (G.ret1 Tryz.results161 rfl ⟨_, rfl, by unfold kidsN; repeat (first | rw [if_pos (by omega)] | rw [if_neg (by omega)]), Keep.refl _ _⟩)
     ·
      refine Gs 6 rfl (G.ite rfl (fun k9 => ?_) (fun k9 => ?_))
      · refine Gs 11 rfl (G.ret1 Tryz.results161 rfl ⟨_, rfl, by unfold kidsN; repeat (first | rw [if_pos (by omega)] | rw [if_neg (by omega)]), Keep.refl _ _⟩)
      ·
       refine Gs 6 rfl (G.ite rfl (fun k10 => ?_) (fun k10 => ?_))
       · refine Gs 11 rfl (G.ret1 Tryz.results161 rfl ⟨_, rfl, by unfold kidsN; repeat (first | rw [if_pos (by omega)] | rw [if_neg (by omega)]), Keep.refl _ _⟩)
       ·
        refine Gs 6 rfl (G.ite rfl (fun k11 => ?_) (fun k11 => ?_))
        · refine Gs 11 rfl (G.ret1 Tryz.results161 rfl ⟨_, rfl, by unfold kidsN; repeat (first | rw [if_pos (by omega)] | rw [if_neg (by omega)]), Keep.refl _ _⟩)
        ·
         refine Gs 6 rfl (G.ite rfl (fun k12 => ?_) (fun k12 => ?_))
         · refine Gs 11 rfl (G.ret1 Tryz.results161 rfl ⟨_, rfl, by unfold kidsN; repeat (first | rw [if_pos (by omega)] | rw [if_neg (by omega)]), Keep.refl _ _⟩)
         ·
          refine Gs 6 rfl (G.ite rfl (fun k13 => ?_) (fun k13 => ?_))
          · refine Gs 11 rfl (G.ret1 Tryz.results161 rfl ⟨_, rfl, by unfold kidsN; repeat (first | rw [if_pos (by omega)] | rw [if_neg (by omega)]), Keep.refl _ _⟩)
          ·
           refine Gs 6 rfl (G.ite rfl (fun k14 => ?_) (fun k14 => ?_))
           · refine Gs 11 rfl (G.ret1 Tryz.results161 rfl ⟨_, rfl, by unfold kidsN; repeat (first | rw [if_pos (by omega)] | rw [if_neg (by omega)]), Keep.refl _ _⟩)
           ·
            refine Gs 6 rfl (G.ite rfl (fun k15 => ?_) (fun k15 => ?_))
            · refine Gs 11 rfl (G.ret1 Tryz.results161 rfl ⟨_, rfl, by unfold kidsN; repeat (first | rw [if_pos (by omega)] | rw [if_neg (by omega)]), Keep.refl _ _⟩)
            ·
             refine Gs 6 rfl (G.ite rfl (fun k16 => ?_) (fun k16 => ?_))
             · refine Gs 11 rfl (G.ret1 Tryz.results161 rfl ⟨_, rfl, by unfold kidsN; repeat (first | rw [if_pos (by omega)] | rw [if_neg (by omega)]), Keep.refl _ _⟩)
             ·
              refine Gs 6 rfl (G.ite rfl (fun k17 => ?_) (fun k17 => ?_))
              · refine Gs 11 rfl (G.ret1 Tryz.results161 rfl ⟨_, rfl, by unfold kidsN; repeat (first | rw [if_pos (by omega)] | rw [if_neg (by omega)]), Keep.refl _ _⟩)
              ·
               refine Gs 6 rfl (G.ite rfl (fun k18 => ?_) (fun k18 => ?_))
               · refine Gs 11 rfl (G.ret1 Tryz.results161 rfl ⟨_, rfl, by unfold kidsN; repeat (first | rw [if_pos (by omega)] | rw [if_neg (by omega)]), Keep.refl _ _⟩)
               ·
                refine Gs 6 rfl (G.ite rfl (fun k19 => ?_) (fun k19 => ?_))
                · refine Gs 11 rfl (G.ret1 Tryz.results161 rfl ⟨_, rfl, by unfold kidsN; repeat (first | rw [if_pos (by omega)] | rw [if_neg (by omega)]), Keep.refl _ _⟩)
                ·
                 refine Gs 6 rfl (G.ite rfl (fun k20 => ?_) (fun k20 => ?_))
                 · refine Gs 11 rfl (G.ret1 Tryz.results161 rfl ⟨_, rfl, by unfold kidsN; repeat (first | rw [if_pos (by omega)] | rw [if_neg (by omega)]), Keep.refl _ _⟩)
                 ·
                  refine Gs 6 rfl (G.ite rfl (fun k21 => ?_) (fun k21 => ?_))
                  · refine Gs 11 rfl (G.ret1 Tryz.results161 rfl ⟨_, rfl, by unfold kidsN; repeat (first | rw [if_pos (by omega)] | rw [if_neg (by omega)]), Keep.refl _ _⟩)
                  ·
                   refine Gs 5 rfl (G.ite rfl (fun k22 => ?_) (fun k22 => ?_))
                   · refine Gs 8 rfl (G.ret1 Tryz.results161 rfl ⟨_, rfl, by unfold kidsN; repeat (first | rw [if_pos (by omega)] | rw [if_neg (by omega)]), Keep.refl _ _⟩)
                   ·
                    refine Gs 6 rfl (G.ite rfl (fun k23 => ?_) (fun k23 => ?_))
                    · refine Gs 8 rfl (G.ret1 Tryz.results161 rfl ⟨_, rfl, by unfold kidsN; repeat (first | rw [if_pos (by omega)] | rw [if_neg (by omega)]), Keep.refl _ _⟩)
                    ·
                     refine Gs 6 rfl (G.ite rfl (fun k25 => ?_) (fun k25 => ?_))
                     · refine Gs 8 rfl (G.ret1 Tryz.results161 rfl ⟨_, rfl, by unfold kidsN; repeat (first | rw [if_pos (by omega)] | rw [if_neg (by omega)]), Keep.refl _ _⟩)
                     · refine Gs 9 rfl (G.ret1 Tryz.results161 rfl ⟨_, rfl, by unfold kidsN; repeat (first | rw [if_pos (by omega)] | rw [if_neg (by omega)]), Keep.refl _ _⟩)
theorem flatKids_ok (op : Int) (w : World) : Calls Tryz.prog 218 #[.int .i64 op] w (Ret fun r w' => (∃ a b : Int, r = .tuple #[.int .i64 a, .int .i64 b] ∧ (a < 0 ↔ kidsN op = -1) ∧ (0 ≤ kidsN op → a = kidsN op ∧ b = kidsN op) ∧ (kidsN op = -2 → a = 2 ∧ b = 33)) ∧ Ext w w') := by
 refine G.in1 Tryz.func218 rfl Tryz.ntmps218 rfl (Gs 13 rfl (G.sp 7 rfl (fun h1 => ?_) (fun h1 => ?_)))
 ·
  refine Gs 16 rfl ?_
  have e : kidsN op = 0 := by unfold kidsN; rw [if_pos (by omega)]
  refine G.ret2 Tryz.results218 rfl rfl ⟨_, rfl, ⟨0, 0, rfl, by rw [e]; omega, fun _ => by rw [e]; exact ⟨rfl, rfl⟩, fun h => by rw [e] at h; omega⟩, Keep.refl _ _⟩
 ·
  refine Gs 6 rfl (G.ite rfl (fun h2 => ?_) (fun h2 => ?_))
  ·
   refine Gs 9 rfl ?_
   have e : kidsN op = 0 := by unfold kidsN; rw [if_pos (by omega)]
   refine G.ret2 Tryz.results218 rfl rfl ⟨_, rfl, ⟨0, 0, rfl, by rw [e]; omega, fun _ => by rw [e]; exact ⟨rfl, rfl⟩, fun h => by rw [e] at h; omega⟩, Keep.refl _ _⟩
  ·
   refine Gs 5 rfl (G.sp 14 rfl (fun h3 => ?_) (fun h3 => ?_))
   ·
    refine Gs 16 rfl ?_
    have e : kidsN op = 1 := by unfold kidsN; rw [if_neg (by omega), if_pos (by omega)]
    refine G.ret2 Tryz.results218 rfl rfl ⟨_, rfl, ⟨1, 1, rfl, by rw [e]; omega, fun _ => by rw [e]; exact ⟨rfl, rfl⟩, fun h => by rw [e] at h; omega⟩, Keep.refl _ _⟩
   ·
    refine Gs 6 rfl (G.ite rfl (fun h4 => ?_) (fun h4 => ?_))
    ·
     refine Gs 9 rfl ?_
     have e : kidsN op = 1 := by unfold kidsN; rw [if_neg (by omega), if_pos (by omega)]
     refine G.ret2 Tryz.results218 rfl rfl ⟨_, rfl, ⟨1, 1, rfl, by rw [e]; omega, fun _ => by rw [e]; exact ⟨rfl, rfl⟩, fun h => by rw [e] at h; omega⟩, Keep.refl _ _⟩
    ·
     refine Gs 1 rfl (G.cut (σ := Bool) (fun q => [(0, .int .i64 op), (18, .bool q)]) (fun q => fun w' => (q = true ↔ 8 ≤ op ∧ op ≤ 22) ∧ w' = w) ?_ ?_)
     ·
      refine Gs 4 rfl (G.sp 21 rfl (fun h5 => ?_) (fun h5 => ?_))
      · refine Gs 5 rfl (G.meet (decide (op ≤ 22)) (Sub.of rfl) (⟨by simp; omega, rfl⟩))
      · refine Gs 5 rfl (G.meet (false) (Sub.cons rfl (Sub.cons (by first | rfl | (show some (Value.bool false) = some (Value.bool _); simp [*])) Sub.nil)) (⟨by simp; omega, rfl⟩))
     ·
      rintro q w1 ⟨hq, hw1⟩
      subst hw1
      refine Gs 1 rfl (G.bool rfl (fun h6 => ?_) (fun h6 => ?_))
      ·
       have h7 := hq.1 h6
       refine Gs 9 rfl ?_
       have e : kidsN op = 2 := by unfold kidsN; rw [if_neg (by omega), if_neg (by omega), if_pos (by omega)]
       refine G.ret2 Tryz.results218 rfl rfl ⟨_, rfl, ⟨2, 2, rfl, by rw [e]; omega, fun _ => by rw [e]; exact ⟨rfl, rfl⟩, fun h => by rw [e] at h; omega⟩, Keep.refl _ _⟩
      ·
       have h7 : ¬ (8 ≤ op ∧ op ≤ 22) := fun h => by rw [hq.2 h] at h6; cases h6
       refine Gs 7 rfl (G.ite rfl (fun h8 => ?_) (fun h8 => ?_))
       ·
        refine Gs 9 rfl ?_
        have e : kidsN op = 3 := by unfold kidsN; rw [if_neg (by omega), if_neg (by omega), if_neg (by omega), if_pos (by omega)]
        refine G.ret2 Tryz.results218 rfl rfl ⟨_, rfl, ⟨3, 3, rfl, by rw [e]; omega, fun _ => by rw [e]; exact ⟨rfl, rfl⟩, fun h => by rw [e] at h; omega⟩, Keep.refl _ _⟩
       ·
        refine Gs 7 rfl (G.ite rfl (fun h9 => ?_) (fun h9 => ?_))
        ·
         refine Gs 9 rfl ?_
         have e : kidsN op = -2 := by unfold kidsN; rw [if_neg (by omega), if_neg (by omega), if_neg (by omega), if_neg (by omega), if_pos (by omega)]
         refine G.ret2 Tryz.results218 rfl rfl ⟨_, rfl, ⟨2, 33, rfl, by rw [e]; omega, fun h => by rw [e] at h; omega, fun _ => ⟨rfl, rfl⟩⟩, Keep.refl _ _⟩
        ·
         refine Gs 10 rfl ?_
         have e : kidsN op = -1 := by unfold kidsN; rw [if_neg (by omega), if_neg (by omega), if_neg (by omega), if_neg (by omega), if_neg (by omega)]
         refine G.ret2 Tryz.results218 rfl rfl ⟨_, rfl, ⟨-1, -1, rfl, by rw [e]; omega, fun h => by rw [e] at h; omega, fun h => by rw [e] at h; omega⟩, Keep.refl _ _⟩
@[irreducible] def letterB (n : Int) : Bool := decide (97 ≤ n ∧ n ≤ 122)
@[irreducible] def otherB (n : Int) : Bool := decide (48 ≤ n ∧ n ≤ 57 ∨ n = 46 ∨ n = 95)
def okB (i : Nat) (n : Int) : Bool := letterB n || (decide (i ≠ 0) && otherB n)
@[irreducible] def isNm (s : ByteArray) : Bool := decide (1 ≤ s.size ∧ s.size ≤ 40 ∧ ∀ (i : Nat) (h : i < s.size), okB i (s[i].toNat : Int) = true)
theorem refIsName_ok (s : ByteArray) (w : World) : Calls Tryz.prog 63 #[.string s] w (Ret fun r w' => r = .bool (isNm s) ∧ Ext w w') := by
 refine G.in1 Tryz.func63 rfl Tryz.ntmps63 rfl (Gs 12 rfl (G.sp 10 rfl (fun h1 => ?_) (fun h1 => ?_)))
 · refine Gs 14 rfl (G.ret1 Tryz.results63 rfl ⟨_, rfl, by rw [isNm, decide_eq_false (fun h => by omega)], Keep.refl _ _⟩)
 ·
  refine Gs 6 rfl (G.ite rfl (fun h2 => ?_) (fun h2 => ?_))
  · refine Gs 7 rfl (G.ret1 Tryz.results63 rfl ⟨_, rfl, by rw [isNm, decide_eq_false (fun h => by omega)], Keep.refl _ _⟩)
  ·
   refine Gs 9 rfl (G.loop (σ := Nat) (fun i => [(0, .string s), (3, .int .i64 i)]) (fun i => fun w' => i ≤ s.size ∧ (∀ (j : Nat) (h : j < s.size), j < i → okB j (s[j].toNat : Int) = true) ∧ w' = w) (fun i => s.size - i) (0) (Sub.of rfl) (⟨Nat.zero_le _, fun j _ h => absurd h (Nat.not_lt_zero _), rfl⟩) ?_)
   rintro i w1 ⟨hi, hall, hw1⟩
   subst hw1
   refine Gs 9 rfl (G.ite rfl (fun hlt => ?_) (fun hlt => ?_))
   ·
    have hlt' : i < s.size := by omega
    refine Gs 8 rfl (G.ops1 rfl rfl (R.indexStr Tryz.underlying9 rfl rfl i rfl hlt') ?_)
    obtain ⟨n, hn⟩ : ∃ n : Int, n = (s[i].toNat : Int) := ⟨_, rfl⟩
    rw [← hn]
    refine Gs 4 rfl (G.cut (σ := Bool) (fun q => [(0, .string s), (3, .int .i64 i), (4, .int .u8 n), (5, .bool q)]) (fun q => fun w' => q = letterB n ∧ w' = w1) ?_ ?_)
    ·
     refine Gs 4 rfl (G.sp 26 rfl (fun a => ?_) (fun a => ?_))
     · refine Gs 5 rfl (G.meet (decide (n ≤ 122)) (Sub.of rfl) (⟨by unfold letterB; congr 1; simp; omega, rfl⟩))
     · refine Gs 5 rfl (G.meet (false) (Sub.cons rfl (Sub.cons rfl (Sub.cons rfl (Sub.cons (by first | rfl | (show some (Value.bool false) = some (Value.bool _); simp [*])) Sub.nil)))) (⟨by unfold letterB; rw [decide_eq_false (by omega)], rfl⟩))
    rintro q w2 ⟨hq, hw2⟩
    subst hq
    refine Gs 2 rfl (G.cut (σ := Bool) (fun q => [(0, .string s), (3, .int .i64 i), (5, .bool (letterB n)), (6, .bool q)]) (fun q => fun w' => q = otherB n ∧ w' = w2) ?_ ?_)
    ·
     refine Gs 4 rfl (G.sp 32 rfl (fun a => ?_) (fun a => ?_))
     ·
      refine Gs 4 rfl (G.sp 36 rfl (fun b => ?_) (fun b => ?_))
      · refine Gs 9 rfl (G.meet (true) (Sub.cons rfl (Sub.cons rfl (Sub.cons rfl (Sub.cons (by first | rfl | (show some (Value.bool true) = some (Value.bool _); simp [*])) Sub.nil)))) (⟨by unfold otherB; rw [decide_eq_true (by omega)], rfl⟩))
      ·
       refine Gs 4 rfl (G.sp 40 rfl (fun c => ?_) (fun c => ?_))
       · refine Gs 5 rfl (G.meet (true) (Sub.cons rfl (Sub.cons rfl (Sub.cons rfl (Sub.cons (by first | rfl | (show some (Value.bool true) = some (Value.bool _); simp [*])) Sub.nil)))) (⟨by unfold otherB; rw [decide_eq_true (by omega)], rfl⟩))
       · refine Gs 5 rfl (G.meet (decide (n = 95)) (Sub.of rfl) (⟨by unfold otherB; congr 1; simp; omega, rfl⟩))
     ·
      refine Gs 8 rfl (G.sp 40 rfl (fun c => ?_) (fun c => ?_))
      · refine Gs 5 rfl (G.meet (true) (Sub.cons rfl (Sub.cons rfl (Sub.cons rfl (Sub.cons (by first | rfl | (show some (Value.bool true) = some (Value.bool _); simp [*])) Sub.nil)))) (⟨by unfold otherB; rw [decide_eq_true (by omega)], rfl⟩))
      · refine Gs 5 rfl (G.meet (decide (n = 95)) (Sub.of rfl) (⟨by unfold otherB; congr 1; simp; omega, rfl⟩))
    rintro q w3 ⟨hq, hw3⟩
    subst hq
    have hstep : okB i n = true → ∀ (j : Nat) (h : j < s.size), j < i + 1 → okB j (s[j].toNat : Int) = true := by
     intro h0 j h h1
     by_cases e : j = i
     · subst e; rw [← hn]; exact h0
     · exact hall j h (by omega)
    have hbad : okB i n = false → isNm s = false := by
     intro h0
     rw [isNm, decide_eq_false]
     rintro ⟨_, _, h3⟩
     have := h3 i hlt'
     rw [← hn, h0] at this
     cases this
    have hw : w3 = w1 := by rw [hw3, hw2]
    refine Gs 4 rfl (G.ops1 rfl rfl (R.notU rfl (by first | exact not_decide_eq | rfl)) (Gs 1 rfl (G.sb 46 rfl (fun l => ?_) (fun l => ?_))))
    ·
     have l' : letterB n = false := by simpa using l
     refine Gs 3 rfl (G.sp 49 rfl (fun z => ?_) (fun z => ?_))
     · refine Gs 18 rfl (G.ret1 Tryz.results63 rfl ⟨_, rfl, by rw [hbad (by unfold okB; rw [l', decide_eq_false (by omega)]; rfl)], by rw [hw]; exact Keep.refl _ _⟩)
     ·
      have z' : decide (i ≠ 0) = true := decide_eq_true (by omega)
      refine Gs 1 rfl (G.ops1 rfl rfl (R.notU rfl (by first | exact not_decide_eq | rfl)) (Gs 4 rfl (G.bool rfl (fun o => ?_) (fun o => ?_))))
      ·
       have o' : otherB n = false := by simpa using o
       refine Gs 11 rfl (G.ret1 Tryz.results63 rfl ⟨_, rfl, by rw [hbad (by unfold okB; rw [l', o']; simp)], by rw [hw]; exact Keep.refl _ _⟩)
      ·
       have o' : otherB n = true := by simpa using o
       refine Ga 8 rfl (by omega) (G.back (i + 1) (Sub.of rfl) (⟨by omega, hstep (by unfold okB; rw [o', z']; simp), hw⟩) (by first | omega | (dsimp only; omega)))
    ·
     have l' : letterB n = true := by simpa using l
     refine Ga 18 rfl (by omega) (G.back (i + 1) (Sub.of rfl) (⟨by omega, hstep (by unfold okB; rw [l']; rfl), hw⟩) (by first | omega | (dsimp only; omega)))
   · refine Gs 11 rfl (G.ret1 Tryz.results63 rfl ⟨_, rfl, by rw [isNm, decide_eq_true ⟨by omega, by omega, fun j h => hall j h (by omega)⟩], Keep.refl _ _⟩)
theorem flatIsName_ok (s : ByteArray) (w : World) : Calls Tryz.prog 150 #[.string s] w (Ret fun r w' => r = .bool (isNm s) ∧ Ext w w') := by
 refine G.in1 Tryz.func150 rfl Tryz.ntmps150 rfl (Gs 11 rfl (G.sp 8 rfl (fun h1 => ?_) (fun h1 => ?_)))
 ·
  have h1' : s.size = 0 := by
   have := congrArg List.length h1
   rw [ByteArray.toList_eq] at this
   simpa using this
  refine Gs 14 rfl (G.ret1 Tryz.results150 rfl ⟨_, rfl, by rw [isNm, decide_eq_false (fun h => by omega)], Keep.refl _ _⟩)
 ·
  have h1' : s.size ≠ 0 := by
   intro h
   apply h1
   have : s.toList.length = 0 := by rw [ByteArray.toList_eq]; simpa using h
   rw [List.eq_nil_of_length_eq_zero this, ByteArray.toList_eq]
  refine Gs 6 rfl (G.ite rfl (fun h2 => ?_) (fun h2 => ?_))
  · refine Gs 7 rfl (G.ret1 Tryz.results150 rfl ⟨_, rfl, by rw [isNm, decide_eq_false (fun h => by omega)], Keep.refl _ _⟩)
  ·
   refine Gs 11 rfl (G.loop (σ := Nat) (fun i => [(0, .string s), (14, .int .i64 s.size), (15, .int .i64 i)]) (fun i => fun w' => i ≤ s.size ∧ (∀ (j : Nat) (h : j < s.size), j < i → okB j (s[j].toNat : Int) = true) ∧ w' = w) (fun i => s.size - i) (0) (Sub.of rfl) (⟨Nat.zero_le _, fun j _ h => absurd h (Nat.not_lt_zero _), rfl⟩) ?_)
   rintro i w1 ⟨hi, hall, hw1⟩
   subst hw1
   refine Gs 6 rfl (G.ite rfl (fun hlt => ?_) (fun hlt => ?_))
   ·
    have hlt' : i < s.size := by omega
    refine Gs 14 rfl (G.ops1 rfl rfl (R.indexStr Tryz.underlying9 rfl rfl i rfl hlt') ?_)
    obtain ⟨n, hn⟩ : ∃ n : Int, n = (s[i].toNat : Int) := ⟨_, rfl⟩
    rw [← hn]
    refine Gs 4 rfl (G.cut (σ := Bool) (fun q => [(0, .string s), (14, .int .i64 s.size), (15, .int .i64 i), (3, .int .i64 i), (4, .int .u8 n), (5, .bool q)]) (fun q => fun w' => q = letterB n ∧ w' = w1) ?_ ?_)
    ·
     refine Gs 4 rfl (G.sp 23 rfl (fun a => ?_) (fun a => ?_))
     · refine Gs 5 rfl (G.meet (decide (n ≤ 122)) (Sub.of rfl) (⟨by unfold letterB; congr 1; simp; omega, rfl⟩))
     · refine Gs 5 rfl (G.meet (false) (Sub.cons rfl (Sub.cons rfl (Sub.cons rfl (Sub.cons rfl (Sub.cons rfl (Sub.cons (by first | rfl | (show some (Value.bool false) = some (Value.bool _); simp [*])) Sub.nil)))))) (⟨by unfold letterB; rw [decide_eq_false (by omega)], rfl⟩))
    rintro q w3 ⟨hq, hw⟩
    subst hq
    have hstep : okB i n = true → ∀ (j : Nat) (h : j < s.size), j < i + 1 → okB j (s[j].toNat : Int) = true := by
     intro h0 j h h1
     by_cases e : j = i
     · subst e; rw [← hn]; exact h0
     · exact hall j h (by omega)
    have hbad : okB i n = false → isNm s = false := by
     intro h0
     rw [isNm, decide_eq_false]
     rintro ⟨_, _, h3⟩
     have := h3 i hlt'
     rw [← hn, h0] at this
     cases this
    refine Gs 4 rfl (G.ops1 rfl rfl (R.notU rfl (by first | exact not_decide_eq | rfl)) (Gs 1 rfl (G.sb 29 rfl (fun l => ?_) (fun l => ?_))))
    ·
     have l' : letterB n = false := by simpa using l
     refine Gs 3 rfl (G.sp 32 rfl (fun z => ?_) (fun z => ?_))
     · refine Gs 30 rfl (G.ret1 Tryz.results150 rfl ⟨_, rfl, by rw [hbad (by unfold okB; rw [l', decide_eq_false (by omega)]; rfl)], by rw [hw]; exact Keep.refl _ _⟩)
     ·
      have z' : decide (i ≠ 0) = true := decide_eq_true (by omega)
      have fin : (otherB n = false → False) → okB i n = true := fun h => by
       unfold okB; rw [z']
       cases ho : otherB n
       · exact (h ho).elim
       · simp
      have bad : otherB n = false → isNm s = false := fun h => hbad (by unfold okB; rw [l', h]; simp)
      refine Gs 3 rfl (G.sp 35 rfl (fun a => ?_) (fun a => ?_))
      ·
       refine Gs 8 rfl (G.sp 43 rfl (fun b => ?_) (fun b => ?_))
       ·
        refine Gs 7 rfl (G.ite rfl (fun c => ?_) (fun c => ?_))
        ·
         have ho : otherB n = false := by unfold otherB; exact decide_eq_false (by omega)
         refine Gs 11 rfl (G.ret1 Tryz.results150 rfl ⟨_, rfl, by rw [bad ho], by rw [hw]; exact Keep.refl _ _⟩)
        · refine Ga 7 rfl (by omega) (G.back (i + 1) (Sub.of rfl) (⟨by omega, hstep (fin (fun h => by unfold otherB at h; have := of_decide_eq_false h; omega)), hw⟩) (by first | omega | (dsimp only; omega)))
       · refine Ga 15 rfl (by omega) (G.back (i + 1) (Sub.of rfl) (⟨by omega, hstep (fin (fun h => by unfold otherB at h; have := of_decide_eq_false h; omega)), hw⟩) (by first | omega | (dsimp only; omega)))
      ·
       refine Gs 4 rfl (G.sp 39 rfl (fun b0 => ?_) (fun b0 => ?_))
       ·
        refine Gs 4 rfl (G.sp 43 rfl (fun b => ?_) (fun b => ?_))
        ·
         refine Gs 7 rfl (G.ite rfl (fun c => ?_) (fun c => ?_))
         ·
          have ho : otherB n = false := by unfold otherB; exact decide_eq_false (by omega)
          refine Gs 11 rfl (G.ret1 Tryz.results150 rfl ⟨_, rfl, by rw [bad ho], by rw [hw]; exact Keep.refl _ _⟩)
         · refine Ga 7 rfl (by omega) (G.back (i + 1) (Sub.of rfl) (⟨by omega, hstep (fin (fun h => by unfold otherB at h; have := of_decide_eq_false h; omega)), hw⟩) (by first | omega | (dsimp only; omega)))
        · refine Ga 15 rfl (by omega) (G.back (i + 1) (Sub.of rfl) (⟨by omega, hstep (fin (fun h => by unfold otherB at h; have := of_decide_eq_false h; omega)), hw⟩) (by first | omega | (dsimp only; omega)))
       · refine Ga 19 rfl (by omega) (G.back (i + 1) (Sub.of rfl) (⟨by omega, hstep (fin (fun h => by unfold otherB at h; have := of_decide_eq_false h; omega)), hw⟩) (by first | omega | (dsimp only; omega)))
    ·
     have l' : letterB n = true := by simpa using l
     refine Ga 29 rfl (by omega) (G.back (i + 1) (Sub.of rfl) (⟨by omega, hstep (by unfold okB; rw [l']; rfl), hw⟩) (by first | omega | (dsimp only; omega)))
   · refine Gs 11 rfl (G.ret1 Tryz.results150 rfl ⟨_, rfl, by rw [isNm, decide_eq_true ⟨by omega, by omega, fun j h => hall j h (by omega)⟩], Keep.refl _ _⟩)
@[irreducible] def bndB (low high : Int) : Bool := decide (low ≤ high ∧ -1048576 ≤ low ∧ high ≤ 1048576)
theorem refBounded_ok (a b : Int) (w : World) : Calls Tryz.prog 64 #[.int .i64 a, .int .i64 b] w (Ret fun r w' => r = .bool (bndB a b) ∧ Ext w w') := by
 refine G.in2 Tryz.func64 rfl Tryz.ntmps64 rfl (Gs 11 rfl (G.sp 8 rfl (fun h1 => ?_) (fun h1 => ?_)))
 ·
  refine Gs 4 rfl (G.sp 12 rfl (fun h2 => ?_) (fun h2 => ?_))
  · refine Gs 7 rfl (G.ret1 Tryz.results64 rfl ⟨_, rfl, by unfold bndB; congr 2; simp; omega, Keep.refl _ _⟩)
  · refine Gs 7 rfl (G.ret1 Tryz.results64 rfl ⟨_, rfl, by rw [bndB, decide_eq_false (by omega)], Keep.refl _ _⟩)
 · refine Gs 11 rfl (G.ret1 Tryz.results64 rfl ⟨_, rfl, by rw [bndB, decide_eq_false (by omega)], Keep.refl _ _⟩)
theorem flatBounded_ok (a b : Int) (w : World) : Calls Tryz.prog 152 #[.int .i64 a, .int .i64 b] w (Ret fun r w' => r = .bool (bndB a b) ∧ Ext w w') := by
 refine G.in2 Tryz.func152 rfl Tryz.ntmps152 rfl (Gs 11 rfl (G.sp 8 rfl (fun h1 => ?_) (fun h1 => ?_)))
 ·
  refine Gs 4 rfl (G.sp 12 rfl (fun h2 => ?_) (fun h2 => ?_))
  · refine Gs 7 rfl (G.ret1 Tryz.results152 rfl ⟨_, rfl, by unfold bndB; congr 2; simp; omega, Keep.refl _ _⟩)
  · refine Gs 7 rfl (G.ret1 Tryz.results152 rfl ⟨_, rfl, by rw [bndB, decide_eq_false (by omega)], Keep.refl _ _⟩)
 · refine Gs 11 rfl (G.ret1 Tryz.results152 rfl ⟨_, rfl, by rw [bndB, decide_eq_false (by omega)], Keep.refl _ _⟩)
def kidsFit (op : Int) (n : Nat) : Bool := if 0 ≤ kidsN op then decide ((n : Int) = kidsN op) else decide (kidsN op = -2 ∧ 2 ≤ n ∧ n ≤ 33)
def isLocal (vs : List Vr) (n : Int) : Bool := match vs[n.toNat]? with
 | some v => decide (v.kind = 0)
 | none => false
def refFit (vs : List Vr) (inputs : Bool) (op n : Int) : Bool := if op = 24 then decide (0 ≤ n ∧ n < vs.length) && !(inputs && isLocal vs n) else decide (op = 0 ∨ n = 0)
mutual
def formedT (vs : List Vr) (inputs : Bool) : Tm → Bool
 | .mk op n ks => kidsFit op ks.length && refFit vs inputs op n && formedL vs inputs ks
def formedL (vs : List Vr) (inputs : Bool) : List Tm → Bool
 | [] => true
 | k :: r => formedT vs inputs k && formedL vs inputs r
end
section
variable {vs : List Vr} {inp : Bool}
theorem formedT_eq (t : Tm) : formedT vs inp t = (kidsFit t.op t.kids.length && refFit vs inp t.op t.n && formedL vs inp t.kids) := by cases t; rw [formedT]; rfl
theorem formedL_append (a b : List Tm) : formedL vs inp (a ++ b) = (formedL vs inp a && formedL vs inp b) := by
 induction a with
 | nil => simp [formedL]
 | cons x r ih => simp [formedL, ih, Bool.and_assoc]
theorem formedL_take {l : List Tm} {i : Nat} {x : Tm} (h : l[i]? = some x) : formedL vs inp (l.take (i + 1)) = (formedL vs inp (l.take i) && formedT vs inp x) := by rw [take_get h, formedL_append]; simp [formedL]
theorem formedL_mem {l : List Tm} {x : Tm} (h : formedL vs inp l = true) (hx : x ∈ l) : formedT vs inp x = true := by
 obtain ⟨i, hi⟩ := List.mem_iff_getElem?.1 hx
 rw [split_get hi, formedL_append] at h
 simp [formedL] at h
 exact h.2.1
theorem formedL_bad {l : List Tm} {x : Tm} (hx : x ∈ l) (h : formedT vs inp x = false) : formedL vs inp l = false := by
 cases h1 : formedL vs inp l with
 | false => rfl
 | true => rw [formedL_mem h1 hx] at h; cases h
theorem kidsFit_no {op : Int} {n : Nat} (h : kidsN op = -1 ∨ (0 ≤ kidsN op ∧ (n : Int) ≠ kidsN op) ∨ (kidsN op = -2 ∧ (n < 2 ∨ 33 < n))) : kidsFit op n = false := by
 unfold kidsFit
 split
 · exact decide_eq_false (by omega)
 · exact decide_eq_false (by omega)
theorem kidsFit_yes {op : Int} {n : Nat} (h : (0 ≤ kidsN op ∧ (n : Int) = kidsN op) ∨ (kidsN op = -2 ∧ 2 ≤ n ∧ n ≤ 33)) : kidsFit op n = true := by
 unfold kidsFit
 split
 · exact decide_eq_true (by omega)
 · exact decide_eq_true (by omega)
theorem kidsN_vals (op : Int) : kidsN op = 0 ∨ kidsN op = 1 ∨ kidsN op = 2 ∨ kidsN op = 3 ∨ kidsN op = -2 ∨ kidsN op = -1 := by
 unfold kidsN; (repeat' split); all_goals omega
theorem refFit_ref {n : Int} (h : 0 ≤ n ∧ n < vs.length) {v : Vr} (hv : vs[n.toNat]? = some v) : refFit vs inp 24 n = !(inp && decide (v.kind = 0)) := by
 unfold refFit isLocal
 rw [if_pos rfl, decide_eq_true h, hv, Bool.true_and]
theorem refFit_out {n : Int} (h : ¬ (0 ≤ n ∧ n < vs.length)) : refFit vs inp 24 n = false := by
 unfold refFit
 rw [if_pos rfl, decide_eq_false h]; rfl
theorem refFit_else {op n : Int} (h : op ≠ 24) : refFit vs inp op n = decide (op = 0 ∨ n = 0) := by
 unfold refFit
 rw [if_neg h]
end
theorem refFormed_ok (vs : List Vr) (inp : Bool) (vv : Value) (Dv : Nat → Prop) (t : Tm) : ∀ (cs : List Value) (D : Nat → Prop) (w : World), SlR 5 RVr Dv w vv vs → RTm D w t cs → Calls Tryz.prog 114 #[vv, .agg cs.toArray, .bool inp] w (Ret fun r w' => r = .bool (formedT vs inp t) ∧ Ext w w') := by
 induction t using Tm.ind with
 | h t ih =>
 intro cs D w hvs ht
 obtain ⟨v, rfl, hk⟩ := ht.get
 have hmx := hk.max
 obtain ⟨ao, cap, rfl⟩ := hk.form
 obtain ⟨av, nv, rfl⟩ := hvs.form
 have hfe := formedT_eq (vs := vs) (inp := inp) t
 have hkv := kidsN_vals t.op
 have hE := Keep.refl (fun _ => False) w
 refine G.in3 Tryz.func114 rfl Tryz.ntmps114 rfl (Gs 2 rfl (G.mem rfl rfl (M.box rfl rfl) ?_))
 rintro _ w_b ⟨b, rfl, hg_b, hs_b, hB_b, hk_b⟩
 have hge_b : _ ≤ b := Nat.le_trans hE.size (Nat.le_of_eq hg_b.symm)
 obtain ⟨hE, hvs, hk⟩ := Tr3 hk_b hE hvs hk
 refine Gs 6 rfl (G.ld rfl Tryz.isAgg81 (hB_b.cells 0 _ rfl) (G.call rfl Tryz.call161 (refKids_ok t.op _) ?_))
 rintro _ wz1 ⟨rfl, hz1⟩
 obtain ⟨hE, hvs, hk, hB_b⟩ := Tr4 hz1 hE hvs hk hB_b
 refine Gs 5 rfl (G.cut (σ := Bool) (fun q => [(0, .slice av vs.length nv), (2, .bool inp), (4, .pointer (some ⟨b, 0, none⟩)), (40, .bool q)]) (fun q => fun w' => q = (!kidsFit t.op t.kids.length) ∧ w' = wz1) ?_ ?_)
 ·
  refine Gs 4 rfl (G.sp 14 rfl (fun h1 => ?_) (fun h1 => ?_))
  · refine Gs 27 rfl (G.meet (true) (Sub.cons rfl (Sub.cons rfl (Sub.cons rfl (Sub.cons (by first | rfl | (show some (Value.bool true) = some (Value.bool _); simp [*])) Sub.nil)))) (⟨by rw [kidsFit_no (.inl h1)]; rfl, rfl⟩))
  ·
   refine Gs 3 rfl (G.sp 17 rfl (fun h2 => ?_) (fun h2 => ?_))
   ·
    refine Gs 1 rfl (G.ld rfl Tryz.isAgg82 (hB_b.cells 2 _ rfl) (Gs 6 rfl (G.sp 25 rfl (fun h3 => ?_) (fun h3 => ?_))))
    · refine Gs 16 rfl (G.meet (true) (Sub.cons rfl (Sub.cons rfl (Sub.cons rfl (Sub.cons (by first | rfl | (show some (Value.bool true) = some (Value.bool _); simp [*])) Sub.nil)))) (⟨by rw [kidsFit_no (.inr (.inl ⟨by omega, h3⟩))]; rfl, rfl⟩))
    ·
     refine Gs 3 rfl (G.sp 28 rfl (fun h4 => ?_) (fun h4 => ?_))
     · exact absurd h4 (by omega)
     · refine Gs 13 rfl (G.meet (false) (Sub.cons rfl (Sub.cons rfl (Sub.cons rfl (Sub.cons (by first | rfl | (show some (Value.bool false) = some (Value.bool _); simp [*])) Sub.nil)))) (⟨by rw [kidsFit_yes (.inl ⟨by omega, by omega⟩)]; rfl, rfl⟩))
   ·
    refine Gs 11 rfl (G.sp 28 rfl (fun h4 => ?_) (fun h4 => ?_))
    ·
     refine Gs 1 rfl (G.ld rfl Tryz.isAgg82 (hB_b.cells 2 _ rfl) (Gs 3 rfl (G.sp 33 rfl (fun h5 => ?_) (fun h5 => ?_))))
     · refine Gs 8 rfl (G.meet (true) (Sub.cons rfl (Sub.cons rfl (Sub.cons rfl (Sub.cons (by first | rfl | (show some (Value.bool true) = some (Value.bool _); simp [*])) Sub.nil)))) (⟨by rw [kidsFit_no (.inr (.inr ⟨h4, by omega⟩))]; rfl, rfl⟩))
     ·
      refine Gs 1 rfl (G.ld rfl Tryz.isAgg82 (hB_b.cells 2 _ rfl) (Gs 6 rfl (G.meet (decide ((33 : Int) < (t.kids.length : Int))) (Sub.of rfl) (⟨?_, rfl⟩))))
      by_cases h6 : (33 : Int) < (t.kids.length : Int)
      · rw [kidsFit_no (.inr (.inr ⟨h4, by omega⟩)), decide_eq_true h6]; rfl
      · rw [kidsFit_yes (.inr ⟨h4, by omega, by omega⟩), decide_eq_false h6]; rfl
    · exact absurd h4 (by omega)
 rintro q w2 ⟨hq, hw2⟩
 subst hw2
 refine Gs 1 rfl (G.bool rfl (fun hq1 => ?_) (fun hq1 => ?_))
 ·
  have hf : kidsFit t.op t.kids.length = false := by rw [hq1] at hq; simpa using hq.symm
  refine Gs 7 rfl (G.ret1 Tryz.results114 rfl ⟨_, rfl, by rw [hfe, hf]; rfl, hE⟩)
 ·
  have hf : kidsFit t.op t.kids.length = true := by rw [hq1] at hq; simpa using hq.symm
  rw [hf, Bool.true_and] at hfe
  refine Gs 6 rfl (G.ld rfl Tryz.isAgg81 (hB_b.cells 0 _ rfl) (Gs 3 rfl (G.cut (σ := Unit) (fun u => [(0, .slice av vs.length nv), (2, .bool inp), (4, .pointer (some ⟨b, 0, none⟩))]) (fun u => fun w' => refFit vs inp t.op t.n = true ∧ w' = w2) ?_ ?_)))
  ·
   refine G.ite rfl (fun h24 => ?_) (fun h24 => ?_)
   ·
    have hrn : ¬ (0 ≤ t.n ∧ t.n < vs.length) → formedT vs inp t = false := fun h => by rw [hfe, h24, refFit_out h]; rfl
    refine Gs 3 rfl (G.ld rfl Tryz.isAgg3 (hB_b.cells 1 _ rfl) (Gs 2 rfl (G.sp 47 rfl (fun n0 => ?_) (fun n0 => ?_))))
    · refine Gs 29 rfl (G.ret1 Tryz.results114 rfl ⟨_, rfl, by rw [hrn (by omega)], hE⟩)
    ·
     refine Gs 1 rfl (G.ld rfl Tryz.isAgg3 (hB_b.cells 1 _ rfl) (Gs 5 rfl (G.sp 54 rfl (fun n1 => ?_) (fun n1 => ?_))))
     · refine Gs 22 rfl (G.ret1 Tryz.results114 rfl ⟨_, rfl, by rw [hrn (by omega)], hE⟩)
     ·
      obtain ⟨x, he_x⟩ : ∃ x, vs[t.n.toNat]? = some x := ⟨_, List.getElem?_eq_getElem (by omega)⟩
      have hm_x := List.mem_of_getElem? he_x
      obtain ⟨b_x, o_x, c_x, ha_x, _, hc_x, hR_x⟩ := hvs.at he_x
      have h1_x := RVr.one hR_x
      obtain rfl := hR_x
      have hlt_x : b_x < _ := World.block_lt_of_cell? _ _ (hc_x 0 _ rfl)
      have hrf := refFit_ref (vs := vs) (inp := inp) (n := t.n) ⟨by omega, by omega⟩ he_x
      refine Gs 2 rfl (G.sb 56 rfl (fun hi => ?_) (fun hi => ?_))
      ·
       refine Gs 2 rfl (G.ld rfl Tryz.isAgg3 (hB_b.cells 1 _ rfl) (G.ops1 rfl rfl (R.indexS Tryz.runUnderlying22 Tryz.sizeOf125 rfl rfl ha_x (by omega)) (Gs 1 rfl (G.ld rfl Tryz.isAgg121 (hc_x 1 _ rfl) (Gs 5 rfl (G.ite rfl (fun hk0 => ?_) (fun hk0 => ?_)))))))
       · refine Gs 8 rfl (G.ret1 Tryz.results114 rfl ⟨_, rfl, by rw [hfe, h24, hrf, hi, decide_eq_true hk0]; rfl, hE⟩)
       · refine Gs 1 rfl (G.meet (()) (Sub.of rfl) (⟨by rw [h24, hrf, hi, decide_eq_false hk0]; rfl, rfl⟩))
      · refine Gs 13 rfl (G.meet (()) (Sub.of rfl) (⟨by rw [h24, hrf, hi]; rfl, rfl⟩))
   ·
    have hrf := refFit_else (vs := vs) (inp := inp) (n := t.n) h24
    refine Gs 3 rfl (G.ld rfl Tryz.isAgg81 (hB_b.cells 0 _ rfl) (Gs 2 rfl (G.sp 69 rfl (fun o0 => ?_) (fun o0 => ?_))))
    ·
     refine Gs 1 rfl (G.ld rfl Tryz.isAgg3 (hB_b.cells 1 _ rfl) (Gs 4 rfl (G.ite rfl (fun n0 => ?_) (fun n0 => ?_))))
     · refine Gs 8 rfl (G.ret1 Tryz.results114 rfl ⟨_, rfl, by rw [hfe, hrf, decide_eq_false (by omega)]; rfl, hE⟩)
     · refine Gs 1 rfl (G.meet (()) (Sub.of rfl) (⟨by rw [hrf, decide_eq_true (by omega)], rfl⟩))
    · refine Gs 8 rfl (G.meet (()) (Sub.of rfl) (⟨by rw [hrf, decide_eq_true (by omega)], rfl⟩))
  rintro u w3 ⟨hrf, hw3⟩
  subst hw3
  rw [hrf, Bool.true_and] at hfe
  refine Gs 8 rfl (G.loop (σ := Nat) (fun i => [(0, .slice av vs.length nv), (2, .bool inp), (4, .pointer (some ⟨b, 0, none⟩)), (8, .int .i64 i)]) (fun i => fun w' => i ≤ t.kids.length ∧ formedL vs inp (t.kids.take i) = true ∧ Ext w3 w') (fun i => t.kids.length - i) (0) (Sub.of rfl) (⟨Nat.zero_le _, by simp [formedL], Keep.refl _ _⟩) ?_)
  rintro i w4 ⟨hi, hall, hL1⟩
  obtain ⟨hE, hvs, hk, hB_b⟩ := Tr4 hL1 hE hvs hk hB_b
  refine Gs 5 rfl (G.ld rfl Tryz.isAgg82 (hB_b.cells 2 _ rfl) (Gs 4 rfl (G.ite rfl (fun hlt => ?_) (fun hlt => ?_))))
  ·
   obtain ⟨k, he_k⟩ : ∃ x, t.kids[i]? = some x := ⟨_, List.getElem?_eq_getElem (by omega)⟩
   have hm_k := List.mem_of_getElem? he_k
   obtain ⟨b_k, o_k, c_k, ha_k, _, hc_k, hR_k⟩ := hk.at he_k
   have h1_k := RTm.one hR_k
   obtain ⟨v1_k, rfl, hk_k⟩ := hR_k.get
   obtain ⟨a1_k, n1_k, rfl⟩ := hk_k.form
   have hlt_k : b_k < _ := World.block_lt_of_cell? _ _ (hc_k 0 _ rfl)
   refine Gs 8 rfl (G.ld rfl Tryz.isAgg82 (hB_b.cells 2 _ rfl) (Gs 1 rfl (G.ops1 rfl rfl (R.indexS Tryz.runUnderlying82 Tryz.sizeOf84 rfl rfl ha_k (by omega)) (G.ldK rfl Tryz.isAgg84 Tryz.sizeOf84 hc_k rfl (Gs 1 rfl (G.call rfl Tryz.call114 (ih k hm_k _ D _ hvs (RTm.put hk_k)) ?_))))))
   rintro _ wz2 ⟨rfl, hz2⟩
   obtain ⟨hE, hvs, hk, hB_b, hL1, hc_k, hk_k⟩ := Tr7 hz2 hE hvs hk hB_b hL1 hc_k hk_k
   refine G.ops1 rfl rfl (R.notU rfl (by first | exact not_decide_eq | rfl)) (Gs 2 rfl (G.bool rfl (fun hb => ?_) (fun hb => ?_)))
   ·
    have hb' : formedT vs inp k = false := by simpa using hb
    refine Gs 11 rfl (G.ret1 Tryz.results114 rfl ⟨_, rfl, by rw [hfe, formedL_bad hm_k hb'], hE⟩)
   ·
    have hb' : formedT vs inp k = true := by simpa using hb
    refine Ga 8 rfl (by omega) (G.back (i + 1) (Sub.of rfl) (⟨by omega, by rw [formedL_take he_k, hall, hb']; rfl, hL1⟩) (by first | omega | (dsimp only; omega)))
  ·
   have : i = t.kids.length := by omega
   subst this
   rw [List.take_length] at hall
   refine Gs 11 rfl (G.ret1 Tryz.results114 rfl ⟨_, rfl, by rw [hfe, hall], hE⟩)
theorem flatFormed_ok (vs : List Vr) (inp : Bool) (vv : Value) (Dv : Nat → Prop) (t : Tm) : ∀ (cs : List Value) (D : Nat → Prop) (w : World), SlR 5 RVr Dv w vv vs → RTm D w t cs → Calls Tryz.prog 196 #[vv, .agg cs.toArray, .bool inp] w (Ret fun r w' => r = .bool (formedT vs inp t) ∧ Ext w w') := by
 induction t using Tm.ind with
 | h t ih =>
 intro cs D w hvs ht
 have hcs1 := ht.one
 obtain ⟨v, rfl, hk⟩ := ht.get
 have hmx := hk.max
 obtain ⟨ao, cap, rfl⟩ := hk.form
 obtain ⟨av, nv, rfl⟩ := hvs.form
 have hfe := formedT_eq (vs := vs) (inp := inp) t
 have hkv := kidsN_vals t.op
 have hE := Keep.refl (fun _ => False) w
 refine G.in3 Tryz.func196 rfl Tryz.ntmps196 rfl (Gs 2 rfl (G.mem rfl rfl (M.box rfl rfl) ?_))
 rintro _ w_b ⟨b, rfl, hg_b, hs_b, hB_b, hk_b⟩
 have hge_b : _ ≤ b := Nat.le_trans hE.size (Nat.le_of_eq hg_b.symm)
 obtain ⟨hE, hvs, hk⟩ := Tr3 hk_b hE hvs hk
 refine Gs 6 rfl (G.ld rfl Tryz.isAgg81 (hB_b.cells 0 _ rfl) (G.call rfl Tryz.call218 (flatKids_ok t.op _) ?_))
 rintro _ wz1 ⟨⟨la, mo, rfl, hk1, hk2, hk3⟩, hz1⟩
 obtain ⟨hE, hvs, hk, hB_b⟩ := Tr4 hz1 hE hvs hk hB_b
 refine Gs 9 rfl (G.cut (σ := Bool) (fun q => [(0, .slice av vs.length nv), (2, .bool inp), (4, .pointer (some ⟨b, 0, none⟩)), (32, .bool q)]) (fun q => fun w' => q = (!kidsFit t.op t.kids.length) ∧ w' = wz1) ?_ ?_)
 ·
  refine Gs 4 rfl (G.sp 19 rfl (fun h1 => ?_) (fun h1 => ?_))
  · refine Gs 14 rfl (G.meet (true) (Sub.cons rfl (Sub.cons rfl (Sub.cons rfl (Sub.cons (by first | rfl | (show some (Value.bool true) = some (Value.bool _); simp [*])) Sub.nil)))) (⟨by rw [kidsFit_no (.inl (hk1.1 h1))]; rfl, rfl⟩))
  ·
   have h1' : kidsN t.op ≠ -1 := fun h => h1 (hk1.2 h)
   refine Gs 1 rfl (G.ld rfl Tryz.isAgg82 (hB_b.cells 2 _ rfl) (Gs 5 rfl (G.sp 26 rfl (fun h2 => ?_) (fun h2 => ?_))))
   ·
    refine Gs 7 rfl (G.meet (true) (Sub.cons rfl (Sub.cons rfl (Sub.cons rfl (Sub.cons (by first | rfl | (show some (Value.bool true) = some (Value.bool _); simp [*])) Sub.nil)))) (⟨?_, rfl⟩))
    rcases (show 0 ≤ kidsN t.op ∨ kidsN t.op = -2 by omega) with h | h
    ·
     have := hk2 h
     rw [kidsFit_no (.inr (.inl ⟨h, by omega⟩))]; rfl
    ·
     have := hk3 h
     rw [kidsFit_no (.inr (.inr ⟨h, by omega⟩))]; rfl
   ·
    refine Gs 1 rfl (G.ld rfl Tryz.isAgg82 (hB_b.cells 2 _ rfl) (Gs 5 rfl (G.meet (decide (mo < (t.kids.length : Int))) (Sub.of rfl) (⟨?_, rfl⟩))))
    rcases (show 0 ≤ kidsN t.op ∨ kidsN t.op = -2 by omega) with h | h
    ·
     have := hk2 h
     by_cases h3 : mo < (t.kids.length : Int)
     · rw [kidsFit_no (.inr (.inl ⟨h, by omega⟩)), decide_eq_true h3]; rfl
     · rw [kidsFit_yes (.inl ⟨h, by omega⟩), decide_eq_false h3]; rfl
    ·
     have := hk3 h
     by_cases h3 : mo < (t.kids.length : Int)
     · rw [kidsFit_no (.inr (.inr ⟨h, by omega⟩)), decide_eq_true h3]; rfl
     · rw [kidsFit_yes (.inr ⟨h, by omega, by omega⟩), decide_eq_false h3]; rfl
 rintro q w2 ⟨hq, hw2⟩
 subst hw2
 refine Gs 1 rfl (G.bool rfl (fun hq1 => ?_) (fun hq1 => ?_))
 ·
  have hf : kidsFit t.op t.kids.length = false := by rw [hq1] at hq; simpa using hq.symm
  refine Gs 7 rfl (G.ret1 Tryz.results196 rfl ⟨_, rfl, by rw [hfe, hf]; rfl, hE⟩)
 ·
  have hf : kidsFit t.op t.kids.length = true := by rw [hq1] at hq; simpa using hq.symm
  rw [hf, Bool.true_and] at hfe
  refine Gs 6 rfl (G.ld rfl Tryz.isAgg81 (hB_b.cells 0 _ rfl) (Gs 2 rfl (G.cut (σ := Unit) (fun u => [(0, .slice av vs.length nv), (2, .bool inp), (4, .pointer (some ⟨b, 0, none⟩))]) (fun u => fun w' => refFit vs inp t.op t.n = true ∧ w' = w2) ?_ ?_)))
  ·
   refine Gs 7 rfl (G.ite rfl (fun h0 => ?_) (fun h0 => ?_))
   ·
    have hrf := refFit_else (vs := vs) (inp := inp) (n := t.n) (show t.op ≠ 24 by omega)
    refine Gs 2 rfl (G.meet (()) (Sub.of rfl) (⟨by rw [hrf, decide_eq_true (by omega)], rfl⟩))
   ·
    refine Gs 6 rfl (G.ite rfl (fun h24 => ?_) (fun h24 => ?_))
    ·
     have hrn : ¬ (0 ≤ t.n ∧ t.n < vs.length) → formedT vs inp t = false := fun h => by rw [hfe, h24, refFit_out h]; rfl
     refine Gs 3 rfl (G.ld rfl Tryz.isAgg3 (hB_b.cells 1 _ rfl) (Gs 2 rfl (G.sp 45 rfl (fun n0 => ?_) (fun n0 => ?_))))
     · refine Gs 30 rfl (G.ret1 Tryz.results196 rfl ⟨_, rfl, by rw [hrn (by omega)], hE⟩)
     ·
      refine Gs 1 rfl (G.ld rfl Tryz.isAgg3 (hB_b.cells 1 _ rfl) (Gs 5 rfl (G.sp 52 rfl (fun n1 => ?_) (fun n1 => ?_))))
      · refine Gs 23 rfl (G.ret1 Tryz.results196 rfl ⟨_, rfl, by rw [hrn (by omega)], hE⟩)
      ·
       obtain ⟨x, he_x⟩ : ∃ x, vs[t.n.toNat]? = some x := ⟨_, List.getElem?_eq_getElem (by omega)⟩
       have hm_x := List.mem_of_getElem? he_x
       obtain ⟨b_x, o_x, c_x, ha_x, _, hc_x, hR_x⟩ := hvs.at he_x
       have h1_x := RVr.one hR_x
       obtain rfl := hR_x
       have hlt_x : b_x < _ := World.block_lt_of_cell? _ _ (hc_x 0 _ rfl)
       have hrf := refFit_ref (vs := vs) (inp := inp) (n := t.n) ⟨by omega, by omega⟩ he_x
       refine Gs 2 rfl (G.sb 54 rfl (fun hi => ?_) (fun hi => ?_))
       ·
        refine Gs 2 rfl (G.ld rfl Tryz.isAgg3 (hB_b.cells 1 _ rfl) (G.ops1 rfl rfl (R.indexS Tryz.runUnderlying22 Tryz.sizeOf125 rfl rfl ha_x (by omega)) (Gs 1 rfl (G.ld rfl Tryz.isAgg121 (hc_x 1 _ rfl) (Gs 5 rfl (G.ite rfl (fun hk0 => ?_) (fun hk0 => ?_)))))))
        · refine Gs 9 rfl (G.ret1 Tryz.results196 rfl ⟨_, rfl, by rw [hfe, h24, hrf, hi, decide_eq_true hk0]; rfl, hE⟩)
        · refine Gs 2 rfl (G.meet (()) (Sub.of rfl) (⟨by rw [h24, hrf, hi, decide_eq_false hk0]; rfl, rfl⟩))
       · refine Gs 14 rfl (G.meet (()) (Sub.of rfl) (⟨by rw [h24, hrf, hi]; rfl, rfl⟩))
    ·
     have hrf := refFit_else (vs := vs) (inp := inp) (n := t.n) h24
     refine Gs 3 rfl (G.ld rfl Tryz.isAgg3 (hB_b.cells 1 _ rfl) (Gs 3 rfl (G.ite rfl (fun n0 => ?_) (fun n0 => ?_))))
     · refine Gs 9 rfl (G.ret1 Tryz.results196 rfl ⟨_, rfl, by rw [hfe, hrf, decide_eq_false (by omega)]; rfl, hE⟩)
     · refine Gs 2 rfl (G.meet (()) (Sub.of rfl) (⟨by rw [hrf, decide_eq_true (by omega)], rfl⟩))
  rintro u w3 ⟨hrf, hw3⟩
  subst hw3
  rw [hrf, Bool.true_and] at hfe
  refine Gs 5 rfl (G.ld rfl Tryz.isAgg82 (hB_b.cells 2 _ rfl) (Gs 5 rfl (G.loop (σ := Nat) (fun i => [(0, .slice av vs.length nv), (2, .bool inp), (65, .slice ao t.kids.length cap), (66, .int .i64 t.kids.length), (67, .int .i64 i)]) (fun i => fun w' => i ≤ t.kids.length ∧ formedL vs inp (t.kids.take i) = true ∧ Ext w3 w') (fun i => t.kids.length - i) (0) (Sub.of rfl) (⟨Nat.zero_le _, by simp [formedL], Keep.refl _ _⟩) ?_)))
  rintro i w4 ⟨hi, hall, hL1⟩
  obtain ⟨hE, hvs, hk, hB_b⟩ := Tr4 hL1 hE hvs hk hB_b
  refine Gs 6 rfl (G.ite rfl (fun hlt => ?_) (fun hlt => ?_))
  ·
   obtain ⟨k, he_k⟩ : ∃ x, t.kids[i]? = some x := ⟨_, List.getElem?_eq_getElem (by omega)⟩
   have hm_k := List.mem_of_getElem? he_k
   obtain ⟨b_k, o_k, c_k, ha_k, _, hc_k, hR_k⟩ := hk.at he_k
   have h1_k := RTm.one hR_k
   obtain ⟨v1_k, rfl, hk_k⟩ := hR_k.get
   obtain ⟨a1_k, n1_k, rfl⟩ := hk_k.form
   have hlt_k : b_k < _ := World.block_lt_of_cell? _ _ (hc_k 0 _ rfl)
   refine Gs 6 rfl (G.ops1 rfl rfl (R.indexS Tryz.runUnderlying82 Tryz.sizeOf84 rfl rfl ha_k (by omega)) (G.ldK rfl Tryz.isAgg84 Tryz.sizeOf84 hc_k rfl (G.mem rfl rfl (M.alloc (cs := _) Tryz.zeroValue84 rfl) ?_)))
   rintro _ wa2 ⟨c, rfl, hg_c, hs_c, hB_c, hk_c⟩
   refine G.mem0 rfl (M.storeK Tryz.sizeOf84 rfl rfl rfl rfl h1_k hB_c (by simp)) ?_
   rintro w_c ⟨_, hB_c, hkk_c⟩
   replace hk_c := hk_c.trans hkk_c (fun q hq h => by have h : q = c := h; omega)
   have hn_b_c : b ≠ c := by have := hB_b.lt; omega
   have hge_c : _ ≤ c := Nat.le_trans hE.size (Nat.le_of_eq hg_c.symm)
   obtain ⟨hE, hvs, hk, hB_b, hL1, hc_k, hk_k⟩ := Tr7 hk_c hE hvs hk hB_b hL1 hc_k hk_k
   refine Gs 5 rfl (G.ldK rfl Tryz.isAgg84 Tryz.sizeOf84 hB_c.cells rfl (Gs 1 rfl (G.call rfl Tryz.call196 (ih k hm_k _ D _ hvs (RTm.put hk_k)) ?_)))
   rintro _ wz3 ⟨rfl, hz3⟩
   obtain ⟨hE, hvs, hk, hB_b, hL1, hc_k, hk_k⟩ := Tr7 hz3 hE hvs hk hB_b hL1 hc_k hk_k
   replace hB_c := Tr1 hz3 hB_c
   refine G.ops1 rfl rfl (R.notU rfl (by first | exact not_decide_eq | rfl)) (Gs 2 rfl (G.bool rfl (fun hb => ?_) (fun hb => ?_)))
   ·
    have hb' : formedT vs inp k = false := by simpa using hb
    refine Gs 11 rfl (G.ret1 Tryz.results196 rfl ⟨_, rfl, by rw [hfe, formedL_bad hm_k hb'], hE⟩)
   ·
    have hb' : formedT vs inp k = true := by simpa using hb
    refine Ga 7 rfl (by omega) (G.back (i + 1) (Sub.of rfl) (⟨by omega, by rw [formedL_take he_k, hall, hb']; rfl, hL1⟩) (by first | omega | (dsimp only; omega)))
  ·
   have : i = t.kids.length := by omega
   subst this
   rw [List.take_length] at hall
   refine Gs 11 rfl (G.ret1 Tryz.results196 rfl ⟨_, rfl, by rw [hfe, hall], hE⟩)
open Go.GL
abbrev Rg := Int × Int
def okR (r : Rg) : Bool := decide (-1048576 ≤ r.1 ∧ r.2 ≤ 1048576)
def Good (r : Rg) : Prop := -1048576 ≤ r.1 ∧ r.1 ≤ r.2 ∧ r.2 ≤ 1048576
def hullL (x : Rg) (l : List Rg) : Rg := l.foldl (fun o r => (min o.1 r.1, max o.2 r.2)) x
def cornersI (a b : Rg) : Rg := hullL (a.1 * b.1, a.1 * b.1) [(a.1 * b.2, a.1 * b.2), (a.2 * b.1, a.2 * b.1), (a.2 * b.2, a.2 * b.2)]
theorem hullL_take {x : Rg} {l : List Rg} {i : Nat} {r : Rg} (h : l[i]? = some r) : hullL x (l.take (i + 1)) = (min (hullL x (l.take i)).1 r.1, max (hullL x (l.take i)).2 r.2) := by
 rw [take_get h]; simp [hullL]
theorem mul_le {x y : Int} (hx : -1048576 ≤ x ∧ x ≤ 1048576) (hy : -1048576 ≤ y ∧ y ≤ 1048576) : -1099511627776 ≤ x * y ∧ x * y ≤ 1099511627776 := by
 have h1 := Int.natAbs_mul x y
 have h2 : x.natAbs * y.natAbs ≤ 1048576 * 1048576 := Nat.mul_le_mul (by omega) (by omega)
 omega
theorem hull_ok (a b : Rg) (w : World) : Calls Tryz.prog 228 #[.agg #[.int .i64 a.1, .int .i64 a.2], .agg #[.int .i64 b.1, .int .i64 b.2]] w (Ret fun r w' => r = .agg #[.int .i64 (min a.1 b.1), .int .i64 (max a.2 b.2)] ∧ Ext w w') := by
 have hE := Keep.refl (fun _ => False) w
 refine G.in2 Tryz.func228 rfl Tryz.ntmps228 rfl (Gs 2 rfl (G.mem rfl rfl (M.box rfl rfl) ?_))
 rintro _ w_x ⟨x, rfl, hg_x, hs_x, hB_x, hk_x⟩
 have hge_x : _ ≤ x := Nat.le_trans hE.size (Nat.le_of_eq hg_x.symm)
 replace hE := Tr1 hk_x hE
 refine G.mem rfl rfl (M.box rfl rfl) ?_
 rintro _ w_y ⟨y, rfl, hg_y, hs_y, hB_y, hk_y⟩
 have hn_x_y : x ≠ y := by have := hB_x.lt; omega
 have hge_y : _ ≤ y := Nat.le_trans hE.size (Nat.le_of_eq hg_y.symm)
 obtain ⟨hE, hB_x⟩ := Tr2 hk_y hE hB_x
 refine G.mem rfl rfl (M.alloc (cs := _) Tryz.zeroValue243 rfl) ?_
 rintro _ w_r ⟨r, rfl, hg_r, hs_r, hB_r, hk_r⟩
 have hn_x_r : x ≠ r := by have := hB_x.lt; omega
 have hn_y_r : y ≠ r := by have := hB_y.lt; omega
 have hge_r : _ ≤ r := Nat.le_trans hE.size (Nat.le_of_eq hg_r.symm)
 obtain ⟨hE, hB_x, hB_y⟩ := Tr3 hk_r hE hB_x hB_y
 refine Gs 5 rfl (G.ld rfl Tryz.isAgg3 (hB_x.cells 0 _ rfl) (Gs 1 rfl (G.ld rfl Tryz.isAgg3 (hB_y.cells 0 _ rfl) (Gs 2 rfl (G.ld rfl Tryz.isAgg3 (hB_x.cells 1 _ rfl) (Gs 1 rfl (G.ld rfl Tryz.isAgg3 (hB_y.cells 1 _ rfl) (Gs 1 rfl (G.ops1 rfl rfl (R.build (v := .agg #[.int .i64 (min a.1 b.1), .int .i64 (max a.2 b.2)]) [(0, _), (1, _)] rfl (fun _ => by kernel_rfl)) (G.mem0 rfl (M.storeK Tryz.sizeOf243 rfl rfl rfl rfl (by simp [Value.oneCell']) hB_r (by simp)) ?_))))))))))
 rintro wf ⟨_, hBf, hkf⟩
 refine Gs 3 rfl (G.retC Tryz.results228 rfl (run_loadK Tryz.isAgg243 Tryz.sizeOf243 rfl hBf.cells) ?_)
 exact ⟨_, rfl, rfl, hE.trans hkf (fun q hq h => by have h : q = r := h; omega)⟩
theorem mulF_ok (a b : Int) (w : World) (ha : -1048576 ≤ a ∧ a ≤ 1048576) (hb : -1048576 ≤ b ∧ b ≤ 1048576) : Calls Tryz.prog 227 #[.int .i64 a, .int .i64 b] w (Ret fun r w' => r = .int .i64 (a * b) ∧ Ext w w') := by
 have := mul_le ha hb
 refine G.in2 Tryz.func227 rfl Tryz.ntmps227 rfl (Ga 14 rfl (by omega) (G.ret1 Tryz.results227 rfl ⟨_, rfl, rfl, Keep.refl _ _⟩))
theorem corners_ok (a b : Rg) (w : World) (ha : Good a) (hb : Good b) : Calls Tryz.prog 226 #[.agg #[.int .i64 a.1, .int .i64 a.2], .agg #[.int .i64 b.1, .int .i64 b.2], .func (.func 227) #[] #[]] w (Ret fun r w' => r = .agg #[.int .i64 (cornersI a b).1, .int .i64 (cornersI a b).2] ∧ Ext w w') := by
 unfold Good at ha hb
 have hE := Keep.refl (fun _ => False) w
 refine G.in3 Tryz.func226 rfl Tryz.ntmps226 rfl (Gs 2 rfl (G.mem rfl rfl (M.box rfl rfl) ?_))
 rintro _ w_x ⟨x, rfl, hg_x, hs_x, hB_x, hk_x⟩
 have hge_x : _ ≤ x := Nat.le_trans hE.size (Nat.le_of_eq hg_x.symm)
 replace hE := Tr1 hk_x hE
 refine G.mem rfl rfl (M.box rfl rfl) ?_
 rintro _ w_y ⟨y, rfl, hg_y, hs_y, hB_y, hk_y⟩
 have hn_x_y : x ≠ y := by have := hB_x.lt; omega
 have hge_y : _ ≤ y := Nat.le_trans hE.size (Nat.le_of_eq hg_y.symm)
 obtain ⟨hE, hB_x⟩ := Tr2 hk_y hE hB_x
 refine G.mem rfl rfl (M.alloc (cs := _) Tryz.zeroValue243 rfl) ?_
 rintro _ w_r ⟨r, rfl, hg_r, hs_r, hB_r, hk_r⟩
 have hn_x_r : x ≠ r := by have := hB_x.lt; omega
 have hn_y_r : y ≠ r := by have := hB_y.lt; omega
 have hge_r : _ ≤ r := Nat.le_trans hE.size (Nat.le_of_eq hg_r.symm)
 obtain ⟨hE, hB_x, hB_y⟩ := Tr3 hk_r hE hB_x hB_y
 refine Gs 6 rfl (G.ld rfl Tryz.isAgg3 (hB_x.cells 0 _ rfl) (Gs 1 rfl (G.ld rfl Tryz.isAgg3 (hB_y.cells 0 _ rfl) (G.callV rfl Tryz.call227 (mulF_ok a.1 b.1 _ (by omega) (by omega)) ?_))))
 rintro _ wz1 ⟨rfl, hz1⟩
 obtain ⟨hE, hB_x, hB_y, hB_r⟩ := Tr4 hz1 hE hB_x hB_y hB_r
 refine Gs 7 rfl (G.ops1 rfl rfl (R.build (v := .agg #[.int .i64 (a.1 * b.1), .int .i64 (a.1 * b.1)]) [(0, _), (1, _)] rfl (fun _ => by kernel_rfl)) (G.mem rfl rfl (M.alloc (cs := _) Tryz.zeroValue243 rfl) ?_))
 rintro _ wa2 ⟨o, rfl, hg_o, hs_o, hB_o, hk_o⟩
 refine G.mem0 rfl (M.storeK Tryz.sizeOf243 rfl rfl rfl rfl (by simp [Value.oneCell']) hB_o (by simp)) ?_
 rintro w_o ⟨_, hB_o, hkk_o⟩
 replace hk_o := hk_o.trans hkk_o (fun q hq h => by have h : q = o := h; omega)
 have hn_x_o : x ≠ o := by have := hB_x.lt; omega
 have hn_y_o : y ≠ o := by have := hB_y.lt; omega
 have hn_r_o : r ≠ o := by have := hB_r.lt; omega
 have hge_o : _ ≤ o := Nat.le_trans hE.size (Nat.le_of_eq hg_o.symm)
 obtain ⟨hE, hB_x, hB_y, hB_r⟩ := Tr4 hk_o hE hB_x hB_y hB_r
 refine Gs 4 rfl (Dw (fun q => Ext w_o q) [] (fun wd3 hD _ => ?_))
 refine Ds [0, 1] (by kernel_rfl) rfl (WD.take 2 rfl (by kernel_rfl) rfl rfl rfl hD (fun w1 hw1 => R.load Tryz.isAgg3 rfl ((hw1.blk hB_x (fun h => h)).cells 0 _ rfl)) (Ds [3] (by kernel_rfl) rfl (WD.take 4 rfl (by kernel_rfl) rfl rfl rfl hD (fun w1 hw1 => R.load Tryz.isAgg3 rfl ((hw1.blk hB_y (fun h => h)).cells 1 _ rfl)) (Ds [6, 7] (by kernel_rfl) rfl (WD.take 8 rfl (by kernel_rfl) rfl rfl rfl hD (fun w1 hw1 => R.load Tryz.isAgg3 rfl ((hw1.blk hB_x (fun h => h)).cells 1 _ rfl)) (Ds [9] (by kernel_rfl) rfl (WD.take 10 rfl (by kernel_rfl) rfl rfl rfl hD (fun w1 hw1 => R.load Tryz.isAgg3 rfl ((hw1.blk hB_y (fun h => h)).cells 0 _ rfl)) ?_)))))))
 refine Ds [12, 13] (by kernel_rfl) rfl (WD.take 14 rfl (by kernel_rfl) rfl rfl rfl hD (fun w1 hw1 => R.load Tryz.isAgg3 rfl ((hw1.blk hB_x (fun h => h)).cells 1 _ rfl)) (Ds [15] (by kernel_rfl) rfl (WD.take 16 rfl (by kernel_rfl) rfl rfl rfl hD (fun w1 hw1 => R.load Tryz.isAgg3 rfl ((hw1.blk hB_y (fun h => h)).cells 1 _ rfl)) (Ds [20] (by kernel_rfl) rfl (WD.call 5 rfl (by kernel_rfl) rfl rfl rfl (F.callV (vs := [_, _]) Tryz.call227 rfl rfl) (mulF_ok a.1 b.2 _ (by omega) (by omega)) ?_)))))
 rintro _ wz4 ⟨rfl, hz4⟩
 replace hD := hD.ext hz4
 refine ⟨fun _ => hD, ?_⟩
 refine WD.call 11 rfl (by kernel_rfl) rfl rfl rfl (F.callV (vs := [_, _]) Tryz.call227 rfl rfl) (mulF_ok a.2 b.1 _ (by omega) (by omega)) ?_
 rintro _ wz5 ⟨rfl, hz5⟩
 replace hD := hD.ext hz5
 refine ⟨fun _ => hD, ?_⟩
 refine WD.call 17 rfl (by kernel_rfl) rfl rfl rfl (F.callV (vs := [_, _]) Tryz.call227 rfl rfl) (mulF_ok a.2 b.2 _ (by omega) (by omega)) ?_
 rintro _ wz6 ⟨rfl, hz6⟩
 replace hD := hD.ext hz6
 refine ⟨fun _ => hD, ?_⟩
 refine WD.mem 18 rfl (by kernel_rfl) rfl rfl rfl (M.buildSlice (cs := [.int .i64 (a.1 * b.2), .int .i64 (a.2 * b.1), .int .i64 (a.2 * b.2)]) [(0, _), (1, _), (2, _)] Tryz.runUnderlying50 Tryz.sizeOf3 Tryz.zeroValue3 (by decide) rfl (by kernel_rfl)) ?_
 rintro _ ws ⟨s, rfl, hg_s, hs_s, hB_s, hk_s⟩
 have hEs := hD.ext hk_s
 have hso : s ≠ o := by have := hB_o.lt; have := hD.size; omega
 refine ⟨fun _ => hEs, ?_⟩
 refine Ds [19] (by kernel_rfl) rfl (G.done (by kernel_rfl) ?_ _)
 obtain ⟨hE, hB_x, hB_y, hB_r, hB_o⟩ := Tr5 hEs hE hB_x hB_y hB_r hB_o
 obtain ⟨es, hes⟩ : ∃ es : List Int, es = [a.1 * b.2, a.2 * b.1, a.2 * b.2] := ⟨_, rfl⟩
 have hel : es.length = 3 := by rw [hes]; rfl
 have hBs : Blk ws s (es.map (.int .i64)) 3 := by rw [hes]; exact hB_s
 have hp := mul_le (x := a.1) (y := b.1) (by omega) (by omega)
 refine Gs 2 rfl (G.loop (σ := Nat) (fun k => [(6, .pointer (some ⟨r, 0, none⟩)), (8, .pointer (some ⟨o, 0, none⟩)), (38, .slice (some ⟨s, 0, none⟩) 3 3), (39, .int .i64 3), (40, .int .i64 k)]) (fun k => fun w' => k ≤ 3 ∧ Blk w' o [.int .i64 (hullL (a.1 * b.1, a.1 * b.1) ((es.map (fun x => (x, x))).take k)).1, .int .i64 (hullL (a.1 * b.1, a.1 * b.1) ((es.map (fun x => (x, x))).take k)).2] 243 ∧ Keep (fun q => q = o) ws w') (fun k => 3 - k) (0) (Sub.of rfl) (⟨Nat.zero_le _, hB_o, Keep.refl _ _⟩) ?_)
 rintro k w1 ⟨hk, hB_o, hk1⟩
 refine Gs 6 rfl (G.ite rfl (fun hlt => ?_) (fun hlt => ?_))
 ·
  obtain ⟨x, hx⟩ : ∃ x, es[k]? = some x := ⟨_, List.getElem?_eq_getElem (by omega)⟩
  refine Ga 7 rfl (by omega) (G.ld rfl Tryz.isAgg3 ((hk1.blk hBs hso).cells.el1 k rfl (by rw [List.getElem?_map, hx]; rfl)) ?_)
  refine Gs 4 rfl (G.ldK rfl Tryz.isAgg243 Tryz.sizeOf243 hB_o.cells rfl (Gs 2 rfl (G.ops1 rfl rfl (R.build (v := .agg #[.int .i64 x, .int .i64 x]) [(0, _), (1, _)] rfl (fun _ => by kernel_rfl)) (G.call rfl Tryz.call228 (hull_ok (hullL (a.1 * b.1, a.1 * b.1) ((es.map (fun x => (x, x))).take k)) (x, x) w1) ?_))))
  rintro _ w2 ⟨rfl, hk2⟩
  refine G.mem0 rfl (M.storeK Tryz.sizeOf243 rfl rfl rfl rfl (by simp [Value.oneCell']) (hk2.blk hB_o (fun h => h)) (by simp)) ?_
  rintro w3 ⟨_, hB3, hk3⟩
  refine Ga 7 rfl (by omega) (G.back (k + 1) (Sub.of rfl) (⟨by omega, ?_, (hk1.ext hk2).trans hk3 (fun _ _ h => h)⟩) (by first | omega | (dsimp only; omega)))
  rw [hullL_take (show (es.map (fun x => (x, x)))[k]? = some (x, x) by rw [List.getElem?_map, hx]; rfl)]
  exact hB3
 ·
  have hk3 : k = 3 := by omega
  subst hk3
  have hr1 := hk1.blk hB_r hn_r_o
  have e : hullL (a.1 * b.1, a.1 * b.1) ((es.map (fun x => (x, x))).take 3) = cornersI a b := by rw [hes]; rfl
  rw [e] at hB_o
  refine Gs 7 rfl (G.ldK rfl Tryz.isAgg243 Tryz.sizeOf243 hB_o.cells rfl (G.mem0 rfl (M.storeK Tryz.sizeOf243 rfl rfl rfl rfl (by simp [Value.oneCell']) hr1 (by simp)) ?_))
  rintro wf ⟨_, hBf, hkf⟩
  refine Gs 3 rfl (G.retC Tryz.results226 rfl (run_loadK Tryz.isAgg243 Tryz.sizeOf243 rfl hBf.cells) ?_)
  exact ⟨_, rfl, rfl, (hE.trans hk1 (fun q hq h => by have h : q = o := h; omega)).trans hkf (fun q hq h => by have h : q = r := h; omega)⟩
def at2 (l : List Rg) (i : Nat) : Rg := l[i]?.getD (0, 0)
theorem at2_eq {l : List Rg} {i : Nat} {x : Rg} (h : l[i]? = some x) : at2 l i = x := by simp [at2, h]
def vat (vs : List Vr) (n : Int) : Rg := match vs[n.toNat]? with
 | some v => (v.low, v.high)
 | none => (0, 0)
theorem vat_eq {vs : List Vr} {n : Int} {v : Vr} (h : vs[n.toNat]? = some v) : vat vs n = (v.low, v.high) := by simp [vat, h]
def spanOf (vs : List Vr) (op n : Int) (l : List Rg) : Rg :=
 if op = 0 then (n, n)
 else if op = 24 then vat vs n
 else if op = 6 then (-(at2 l 0).2, -(at2 l 0).1)
 else if op = 8 then ((at2 l 0).1 + (at2 l 1).1, (at2 l 0).2 + (at2 l 1).2)
 else if op = 9 then ((at2 l 0).1 - (at2 l 1).2, (at2 l 0).2 - (at2 l 1).1)
 else if op = 10 then cornersI (at2 l 0) (at2 l 1)
 else if op = 11 then (if 0 ≤ (at2 l 0).1 ∧ 0 ≤ (at2 l 1).1 then 0 else -(max (at2 l 0).2 (-(at2 l 0).1)), max (at2 l 0).2 (-(at2 l 0).1))
 else if op = 12 then (if (at2 l 1).1 < 0 then min ((at2 l 1).1 + 1) 0 else 0, if 0 < (at2 l 1).2 then max ((at2 l 1).2 - 1) 0 else 0)
 else if op = 21 then (min (at2 l 0).1 (at2 l 1).1, min (at2 l 0).2 (at2 l 1).2)
 else if op = 22 then (max (at2 l 0).1 (at2 l 1).1, max (at2 l 0).2 (at2 l 1).2)
 else if op = 23 ∨ op = 25 then hullL (at2 l 1) (l.drop 2)
 else (0, 1)
structure NodeOk (vs : List Vr) (op n : Int) (l : List Rg) : Prop where
 k0 : op = 0 ∨ op = 24 → l.length = 0
 k1 : op = 6 ∨ op = 7 → l.length = 1
 k2 : 8 ≤ op ∧ op ≤ 22 → l.length = 2
 k3 : op = 23 ∨ op = 25 → 2 ≤ l.length ∧ l.length ≤ 33
 good : ∀ r ∈ l, Good r
 var : op = 24 → 0 ≤ n ∧ n < vs.length
 vars : ∀ v ∈ vs, Good (v.low, v.high)
theorem nodeOk_of {vs : List Vr} {inp : Bool} {op n : Int} {l : List Rg} {k : Nat} (hl : l.length = k) (h1 : kidsFit op k = true) (h2 : refFit vs inp op n = true) (hg : ∀ r ∈ l, Good r) (hv : ∀ v ∈ vs, Good (v.low, v.high)) : NodeOk vs op n l := by
 have h3 : (0 ≤ kidsN op → (l.length : Int) = kidsN op) ∧ (¬ 0 ≤ kidsN op → 2 ≤ l.length ∧ l.length ≤ 33) := by
  unfold kidsFit at h1
  rw [hl]
  constructor
  · intro h; rw [if_pos h] at h1; exact of_decide_eq_true h1
  · intro h; rw [if_neg h] at h1; exact (of_decide_eq_true h1).2
 unfold kidsN at h3
 refine ⟨fun h => ?_, fun h => ?_, fun h => ?_, fun h => ?_, hg, fun h => ?_, hv⟩
 · rw [if_pos h] at h3; have := h3.1 (by omega); omega
 · rw [if_neg (by omega), if_pos h] at h3; have := h3.1 (by omega); omega
 · rw [if_neg (by omega), if_neg (by omega), if_pos h] at h3; have := h3.1 (by omega); omega
 ·
  rcases h with h | h
  · rw [if_neg (by omega), if_neg (by omega), if_neg (by omega), if_pos h] at h3; have := h3.1 (by omega); omega
  · rw [if_neg (by omega), if_neg (by omega), if_neg (by omega), if_neg (by omega), if_pos h] at h3; exact h3.2 (by omega)
 ·
  unfold refFit at h2
  rw [if_pos h, Bool.and_eq_true] at h2
  exact of_decide_eq_true h2.1
theorem rule_ok (vs : List Vr) (t : Tm) (ks : List Rg) (vv kv : Value) (cs : List Value) (Dv D Dk : Nat → Prop) (w : World) (hvs : SlR 5 RVr Dv w vv vs) (ht : RTm D w t cs) (hks : SlR 2 RPair Dk w kv ks) (hn : NodeOk vs t.op t.n ks) : Calls Tryz.prog 219 #[vv, .agg cs.toArray, kv] w (Ret fun r w' => r = .agg #[.int .i64 (spanOf vs t.op t.n ks).1, .int .i64 (spanOf vs t.op t.n ks).2] ∧ Ext w w') := by
 obtain ⟨v, rfl, hk⟩ := ht.get
 obtain ⟨av, nv, rfl⟩ := hvs.form
 obtain ⟨ak, nk, rfl⟩ := hks.form
 have hmx := hks.max
 have hE := Keep.refl (fun _ => False) w
 refine G.in3 Tryz.func219 rfl Tryz.ntmps219 rfl (Gs 2 rfl (G.mem rfl rfl (M.box rfl rfl) ?_))
 rintro _ w_b ⟨b, rfl, hg_b, hs_b, hB_b, hk_b⟩
 have hge_b : _ ≤ b := Nat.le_trans hE.size (Nat.le_of_eq hg_b.symm)
 obtain ⟨hE, hvs, hks⟩ := Tr3 hk_b hE hvs hks
 refine G.mem rfl rfl (M.alloc (cs := _) Tryz.zeroValue243 rfl) ?_
 rintro _ w_r ⟨r, rfl, hg_r, hs_r, hB_r, hk_r⟩
 have hn_b_r : b ≠ r := by have := hB_b.lt; omega
 have hge_r : _ ≤ r := Nat.le_trans hE.size (Nat.le_of_eq hg_r.symm)
 obtain ⟨hE, hvs, hks, hB_b⟩ := Tr4 hk_r hE hvs hks hB_b
 refine Gs 6 rfl (G.ld rfl Tryz.isAgg81 (hB_b.cells 0 _ rfl) (Gs 9 rfl (G.ite rfl (fun h0 => ?_) (fun h0 => ?_))))
 ·
  have e : spanOf vs t.op t.n ks = (t.n, t.n) := by rw [spanOf, if_pos h0]
  refine Gs 3 rfl (G.ld rfl Tryz.isAgg3 (hB_b.cells 1 _ rfl) (Gs 1 rfl (G.ld rfl Tryz.isAgg3 (hB_b.cells 1 _ rfl) (G.ops1 rfl rfl (R.build (v := .agg #[.int .i64 t.n, .int .i64 t.n]) [(0, _), (1, _)] rfl (fun _ => by kernel_rfl)) (G.mem0 rfl (M.storeK Tryz.sizeOf243 rfl rfl rfl rfl (by simp [Value.oneCell']) hB_r (by simp)) ?_)))))
  rintro wf ⟨_, hBf, hkf⟩
  refine Gs 5 rfl (G.retC Tryz.results219 rfl (run_loadK Tryz.isAgg243 Tryz.sizeOf243 rfl hBf.cells) ?_)
  exact ⟨_, rfl, by rw [e] <;> rfl, hE.trans hkf (fun q hq h => by have h : q = r := h; omega)⟩
 ·
  refine Gs 6 rfl (G.ite rfl (fun h24 => ?_) (fun h24 => ?_))
  ·
   have hv := hn.var h24
   obtain ⟨x, he_x⟩ : ∃ x, vs[t.n.toNat]? = some x := ⟨_, List.getElem?_eq_getElem (by omega)⟩
   have hm_x := List.mem_of_getElem? he_x
   obtain ⟨b_x, o_x, c_x, ha_x, _, hc_x, hR_x⟩ := hvs.at he_x
   have h1_x := RVr.one hR_x
   obtain rfl := hR_x
   have hlt_x : b_x < _ := World.block_lt_of_cell? _ _ (hc_x 0 _ rfl)
   have e : spanOf vs t.op t.n ks = (x.low, x.high) := by rw [spanOf, if_neg h0, if_pos h24, vat_eq he_x]
   refine Gs 1 rfl (Dw (fun q => Ext w_r q) [13] (fun wd1 hD _ => ?_))
   refine Ds [0, 1] (by kernel_rfl) rfl (WD.take 2 rfl (by kernel_rfl) rfl rfl rfl hD (fun w1 hw1 => R.load Tryz.isAgg3 rfl ((hw1.blk hB_b (fun h => h)).cells 1 _ rfl)) (WD.takeW 3 rfl (by kernel_rfl) rfl rfl rfl (fun w1 => R.indexS Tryz.runUnderlying22 Tryz.sizeOf125 rfl rfl ha_x (by omega)) (Ds [4] (by kernel_rfl) rfl (WD.take 5 rfl (by kernel_rfl) rfl rfl rfl hD (fun w1 hw1 => R.load Tryz.isAgg3 rfl ((hw1.cells hc_x (fun h => h)) 2 _ rfl)) (Ds [6, 7] (by kernel_rfl) rfl (WD.take 8 rfl (by kernel_rfl) rfl rfl rfl hD (fun w1 hw1 => R.load Tryz.isAgg3 rfl ((hw1.blk hB_b (fun h => h)).cells 1 _ rfl)) ?_))))))
   refine WD.takeW 9 rfl (by kernel_rfl) rfl rfl rfl (fun w1 => R.indexS Tryz.runUnderlying22 Tryz.sizeOf125 rfl rfl ha_x (by omega)) (Ds [10] (by kernel_rfl) rfl (WD.take 11 rfl (by kernel_rfl) rfl rfl rfl hD (fun w1 hw1 => R.load Tryz.isAgg3 rfl ((hw1.cells hc_x (fun h => h)) 3 _ rfl)) (WD.takeW 12 rfl (by kernel_rfl) rfl rfl rfl (fun w1 => R.build (v := .agg #[.int .i64 x.low, .int .i64 x.high]) [(0, _), (1, _)] rfl (fun _ => by kernel_rfl)) (WD.mem0 13 rfl (by kernel_rfl) rfl rfl (M.storeK Tryz.sizeOf243 rfl rfl rfl rfl (by simp [Value.oneCell']) (hD.blk hB_r (fun h => h)) (by simp)) ?_))))
   rintro wf ⟨_, hBf, hkf⟩
   refine ⟨fun h => absurd (by simp) h, ?_⟩
   refine G.done (by kernel_rfl) ?_ _
   refine Gs 4 rfl (G.retC Tryz.results219 rfl (run_loadK Tryz.isAgg243 Tryz.sizeOf243 rfl hBf.cells) ?_)
   exact ⟨_, rfl, by rw [e] <;> rfl, (hE.ext hD).trans hkf (fun q hq h => by have h : q = r := h; omega)⟩
  ·
   refine Gs 6 rfl (G.ite rfl (fun h6 => ?_) (fun h6 => ?_))
   ·
    have hl := hn.k1 (.inl h6)
    obtain ⟨x, he_x⟩ : ∃ x, ks[0]? = some x := ⟨_, List.getElem?_eq_getElem (by omega)⟩
    have hm_x := List.mem_of_getElem? he_x
    obtain ⟨b_x, o_x, c_x, ha_x, _, hc_x, hR_x⟩ := hks.at he_x
    obtain rfl := hR_x
    have hlt_x : b_x < _ := World.block_lt_of_cell? _ _ (hc_x 0 _ rfl)
    have hgx := hn.good x hm_x
    unfold Good at hgx
    have e : spanOf vs t.op t.n ks = (-x.2, -x.1) := by rw [spanOf, if_neg h0, if_neg h24, if_pos h6, at2_eq he_x]
    refine Gs 1 rfl (Dw (fun q => Ext w_r q) [11] (fun wd2 hD _ => ?_))
    refine Ds [0] (by kernel_rfl) rfl (WD.takeW 1 rfl (by kernel_rfl) rfl rfl rfl (fun w1 => R.indexS Tryz.runUnderlying261 Tryz.sizeOf243 rfl rfl ha_x (by omega)) (Ds [2] (by kernel_rfl) rfl (WD.take 3 rfl (by kernel_rfl) rfl rfl rfl hD (fun w1 hw1 => R.load Tryz.isAgg3 rfl ((hw1.cells hc_x (fun h => h)) 1 _ rfl)) (Da [4, 5] (by kernel_rfl) rfl (by omega) (WD.takeW 6 rfl (by kernel_rfl) rfl rfl rfl (fun w1 => R.indexS Tryz.runUnderlying261 Tryz.sizeOf243 rfl rfl ha_x (by omega)) (Ds [7] (by kernel_rfl) rfl (WD.take 8 rfl (by kernel_rfl) rfl rfl rfl hD (fun w1 hw1 => R.load Tryz.isAgg3 rfl ((hw1.cells hc_x (fun h => h)) 0 _ rfl)) ?_)))))))
    refine Da [9] (by kernel_rfl) rfl (by omega) (WD.takeW 10 rfl (by kernel_rfl) rfl rfl rfl (fun w1 => R.build (v := .agg #[.int .i64 (-x.2), .int .i64 (-x.1)]) [(0, _), (1, _)] rfl (fun _ => by kernel_rfl)) (WD.mem0 11 rfl (by kernel_rfl) rfl rfl (M.storeK Tryz.sizeOf243 rfl rfl rfl rfl (by simp [Value.oneCell']) (hD.blk hB_r (fun h => h)) (by simp)) ?_))
    rintro wf ⟨_, hBf, hkf⟩
    refine ⟨fun h => absurd (by simp) h, ?_⟩
    refine G.done (by kernel_rfl) ?_ _
    refine Gs 4 rfl (G.retC Tryz.results219 rfl (run_loadK Tryz.isAgg243 Tryz.sizeOf243 rfl hBf.cells) ?_)
    exact ⟨_, rfl, by rw [e] <;> rfl, (hE.ext hD).trans hkf (fun q hq h => by have h : q = r := h; omega)⟩
   ·
    refine Gs 6 rfl (G.ite rfl (fun h8 => ?_) (fun h8 => ?_))
    ·
     have hl := hn.k2 (by omega)
     obtain ⟨x, he_x⟩ : ∃ x, ks[0]? = some x := ⟨_, List.getElem?_eq_getElem (by omega)⟩
     have hm_x := List.mem_of_getElem? he_x
     obtain ⟨b_x, o_x, c_x, ha_x, _, hc_x, hR_x⟩ := hks.at he_x
     obtain rfl := hR_x
     have hlt_x : b_x < _ := World.block_lt_of_cell? _ _ (hc_x 0 _ rfl)
     obtain ⟨y, he_y⟩ : ∃ x, ks[1]? = some x := ⟨_, List.getElem?_eq_getElem (by omega)⟩
     have hm_y := List.mem_of_getElem? he_y
     obtain ⟨b_y, o_y, c_y, ha_y, _, hc_y, hR_y⟩ := hks.at he_y
     obtain rfl := hR_y
     have hlt_y : b_y < _ := World.block_lt_of_cell? _ _ (hc_y 0 _ rfl)
     have hgx := hn.good x hm_x
     have hgy := hn.good y hm_y
     unfold Good at hgx hgy
     have e : spanOf vs t.op t.n ks = (x.1 + y.1, x.2 + y.2) := by rw [spanOf, if_neg h0, if_neg h24, if_neg h6, if_pos h8, at2_eq he_x, at2_eq he_y]
     refine Gs 1 rfl (Dw (fun q => Ext w_r q) [19] (fun wd3 hD _ => ?_))
     refine Ds [0] (by kernel_rfl) rfl (WD.takeW 1 rfl (by kernel_rfl) rfl rfl rfl (fun w1 => R.indexS Tryz.runUnderlying261 Tryz.sizeOf243 rfl rfl ha_x (by omega)) (Ds [2] (by kernel_rfl) rfl (WD.take 3 rfl (by kernel_rfl) rfl rfl rfl hD (fun w1 hw1 => R.load Tryz.isAgg3 rfl ((hw1.cells hc_x (fun h => h)) 0 _ rfl)) (Ds [4] (by kernel_rfl) rfl (WD.takeW 5 rfl (by kernel_rfl) rfl rfl rfl (fun w1 => R.indexS Tryz.runUnderlying261 Tryz.sizeOf243 rfl rfl ha_y (by omega)) (Ds [6] (by kernel_rfl) rfl (WD.take 7 rfl (by kernel_rfl) rfl rfl rfl hD (fun w1 hw1 => R.load Tryz.isAgg3 rfl ((hw1.cells hc_y (fun h => h)) 0 _ rfl)) ?_)))))))
     refine Da [8, 9] (by kernel_rfl) rfl (by omega) (WD.takeW 10 rfl (by kernel_rfl) rfl rfl rfl (fun w1 => R.indexS Tryz.runUnderlying261 Tryz.sizeOf243 rfl rfl ha_x (by omega)) (Ds [11] (by kernel_rfl) rfl (WD.take 12 rfl (by kernel_rfl) rfl rfl rfl hD (fun w1 hw1 => R.load Tryz.isAgg3 rfl ((hw1.cells hc_x (fun h => h)) 1 _ rfl)) (Ds [13] (by kernel_rfl) rfl (WD.takeW 14 rfl (by kernel_rfl) rfl rfl rfl (fun w1 => R.indexS Tryz.runUnderlying261 Tryz.sizeOf243 rfl rfl ha_y (by omega)) (Ds [15] (by kernel_rfl) rfl (WD.take 16 rfl (by kernel_rfl) rfl rfl rfl hD (fun w1 hw1 => R.load Tryz.isAgg3 rfl ((hw1.cells hc_y (fun h => h)) 1 _ rfl)) ?_)))))))
     refine Da [17] (by kernel_rfl) rfl (by omega) (WD.takeW 18 rfl (by kernel_rfl) rfl rfl rfl (fun w1 => R.build (v := .agg #[.int .i64 (x.1 + y.1), .int .i64 (x.2 + y.2)]) [(0, _), (1, _)] rfl (fun _ => by kernel_rfl)) (WD.mem0 19 rfl (by kernel_rfl) rfl rfl (M.storeK Tryz.sizeOf243 rfl rfl rfl rfl (by simp [Value.oneCell']) (hD.blk hB_r (fun h => h)) (by simp)) ?_))
     rintro wf ⟨_, hBf, hkf⟩
     refine ⟨fun h => absurd (by simp) h, ?_⟩
     refine G.done (by kernel_rfl) ?_ _
     refine Gs 4 rfl (G.retC Tryz.results219 rfl (run_loadK Tryz.isAgg243 Tryz.sizeOf243 rfl hBf.cells) ?_)
     exact ⟨_, rfl, by rw [e] <;> rfl, (hE.ext hD).trans hkf (fun q hq h => by have h : q = r := h; omega)⟩
    ·
     refine Gs 6 rfl (G.ite rfl (fun h9 => ?_) (fun h9 => ?_))
     ·
      have hl := hn.k2 (by omega)
      obtain ⟨x, he_x⟩ : ∃ x, ks[0]? = some x := ⟨_, List.getElem?_eq_getElem (by omega)⟩
      have hm_x := List.mem_of_getElem? he_x
      obtain ⟨b_x, o_x, c_x, ha_x, _, hc_x, hR_x⟩ := hks.at he_x
      obtain rfl := hR_x
      have hlt_x : b_x < _ := World.block_lt_of_cell? _ _ (hc_x 0 _ rfl)
      obtain ⟨y, he_y⟩ : ∃ x, ks[1]? = some x := ⟨_, List.getElem?_eq_getElem (by omega)⟩
      have hm_y := List.mem_of_getElem? he_y
      obtain ⟨b_y, o_y, c_y, ha_y, _, hc_y, hR_y⟩ := hks.at he_y
      obtain rfl := hR_y
      have hlt_y : b_y < _ := World.block_lt_of_cell? _ _ (hc_y 0 _ rfl)
      have hgx := hn.good x hm_x
      have hgy := hn.good y hm_y
      unfold Good at hgx hgy
      have e : spanOf vs t.op t.n ks = (x.1 - y.2, x.2 - y.1) := by rw [spanOf, if_neg h0, if_neg h24, if_neg h6, if_neg h8, if_pos h9, at2_eq he_x, at2_eq he_y]
      refine Gs 1 rfl (Dw (fun q => Ext w_r q) [19] (fun wd4 hD _ => ?_))
      refine Ds [0] (by kernel_rfl) rfl (WD.takeW 1 rfl (by kernel_rfl) rfl rfl rfl (fun w1 => R.indexS Tryz.runUnderlying261 Tryz.sizeOf243 rfl rfl ha_x (by omega)) (Ds [2] (by kernel_rfl) rfl (WD.take 3 rfl (by kernel_rfl) rfl rfl rfl hD (fun w1 hw1 => R.load Tryz.isAgg3 rfl ((hw1.cells hc_x (fun h => h)) 0 _ rfl)) (Ds [4] (by kernel_rfl) rfl (WD.takeW 5 rfl (by kernel_rfl) rfl rfl rfl (fun w1 => R.indexS Tryz.runUnderlying261 Tryz.sizeOf243 rfl rfl ha_y (by omega)) (Ds [6] (by kernel_rfl) rfl (WD.take 7 rfl (by kernel_rfl) rfl rfl rfl hD (fun w1 hw1 => R.load Tryz.isAgg3 rfl ((hw1.cells hc_y (fun h => h)) 1 _ rfl)) ?_)))))))
      refine Da [8, 9] (by kernel_rfl) rfl (by omega) (WD.takeW 10 rfl (by kernel_rfl) rfl rfl rfl (fun w1 => R.indexS Tryz.runUnderlying261 Tryz.sizeOf243 rfl rfl ha_x (by omega)) (Ds [11] (by kernel_rfl) rfl (WD.take 12 rfl (by kernel_rfl) rfl rfl rfl hD (fun w1 hw1 => R.load Tryz.isAgg3 rfl ((hw1.cells hc_x (fun h => h)) 1 _ rfl)) (Ds [13] (by kernel_rfl) rfl (WD.takeW 14 rfl (by kernel_rfl) rfl rfl rfl (fun w1 => R.indexS Tryz.runUnderlying261 Tryz.sizeOf243 rfl rfl ha_y (by omega)) (Ds [15] (by kernel_rfl) rfl (WD.take 16 rfl (by kernel_rfl) rfl rfl rfl hD (fun w1 hw1 => R.load Tryz.isAgg3 rfl ((hw1.cells hc_y (fun h => h)) 0 _ rfl)) ?_)))))))
      refine Da [17] (by kernel_rfl) rfl (by omega) (WD.takeW 18 rfl (by kernel_rfl) rfl rfl rfl (fun w1 => R.build (v := .agg #[.int .i64 (x.1 - y.2), .int .i64 (x.2 - y.1)]) [(0, _), (1, _)] rfl (fun _ => by kernel_rfl)) (WD.mem0 19 rfl (by kernel_rfl) rfl rfl (M.storeK Tryz.sizeOf243 rfl rfl rfl rfl (by simp [Value.oneCell']) (hD.blk hB_r (fun h => h)) (by simp)) ?_))
      rintro wf ⟨_, hBf, hkf⟩
      refine ⟨fun h => absurd (by simp) h, ?_⟩
      refine G.done (by kernel_rfl) ?_ _
      refine Gs 4 rfl (G.retC Tryz.results219 rfl (run_loadK Tryz.isAgg243 Tryz.sizeOf243 rfl hBf.cells) ?_)
      exact ⟨_, rfl, by rw [e] <;> rfl, (hE.ext hD).trans hkf (fun q hq h => by have h : q = r := h; omega)⟩
     ·
      refine Gs 6 rfl (G.ite rfl (fun h10 => ?_) (fun h10 => ?_))
      ·
       have hl := hn.k2 (by omega)
       obtain ⟨x, he_x⟩ : ∃ x, ks[0]? = some x := ⟨_, List.getElem?_eq_getElem (by omega)⟩
       have hm_x := List.mem_of_getElem? he_x
       obtain ⟨b_x, o_x, c_x, ha_x, _, hc_x, hR_x⟩ := hks.at he_x
       obtain rfl := hR_x
       have hlt_x : b_x < _ := World.block_lt_of_cell? _ _ (hc_x 0 _ rfl)
       obtain ⟨y, he_y⟩ : ∃ x, ks[1]? = some x := ⟨_, List.getElem?_eq_getElem (by omega)⟩
       have hm_y := List.mem_of_getElem? he_y
       obtain ⟨b_y, o_y, c_y, ha_y, _, hc_y, hR_y⟩ := hks.at he_y
       obtain rfl := hR_y
       have hlt_y : b_y < _ := World.block_lt_of_cell? _ _ (hc_y 0 _ rfl)
       have e : spanOf vs t.op t.n ks = cornersI x y := by rw [spanOf, if_neg h0, if_neg h24, if_neg h6, if_neg h8, if_neg h9, if_pos h10, at2_eq he_x, at2_eq he_y]
       refine Gs 1 rfl (Dw (fun q => Ext w_r q) [7] (fun wd5 hD _ => ?_))
       refine Ds [0] (by kernel_rfl) rfl (WD.takeW 1 rfl (by kernel_rfl) rfl rfl rfl (fun w1 => R.indexS Tryz.runUnderlying261 Tryz.sizeOf243 rfl rfl ha_x (by omega)) (WD.take 2 rfl (by kernel_rfl) rfl rfl rfl hD (fun w1 hw1 => R.loadK Tryz.isAgg243 Tryz.sizeOf243 rfl (by rfl) (hw1.cells hc_x (fun h => h))) (Ds [3] (by kernel_rfl) rfl (WD.takeW 4 rfl (by kernel_rfl) rfl rfl rfl (fun w1 => R.indexS Tryz.runUnderlying261 Tryz.sizeOf243 rfl rfl ha_y (by omega)) (WD.take 5 rfl (by kernel_rfl) rfl rfl rfl hD (fun w1 hw1 => R.loadK Tryz.isAgg243 Tryz.sizeOf243 rfl (by rfl) (hw1.cells hc_y (fun h => h))) ?_)))))
       refine WD.call 6 rfl (by kernel_rfl) rfl rfl rfl (F.call (vs := [_, _, _]) Tryz.call226 rfl) (corners_ok x y _ (hn.good x hm_x) (hn.good y hm_y)) ?_
       rintro _ wz6 ⟨rfl, hz6⟩
       replace hD := hD.ext hz6
       refine ⟨fun _ => hD, ?_⟩
       refine WD.mem0 7 rfl (by kernel_rfl) rfl rfl (M.storeK Tryz.sizeOf243 rfl rfl rfl rfl (by simp [Value.oneCell']) (hD.blk hB_r (fun h => h)) (by simp)) ?_
       rintro wf ⟨_, hBf, hkf⟩
       refine ⟨fun h => absurd (by simp) h, ?_⟩
       refine G.done (by kernel_rfl) ?_ _
       refine Gs 4 rfl (G.retC Tryz.results219 rfl (run_loadK Tryz.isAgg243 Tryz.sizeOf243 rfl hBf.cells) ?_)
       exact ⟨_, rfl, by rw [e] <;> rfl, (hE.ext hD).trans hkf (fun q hq h => by have h : q = r := h; omega)⟩
      ·
       refine Gs 6 rfl (G.ite rfl (fun h11 => ?_) (fun h11 => ?_))
       ·
        have hl := hn.k2 (by omega)
        obtain ⟨x, he_x⟩ : ∃ x, ks[0]? = some x := ⟨_, List.getElem?_eq_getElem (by omega)⟩
        have hm_x := List.mem_of_getElem? he_x
        obtain ⟨b_x, o_x, c_x, ha_x, _, hc_x, hR_x⟩ := hks.at he_x
        obtain rfl := hR_x
        have hlt_x : b_x < _ := World.block_lt_of_cell? _ _ (hc_x 0 _ rfl)
        obtain ⟨y, he_y⟩ : ∃ x, ks[1]? = some x := ⟨_, List.getElem?_eq_getElem (by omega)⟩
        have hm_y := List.mem_of_getElem? he_y
        obtain ⟨b_y, o_y, c_y, ha_y, _, hc_y, hR_y⟩ := hks.at he_y
        obtain rfl := hR_y
        have hlt_y : b_y < _ := World.block_lt_of_cell? _ _ (hc_y 0 _ rfl)
        have hgx := hn.good x hm_x
        have hgy := hn.good y hm_y
        unfold Good at hgx hgy
        have e : spanOf vs t.op t.n ks = (if 0 ≤ x.1 ∧ 0 ≤ y.1 then 0 else -(max x.2 (-x.1)), max x.2 (-x.1)) := by rw [spanOf, if_neg h0, if_neg h24, if_neg h6, if_neg h8, if_neg h9, if_neg h10, if_pos h11, at2_eq he_x, at2_eq he_y]
        have hmx2 : 0 ≤ max x.2 (-x.1) ∧ max x.2 (-x.1) ≤ 1048576 := by omega
        refine Gs 1 rfl (Dw (fun q => Ext w_r q) [] (fun wd7 hD _ => ?_))
        refine Ds [0] (by kernel_rfl) rfl (WD.takeW 1 rfl (by kernel_rfl) rfl rfl rfl (fun w1 => R.indexS Tryz.runUnderlying261 Tryz.sizeOf243 rfl rfl ha_x (by omega)) (Ds [2] (by kernel_rfl) rfl (WD.take 3 rfl (by kernel_rfl) rfl rfl rfl hD (fun w1 hw1 => R.load Tryz.isAgg3 rfl ((hw1.cells hc_x (fun h => h)) 1 _ rfl)) (Ds [4] (by kernel_rfl) rfl (WD.takeW 5 rfl (by kernel_rfl) rfl rfl rfl (fun w1 => R.indexS Tryz.runUnderlying261 Tryz.sizeOf243 rfl rfl ha_x (by omega)) (Ds [6] (by kernel_rfl) rfl (WD.take 7 rfl (by kernel_rfl) rfl rfl rfl hD (fun w1 hw1 => R.load Tryz.isAgg3 rfl ((hw1.cells hc_x (fun h => h)) 0 _ rfl)) ?_)))))))
        refine Da [8, 9, 10] (by kernel_rfl) rfl (by omega) (G.done (by kernel_rfl) ?_ _)
        obtain ⟨hE, hvs, hks, hB_b, hB_r, hc_x, hc_y⟩ := Tr7 hD hE hvs hks hB_b hB_r hc_x hc_y
        refine Gs 5 rfl (G.ops1 rfl rfl (R.indexS Tryz.runUnderlying261 Tryz.sizeOf243 rfl rfl ha_x (by omega)) (Gs 1 rfl (G.ld rfl Tryz.isAgg3 (hc_x 0 _ rfl) (Gs 2 rfl (G.sp 117 rfl (fun p0 => ?_) (fun p0 => ?_))))))
        ·
         refine Gs 1 rfl (G.ops1 rfl rfl (R.indexS Tryz.runUnderlying261 Tryz.sizeOf243 rfl rfl ha_y (by omega)) (Gs 1 rfl (G.ld rfl Tryz.isAgg3 (hc_y 0 _ rfl) (Gs 4 rfl (G.ite rfl (fun p1 => ?_) (fun p1 => ?_))))))
         ·
          refine Gs 3 rfl (G.ops1 rfl rfl (R.build (v := .agg #[.int .i64 0, .int .i64 (max x.2 (-x.1))]) [(0, _), (1, _)] rfl (fun _ => by kernel_rfl)) (G.mem0 rfl (M.storeK Tryz.sizeOf243 rfl rfl rfl rfl (by simp [Value.oneCell']) hB_r (by simp)) ?_))
          rintro wf ⟨_, hBf, hkf⟩
          refine Gs 6 rfl (G.retC Tryz.results219 rfl (run_loadK Tryz.isAgg243 Tryz.sizeOf243 rfl hBf.cells) ?_)
          exact ⟨_, rfl, by rw [e, if_pos ⟨p0, p1⟩] <;> rfl, hE.trans hkf (fun q hq h => by have h : q = r := h; omega)⟩
         ·
          refine Ga 7 rfl (by omega) (G.ops1 rfl rfl (R.build (v := .agg #[.int .i64 (-(max x.2 (-x.1))), .int .i64 (max x.2 (-x.1))]) [(0, _), (1, _)] rfl (fun _ => by kernel_rfl)) (G.mem0 rfl (M.storeK Tryz.sizeOf243 rfl rfl rfl rfl (by simp [Value.oneCell']) hB_r (by simp)) ?_))
          rintro wf ⟨_, hBf, hkf⟩
          refine Gs 5 rfl (G.retC Tryz.results219 rfl (run_loadK Tryz.isAgg243 Tryz.sizeOf243 rfl hBf.cells) ?_)
          exact ⟨_, rfl, by rw [e, if_neg (fun h => p1 h.2)] <;> rfl, hE.trans hkf (fun q hq h => by have h : q = r := h; omega)⟩
        ·
         refine Ga 16 rfl (by omega) (G.ops1 rfl rfl (R.build (v := .agg #[.int .i64 (-(max x.2 (-x.1))), .int .i64 (max x.2 (-x.1))]) [(0, _), (1, _)] rfl (fun _ => by kernel_rfl)) (G.mem0 rfl (M.storeK Tryz.sizeOf243 rfl rfl rfl rfl (by simp [Value.oneCell']) hB_r (by simp)) ?_))
         rintro wf ⟨_, hBf, hkf⟩
         refine Gs 5 rfl (G.retC Tryz.results219 rfl (run_loadK Tryz.isAgg243 Tryz.sizeOf243 rfl hBf.cells) ?_)
         exact ⟨_, rfl, by rw [e, if_neg (fun h => p0 h.1)] <;> rfl, hE.trans hkf (fun q hq h => by have h : q = r := h; omega)⟩
       ·
        refine Gs 6 rfl (G.ite rfl (fun h12 => ?_) (fun h12 => ?_))
        ·
         have hl := hn.k2 (by omega)
         obtain ⟨y, he_y⟩ : ∃ x, ks[1]? = some x := ⟨_, List.getElem?_eq_getElem (by omega)⟩
         have hm_y := List.mem_of_getElem? he_y
         obtain ⟨b_y, o_y, c_y, ha_y, _, hc_y, hR_y⟩ := hks.at he_y
         obtain rfl := hR_y
         have hlt_y : b_y < _ := World.block_lt_of_cell? _ _ (hc_y 0 _ rfl)
         have hgy := hn.good y hm_y
         unfold Good at hgy
         have e : spanOf vs t.op t.n ks = (if y.1 < 0 then min (y.1 + 1) 0 else 0, if 0 < y.2 then max (y.2 - 1) 0 else 0) := by rw [spanOf, if_neg h0, if_neg h24, if_neg h6, if_neg h8, if_neg h9, if_neg h10, if_neg h11, if_pos h12, at2_eq he_y]
         refine Gs 2 rfl (G.ops1 rfl rfl (R.build (v := .agg #[.int .i64 0, .int .i64 0]) [] rfl (fun _ => by kernel_rfl)) (G.mem rfl rfl (M.alloc (cs := _) Tryz.zeroValue243 rfl) ?_))
         rintro _ wa8 ⟨o, rfl, hg_o, hs_o, hB_o, hk_o⟩
         refine G.mem0 rfl (M.storeK Tryz.sizeOf243 rfl rfl rfl rfl (by simp [Value.oneCell']) hB_o (by simp)) ?_
         rintro w_o ⟨_, hB_o, hkk_o⟩
         replace hk_o := hk_o.trans hkk_o (fun q hq h => by have h : q = o := h; omega)
         have hn_b_o : b ≠ o := by have := hB_b.lt; omega
         have hn_r_o : r ≠ o := by have := hB_r.lt; omega
         have hge_o : _ ≤ o := Nat.le_trans hE.size (Nat.le_of_eq hg_o.symm)
         obtain ⟨hE, hvs, hks, hB_b, hB_r, hc_y⟩ := Tr6 hk_o hE hvs hks hB_b hB_r hc_y
         refine Gs 6 rfl (G.ops1 rfl rfl (R.indexS Tryz.runUnderlying261 Tryz.sizeOf243 rfl rfl ha_y (by omega)) (Gs 1 rfl (G.ld rfl Tryz.isAgg3 (hc_y 0 _ rfl) (Gs 3 rfl (G.ite rfl (fun p0 => ?_) (fun p0 => ?_))))))
         ·
          refine Gs 2 rfl (G.ops1 rfl rfl (R.indexS Tryz.runUnderlying261 Tryz.sizeOf243 rfl rfl ha_y (by omega)) (Gs 1 rfl (G.ld rfl Tryz.isAgg3 (hc_y 0 _ rfl) (Ga 3 rfl (by omega) (G.mem0 rfl (M.store Tryz.sizeOf3 rfl rfl rfl rfl hB_o (by simp)) ?_)))))
          rintro ws9 ⟨_, hB_o, hs9⟩
          replace hE := hE.trans hs9 (fun q hq h => by have h : q = o := h; omega)
          replace hB_b := hs9.blk hB_b hn_b_o
          replace hB_r := hs9.blk hB_r hn_r_o
          replace hc_y := hs9.cells hc_y (show b_y ≠ o by omega)
          refine Gs 6 rfl (G.ops1 rfl rfl (R.indexS Tryz.runUnderlying261 Tryz.sizeOf243 rfl rfl ha_y (by omega)) (Gs 1 rfl (G.ld rfl Tryz.isAgg3 (hc_y 1 _ rfl) (Gs 3 rfl (G.ite rfl (fun p1 => ?_) (fun p1 => ?_))))))
          ·
           refine Gs 2 rfl (G.ops1 rfl rfl (R.indexS Tryz.runUnderlying261 Tryz.sizeOf243 rfl rfl ha_y (by omega)) (Gs 1 rfl (G.ld rfl Tryz.isAgg3 (hc_y 1 _ rfl) (Ga 3 rfl (by omega) (G.mem0 rfl (M.store Tryz.sizeOf3 rfl rfl rfl rfl hB_o (by simp)) ?_)))))
           rintro ws10 ⟨_, hB_o, hs10⟩
           replace hE := hE.trans hs10 (fun q hq h => by have h : q = o := h; omega)
           replace hB_b := hs10.blk hB_b hn_b_o
           replace hB_r := hs10.blk hB_r hn_r_o
           replace hc_y := hs10.cells hc_y (show b_y ≠ o by omega)
           refine Gs 4 rfl (G.ldK rfl Tryz.isAgg243 Tryz.sizeOf243 hB_o.cells rfl (G.mem0 rfl (M.storeK Tryz.sizeOf243 rfl rfl rfl rfl (by simp [Value.oneCell']) hB_r (by simp)) ?_))
           rintro wf ⟨_, hBf, hkf⟩
           refine Gs 5 rfl (G.retC Tryz.results219 rfl (run_loadK Tryz.isAgg243 Tryz.sizeOf243 rfl hBf.cells) ?_)
           exact ⟨_, rfl, by rw [e, if_pos p0, if_pos p1] <;> rfl, hE.trans hkf (fun q hq h => by have h : q = r := h; omega)⟩
          ·
           refine Gs 4 rfl (G.ldK rfl Tryz.isAgg243 Tryz.sizeOf243 hB_o.cells rfl (G.mem0 rfl (M.storeK Tryz.sizeOf243 rfl rfl rfl rfl (by simp [Value.oneCell']) hB_r (by simp)) ?_))
           rintro wf ⟨_, hBf, hkf⟩
           refine Gs 5 rfl (G.retC Tryz.results219 rfl (run_loadK Tryz.isAgg243 Tryz.sizeOf243 rfl hBf.cells) ?_)
           exact ⟨_, rfl, by rw [e, if_pos p0, if_neg p1] <;> rfl, hE.trans hkf (fun q hq h => by have h : q = r := h; omega)⟩
         ·
          refine Gs 6 rfl (G.ops1 rfl rfl (R.indexS Tryz.runUnderlying261 Tryz.sizeOf243 rfl rfl ha_y (by omega)) (Gs 1 rfl (G.ld rfl Tryz.isAgg3 (hc_y 1 _ rfl) (Gs 3 rfl (G.ite rfl (fun p1 => ?_) (fun p1 => ?_))))))
          ·
           refine Gs 2 rfl (G.ops1 rfl rfl (R.indexS Tryz.runUnderlying261 Tryz.sizeOf243 rfl rfl ha_y (by omega)) (Gs 1 rfl (G.ld rfl Tryz.isAgg3 (hc_y 1 _ rfl) (Ga 3 rfl (by omega) (G.mem0 rfl (M.store Tryz.sizeOf3 rfl rfl rfl rfl hB_o (by simp)) ?_)))))
           rintro ws11 ⟨_, hB_o, hs11⟩
           replace hE := hE.trans hs11 (fun q hq h => by have h : q = o := h; omega)
           replace hB_b := hs11.blk hB_b hn_b_o
           replace hB_r := hs11.blk hB_r hn_r_o
           replace hc_y := hs11.cells hc_y (show b_y ≠ o by omega)
           refine Gs 4 rfl (G.ldK rfl Tryz.isAgg243 Tryz.sizeOf243 hB_o.cells rfl (G.mem0 rfl (M.storeK Tryz.sizeOf243 rfl rfl rfl rfl (by simp [Value.oneCell']) hB_r (by simp)) ?_))
           rintro wf ⟨_, hBf, hkf⟩
           refine Gs 5 rfl (G.retC Tryz.results219 rfl (run_loadK Tryz.isAgg243 Tryz.sizeOf243 rfl hBf.cells) ?_)
           exact ⟨_, rfl, by rw [e, if_neg p0, if_pos p1] <;> rfl, hE.trans hkf (fun q hq h => by have h : q = r := h; omega)⟩
          ·
           refine Gs 4 rfl (G.ldK rfl Tryz.isAgg243 Tryz.sizeOf243 hB_o.cells rfl (G.mem0 rfl (M.storeK Tryz.sizeOf243 rfl rfl rfl rfl (by simp [Value.oneCell']) hB_r (by simp)) ?_))
           rintro wf ⟨_, hBf, hkf⟩
           refine Gs 5 rfl (G.retC Tryz.results219 rfl (run_loadK Tryz.isAgg243 Tryz.sizeOf243 rfl hBf.cells) ?_)
           exact ⟨_, rfl, by rw [e, if_neg p0, if_neg p1] <;> rfl, hE.trans hkf (fun q hq h => by have h : q = r := h; omega)⟩
        ·
         refine Gs 6 rfl (G.ite rfl (fun h21 => ?_) (fun h21 => ?_))
         ·
          have hl := hn.k2 (by omega)
          obtain ⟨x, he_x⟩ : ∃ x, ks[0]? = some x := ⟨_, List.getElem?_eq_getElem (by omega)⟩
          have hm_x := List.mem_of_getElem? he_x
          obtain ⟨b_x, o_x, c_x, ha_x, _, hc_x, hR_x⟩ := hks.at he_x
          obtain rfl := hR_x
          have hlt_x : b_x < _ := World.block_lt_of_cell? _ _ (hc_x 0 _ rfl)
          obtain ⟨y, he_y⟩ : ∃ x, ks[1]? = some x := ⟨_, List.getElem?_eq_getElem (by omega)⟩
          have hm_y := List.mem_of_getElem? he_y
          obtain ⟨b_y, o_y, c_y, ha_y, _, hc_y, hR_y⟩ := hks.at he_y
          obtain rfl := hR_y
          have hlt_y : b_y < _ := World.block_lt_of_cell? _ _ (hc_y 0 _ rfl)
          have e : spanOf vs t.op t.n ks = (min x.1 y.1, min x.2 y.2) := by rw [spanOf, if_neg h0, if_neg h24, if_neg h6, if_neg h8, if_neg h9, if_neg h10, if_neg h11, if_neg h12, if_pos h21, at2_eq he_x, at2_eq he_y]
          refine Gs 1 rfl (Dw (fun q => Ext w_r q) [19] (fun wd12 hD _ => ?_))
          refine Ds [0] (by kernel_rfl) rfl (WD.takeW 1 rfl (by kernel_rfl) rfl rfl rfl (fun w1 => R.indexS Tryz.runUnderlying261 Tryz.sizeOf243 rfl rfl ha_x (by omega)) (Ds [2] (by kernel_rfl) rfl (WD.take 3 rfl (by kernel_rfl) rfl rfl rfl hD (fun w1 hw1 => R.load Tryz.isAgg3 rfl ((hw1.cells hc_x (fun h => h)) 0 _ rfl)) (Ds [4] (by kernel_rfl) rfl (WD.takeW 5 rfl (by kernel_rfl) rfl rfl rfl (fun w1 => R.indexS Tryz.runUnderlying261 Tryz.sizeOf243 rfl rfl ha_y (by omega)) (Ds [6] (by kernel_rfl) rfl (WD.take 7 rfl (by kernel_rfl) rfl rfl rfl hD (fun w1 hw1 => R.load Tryz.isAgg3 rfl ((hw1.cells hc_y (fun h => h)) 0 _ rfl)) ?_)))))))
          refine Ds [8, 9] (by kernel_rfl) rfl (WD.takeW 10 rfl (by kernel_rfl) rfl rfl rfl (fun w1 => R.indexS Tryz.runUnderlying261 Tryz.sizeOf243 rfl rfl ha_x (by omega)) (Ds [11] (by kernel_rfl) rfl (WD.take 12 rfl (by kernel_rfl) rfl rfl rfl hD (fun w1 hw1 => R.load Tryz.isAgg3 rfl ((hw1.cells hc_x (fun h => h)) 1 _ rfl)) (Ds [13] (by kernel_rfl) rfl (WD.takeW 14 rfl (by kernel_rfl) rfl rfl rfl (fun w1 => R.indexS Tryz.runUnderlying261 Tryz.sizeOf243 rfl rfl ha_y (by omega)) (Ds [15] (by kernel_rfl) rfl (WD.take 16 rfl (by kernel_rfl) rfl rfl rfl hD (fun w1 hw1 => R.load Tryz.isAgg3 rfl ((hw1.cells hc_y (fun h => h)) 1 _ rfl)) ?_)))))))
          refine Ds [17] (by kernel_rfl) rfl (WD.takeW 18 rfl (by kernel_rfl) rfl rfl rfl (fun w1 => R.build (v := .agg #[.int .i64 (min x.1 y.1), .int .i64 (min x.2 y.2)]) [(0, _), (1, _)] rfl (fun _ => by kernel_rfl)) (WD.mem0 19 rfl (by kernel_rfl) rfl rfl (M.storeK Tryz.sizeOf243 rfl rfl rfl rfl (by simp [Value.oneCell']) (hD.blk hB_r (fun h => h)) (by simp)) ?_))
          rintro wf ⟨_, hBf, hkf⟩
          refine ⟨fun h => absurd (by simp) h, ?_⟩
          refine G.done (by kernel_rfl) ?_ _
          refine Gs 4 rfl (G.retC Tryz.results219 rfl (run_loadK Tryz.isAgg243 Tryz.sizeOf243 rfl hBf.cells) ?_)
          exact ⟨_, rfl, by rw [e] <;> rfl, (hE.ext hD).trans hkf (fun q hq h => by have h : q = r := h; omega)⟩
         ·
          refine Gs 6 rfl (G.ite rfl (fun h22 => ?_) (fun h22 => ?_))
          ·
           have hl := hn.k2 (by omega)
           obtain ⟨x, he_x⟩ : ∃ x, ks[0]? = some x := ⟨_, List.getElem?_eq_getElem (by omega)⟩
           have hm_x := List.mem_of_getElem? he_x
           obtain ⟨b_x, o_x, c_x, ha_x, _, hc_x, hR_x⟩ := hks.at he_x
           obtain rfl := hR_x
           have hlt_x : b_x < _ := World.block_lt_of_cell? _ _ (hc_x 0 _ rfl)
           obtain ⟨y, he_y⟩ : ∃ x, ks[1]? = some x := ⟨_, List.getElem?_eq_getElem (by omega)⟩
           have hm_y := List.mem_of_getElem? he_y
           obtain ⟨b_y, o_y, c_y, ha_y, _, hc_y, hR_y⟩ := hks.at he_y
           obtain rfl := hR_y
           have hlt_y : b_y < _ := World.block_lt_of_cell? _ _ (hc_y 0 _ rfl)
           have e : spanOf vs t.op t.n ks = (max x.1 y.1, max x.2 y.2) := by rw [spanOf, if_neg h0, if_neg h24, if_neg h6, if_neg h8, if_neg h9, if_neg h10, if_neg h11, if_neg h12, if_neg h21, if_pos h22, at2_eq he_x, at2_eq he_y]
           refine Gs 1 rfl (Dw (fun q => Ext w_r q) [19] (fun wd13 hD _ => ?_))
           refine Ds [0] (by kernel_rfl) rfl (WD.takeW 1 rfl (by kernel_rfl) rfl rfl rfl (fun w1 => R.indexS Tryz.runUnderlying261 Tryz.sizeOf243 rfl rfl ha_x (by omega)) (Ds [2] (by kernel_rfl) rfl (WD.take 3 rfl (by kernel_rfl) rfl rfl rfl hD (fun w1 hw1 => R.load Tryz.isAgg3 rfl ((hw1.cells hc_x (fun h => h)) 0 _ rfl)) (Ds [4] (by kernel_rfl) rfl (WD.takeW 5 rfl (by kernel_rfl) rfl rfl rfl (fun w1 => R.indexS Tryz.runUnderlying261 Tryz.sizeOf243 rfl rfl ha_y (by omega)) (Ds [6] (by kernel_rfl) rfl (WD.take 7 rfl (by kernel_rfl) rfl rfl rfl hD (fun w1 hw1 => R.load Tryz.isAgg3 rfl ((hw1.cells hc_y (fun h => h)) 0 _ rfl)) ?_)))))))
           refine Ds [8, 9] (by kernel_rfl) rfl (WD.takeW 10 rfl (by kernel_rfl) rfl rfl rfl (fun w1 => R.indexS Tryz.runUnderlying261 Tryz.sizeOf243 rfl rfl ha_x (by omega)) (Ds [11] (by kernel_rfl) rfl (WD.take 12 rfl (by kernel_rfl) rfl rfl rfl hD (fun w1 hw1 => R.load Tryz.isAgg3 rfl ((hw1.cells hc_x (fun h => h)) 1 _ rfl)) (Ds [13] (by kernel_rfl) rfl (WD.takeW 14 rfl (by kernel_rfl) rfl rfl rfl (fun w1 => R.indexS Tryz.runUnderlying261 Tryz.sizeOf243 rfl rfl ha_y (by omega)) (Ds [15] (by kernel_rfl) rfl (WD.take 16 rfl (by kernel_rfl) rfl rfl rfl hD (fun w1 hw1 => R.load Tryz.isAgg3 rfl ((hw1.cells hc_y (fun h => h)) 1 _ rfl)) ?_)))))))
           refine Ds [17] (by kernel_rfl) rfl (WD.takeW 18 rfl (by kernel_rfl) rfl rfl rfl (fun w1 => R.build (v := .agg #[.int .i64 (max x.1 y.1), .int .i64 (max x.2 y.2)]) [(0, _), (1, _)] rfl (fun _ => by kernel_rfl)) (WD.mem0 19 rfl (by kernel_rfl) rfl rfl (M.storeK Tryz.sizeOf243 rfl rfl rfl rfl (by simp [Value.oneCell']) (hD.blk hB_r (fun h => h)) (by simp)) ?_))
           rintro wf ⟨_, hBf, hkf⟩
           refine ⟨fun h => absurd (by simp) h, ?_⟩
           refine G.done (by kernel_rfl) ?_ _
           refine Gs 4 rfl (G.retC Tryz.results219 rfl (run_loadK Tryz.isAgg243 Tryz.sizeOf243 rfl hBf.cells) ?_)
           exact ⟨_, rfl, by rw [e] <;> rfl, (hE.ext hD).trans hkf (fun q hq h => by have h : q = r := h; omega)⟩
          ·
           have hbase : ¬ (t.op = 23 ∨ t.op = 25) → spanOf vs t.op t.n ks = (0, 1) := fun h => by rw [spanOf, if_neg h0, if_neg h24, if_neg h6, if_neg h8, if_neg h9, if_neg h10, if_neg h11, if_neg h12, if_neg h21, if_neg h22, if_neg h]
           refine Gs 7 rfl (G.cut (σ := Bool) (fun p => [(2, .slice ak ks.length nk), (6, .pointer (some ⟨r, 0, none⟩)), (200, .bool p)]) (fun p => fun w' => (p = true ↔ t.op = 23 ∨ t.op = 25) ∧ w' = w_r) ?_ ?_)
           ·
            refine G.ite rfl (fun h23 => ?_) (fun h23 => ?_)
            · refine Gs 1 rfl (G.meet (decide (t.op = 23)) (Sub.cons rfl (Sub.cons rfl (Sub.cons (by first | rfl | (show some (Value.bool true) = some (Value.bool _); simp [*])) Sub.nil))) (⟨by simp [h23], rfl⟩))
            · refine Gs 4 rfl (G.meet (decide (t.op = 25)) (Sub.of rfl) (⟨by simp [h23], rfl⟩))
           rintro p w2 ⟨hp, hw2⟩
           subst hw2
           refine Gs 1 rfl (G.bool rfl (fun p1 => ?_) (fun p1 => ?_))
           ·
            have hl := hn.k3 (hp.1 p1)
            obtain ⟨y, he_y⟩ : ∃ x, ks[1]? = some x := ⟨_, List.getElem?_eq_getElem (by omega)⟩
            have hm_y := List.mem_of_getElem? he_y
            obtain ⟨b_y, o_y, c_y, ha_y, _, hc_y, hR_y⟩ := hks.at he_y
            obtain rfl := hR_y
            have hlt_y : b_y < _ := World.block_lt_of_cell? _ _ (hc_y 0 _ rfl)
            have e : spanOf vs t.op t.n ks = hullL y (ks.drop 2) := by rw [spanOf, if_neg h0, if_neg h24, if_neg h6, if_neg h8, if_neg h9, if_neg h10, if_neg h11, if_neg h12, if_neg h21, if_neg h22, if_pos (hp.1 p1), at2_eq he_y]
            have hdr := hks.drop 2 (by omega)
            have hdl : (ks.drop 2).length = ks.length - 2 := List.length_drop
            refine Gs 3 rfl (G.ops1 rfl rfl (R.indexS Tryz.runUnderlying261 Tryz.sizeOf243 rfl rfl ha_y (by omega)) (G.ldK rfl Tryz.isAgg243 Tryz.sizeOf243 hc_y rfl (G.mem rfl rfl (M.alloc (cs := _) Tryz.zeroValue243 rfl) ?_)))
            rintro _ wa14 ⟨o, rfl, hg_o, hs_o, hB_o, hk_o⟩
            refine G.mem0 rfl (M.storeK Tryz.sizeOf243 rfl rfl rfl rfl (by simp [Value.oneCell']) hB_o (by simp)) ?_
            rintro w_o ⟨_, hB_o, hkk_o⟩
            replace hk_o := hk_o.trans hkk_o (fun q hq h => by have h : q = o := h; omega)
            have hn_b_o : b ≠ o := by have := hB_b.lt; omega
            have hn_r_o : r ≠ o := by have := hB_r.lt; omega
            have hge_o : _ ≤ o := Nat.le_trans hE.size (Nat.le_of_eq hg_o.symm)
            obtain ⟨hE, hvs, hks, hB_b, hB_r, hc_y⟩ := Tr6 hk_o hE hvs hks hB_b hB_r hc_y
            refine Gs 6 rfl (G.ops1 rfl rfl (R.sliceLo Tryz.runUnderlying261 Tryz.sizeOf243 rfl rfl (by omega)) (Gs 5 rfl (G.loop (σ := Nat) (fun k => [(6, .pointer (some ⟨r, 0, none⟩)), (9, .pointer (some ⟨o, 0, none⟩)), (207, .slice (if nk = 2 then ak else ak.map (·.add (2 * 2))) (ks.length - 2) (nk - 2)), (208, .int .i64 (ks.length - 2 : Nat)), (209, .int .i64 k)]) (fun k => fun w' => k ≤ ks.length - 2 ∧ Blk w' o [.int .i64 (hullL y ((ks.drop 2).take k)).1, .int .i64 (hullL y ((ks.drop 2).take k)).2] 243 ∧ Keep (fun q => q = o) w_o w') (fun k => ks.length - 2 - k) (0) (Sub.of rfl) (⟨Nat.zero_le _, hB_o, Keep.refl _ _⟩) ?_)))
            rintro k w1 ⟨hk, hB_o, hk1⟩
            refine Gs 6 rfl (G.ite rfl (fun hlt => ?_) (fun hlt => ?_))
            ·
             obtain ⟨z, he_z⟩ : ∃ x, (ks.drop 2)[k]? = some x := ⟨_, List.getElem?_eq_getElem (by omega)⟩
             have hm_z := List.mem_of_getElem? he_z
             obtain ⟨b_z, o_z, c_z, ha_z, _, hc_z, hR_z⟩ := hdr.at he_z
             obtain rfl := hR_z
             have hlt_z : b_z < _ := World.block_lt_of_cell? _ _ (hc_z 0 _ rfl)
             replace hc_z := hk1.cells (hk_o.cells hc_z (fun h => h)) (show b_z ≠ o by omega)
             refine Gs 6 rfl (G.ops1 rfl rfl (R.indexS Tryz.runUnderlying261 Tryz.sizeOf243 rfl rfl ha_z (by omega)) (G.ldK rfl Tryz.isAgg243 Tryz.sizeOf243 hc_z rfl (G.mem rfl rfl (M.alloc (cs := _) Tryz.zeroValue243 rfl) ?_)))
             rintro _ wa ⟨c, rfl, hg_c, hs_c, hB_c, hk_c⟩
             refine G.mem0 rfl (M.storeK Tryz.sizeOf243 rfl rfl rfl rfl (by simp [Value.oneCell']) hB_c (by simp)) ?_
             rintro w3 ⟨_, hB_c, hk3⟩
             have hk13 : Ext w1 w3 := hk_c.trans hk3 (fun q hq h => by have h : q = c := h; omega)
             replace hB_o := hk13.blk hB_o (fun h => h)
             refine Gs 3 rfl (G.ldK rfl Tryz.isAgg243 Tryz.sizeOf243 hB_o.cells rfl (G.ldK rfl Tryz.isAgg243 Tryz.sizeOf243 hB_c.cells rfl (G.call rfl Tryz.call228 (hull_ok (hullL y ((ks.drop 2).take k)) z w3) ?_)))
             rintro _ w4 ⟨rfl, hk4⟩
             refine G.mem0 rfl (M.storeK Tryz.sizeOf243 rfl rfl rfl rfl (by simp [Value.oneCell']) (hk4.blk hB_o (fun h => h)) (by simp)) ?_
             rintro w5 ⟨_, hB5, hk5⟩
             refine Ga 7 rfl (by omega) (G.back (k + 1) (Sub.of rfl) (⟨by omega, ?_, (hk1.ext (hk13.ext hk4)).trans hk5 (fun _ _ h => h)⟩) (by first | omega | (dsimp only; omega)))
             rw [hullL_take he_z]
             exact hB5
            ·
             have hkk : k = ks.length - 2 := by omega
             have hr1 := hk1.blk hB_r hn_r_o
             rw [hkk, ← hdl, List.take_length, ← e] at hB_o
             refine Gs 7 rfl (G.ldK rfl Tryz.isAgg243 Tryz.sizeOf243 hB_o.cells rfl (G.mem0 rfl (M.storeK Tryz.sizeOf243 rfl rfl rfl rfl (by simp [Value.oneCell']) hr1 (by simp)) ?_))
             rintro wf ⟨_, hBf, hkf⟩
             refine Gs 5 rfl (G.retC Tryz.results219 rfl (run_loadK Tryz.isAgg243 Tryz.sizeOf243 rfl hBf.cells) ?_)
             exact ⟨_, rfl, rfl, (hE.trans hk1 (fun q hq h => by have h : q = o := h; omega)).trans hkf (fun q hq h => by have h : q = r := h; omega)⟩
           ·
            have e := hbase (fun h => by rw [hp.2 h] at p1; cases p1)
            refine Gs 5 rfl (G.ops1 rfl rfl (R.build (v := .agg #[.int .i64 0, .int .i64 1]) [(0, _), (1, _)] rfl (fun _ => by kernel_rfl)) (G.mem0 rfl (M.storeK Tryz.sizeOf243 rfl rfl rfl rfl (by simp [Value.oneCell']) hB_r (by simp)) ?_))
            rintro wf ⟨_, hBf, hkf⟩
            refine Gs 3 rfl (G.retC Tryz.results219 rfl (run_loadK Tryz.isAgg243 Tryz.sizeOf243 rfl hBf.cells) ?_)
            exact ⟨_, rfl, by rw [e] <;> rfl, hE.trans hkf (fun q hq h => by have h : q = r := h; omega)⟩
end Go.Proofs.YtldhllpogdikdaaGreat
namespace Go.GL.Gr
def okE (n : Int) (e : Int × Int) : Bool := decide (0 ≤ e.1 ∧ e.1 < n) && decide (0 ≤ e.2 ∧ e.2 < n)
def check (n : Int) (es : List (Int × Int)) : Int := if n < 0 then 1 else if 4096 < n ∨ 1048576 < es.length then 4 else if es.all (okE n) then 0 else 3
theorem all_take_succ {α : Type} {p : α → Bool} {l : List α} {k : Nat} {x : α} (hx : l[k]? = some x) (h : (l.take k).all p = true) (hp : p x = true) : (l.take (k + 1)).all p = true := by
 obtain ⟨hk, rfl⟩ := List.getElem?_eq_some_iff.1 hx
 rw [List.take_succ_eq_append_getElem hk, List.all_append, h]
 simp [hp]
theorem all_false {α : Type} {p : α → Bool} {l : List α} {k : Nat} {x : α} (hx : l[k]? = some x) (hp : p x = false) : l.all p = false := by
 rw [List.all_eq_false]
 exact ⟨x, List.mem_of_getElem? hx, by simp [hp]⟩
section
variable {α : Type} [DecidableEq α]
def cstep (acc : List α) (x : α) : List α := if acc.getLast? = some x then acc else acc ++ [x]
def compactL (l : List α) : List α := l.foldl cstep []
theorem getLast_cstep (acc : List α) (x : α) : (cstep acc x).getLast? = some x := by
 unfold cstep
 split
 · assumption
 · simp
theorem compactL_snoc (l : List α) (x : α) : compactL (l ++ [x]) = cstep (compactL l) x := by simp [compactL]
theorem compactL_take {l : List α} {k : Nat} {x : α} (hx : l[k]? = some x) : compactL (l.take (k + 1)) = cstep (compactL (l.take k)) x := by
 obtain ⟨hk, rfl⟩ := List.getElem?_eq_some_iff.1 hx
 rw [List.take_succ_eq_append_getElem hk, compactL_snoc]
theorem compactL_last {l : List α} {k : Nat} {x : α} (hx : l[k]? = some x) : (compactL (l.take (k + 1))).getLast? = some x := by
 rw [compactL_take hx, getLast_cstep]
theorem compactL_len (l : List α) : (compactL l).length ≤ l.length := by
 have : ∀ (l acc : List α), (l.foldl cstep acc).length ≤ acc.length + l.length := by
  intro l
  induction l with
  | nil => intro acc; simp
  | cons x r ih =>
   intro acc
   have h1 := ih (cstep acc x)
   have h2 : (cstep acc x).length ≤ acc.length + 1 := by unfold cstep; split <;> simp
   simp only [List.foldl_cons, List.length_cons]
   omega
 simpa [compactL] using this l []
theorem compactL_mem (l : List α) (x : α) : x ∈ compactL l ↔ x ∈ l := by
 have : ∀ (l acc : List α), x ∈ l.foldl cstep acc ↔ x ∈ acc ∨ x ∈ l := by
  intro l
  induction l with
  | nil => intro acc; simp
  | cons y r ih =>
   intro acc
   rw [List.foldl_cons, ih]
   have h2 : x ∈ cstep acc y ↔ x ∈ acc ∨ x = y := by
    unfold cstep
    split
    ·
     rename_i h
     constructor
     · exact .inl
     ·
      rintro (h' | rfl)
      · exact h'
      · exact List.mem_of_getLast? h
    · simp
   rw [h2]
   simp [or_assoc]
 simpa [compactL] using this l []
theorem compactL_strict {le : α → α → Prop} (hanti : ∀ a b, le a b → le b a → a = b) {l : List α} (h : l.Pairwise le) : (compactL l).Pairwise (fun a b => le a b ∧ a ≠ b) := by
 have : ∀ (l acc : List α), acc.Pairwise (fun a b => le a b ∧ a ≠ b) → (∀ a ∈ acc, ∀ b ∈ l, le a b) → l.Pairwise le → (l.foldl cstep acc).Pairwise (fun a b => le a b ∧ a ≠ b) := by
  intro l
  induction l with
  | nil => intro acc h1 _ _; exact h1
  | cons x r ih =>
   intro acc h1 h2 h3
   rw [List.pairwise_cons] at h3
   rw [List.foldl_cons]
   refine ih _ ?_ ?_ h3.2
   ·
    unfold cstep
    split
    · exact h1
    ·
     rename_i hne
     rw [List.pairwise_append]
     refine ⟨h1, List.pairwise_singleton _ _, ?_⟩
     intro a ha b hb
     rw [List.mem_singleton] at hb
     subst hb
     refine ⟨h2 a ha _ (List.mem_cons_self ..), ?_⟩
     rintro rfl
     apply hne
     obtain ⟨z, hz⟩ : ∃ z, acc.getLast? = some z := by
      cases hacc : acc.getLast? with
      | none => rw [List.getLast?_eq_none_iff] at hacc; subst hacc; simp at ha
      | some z => exact ⟨z, rfl⟩
     rw [hz]
     have hzm := List.mem_of_getLast? hz
     have hza := h2 z hzm a (List.mem_cons_self ..)
     by_cases e : a = z
     · rw [e]
     ·
      obtain ⟨ini, rfl⟩ : ∃ ini, acc = ini ++ [z] := by
       rw [List.getLast?_eq_some_iff] at hz; obtain ⟨ys, h⟩ := hz; exact ⟨ys, h⟩
      rw [List.mem_append, List.mem_singleton] at ha
      rcases ha with ha | ha
      ·
       rw [List.pairwise_append] at h1
       have := (h1.2.2 a ha z (by simp)).1
       rw [hanti a z this hza]
      · exact absurd ha e
   ·
    intro a ha b hb
    have : a ∈ acc ∨ a = x := by
     unfold cstep at ha
     split at ha
     · exact .inl ha
     · simpa using ha
    rcases this with ha | rfl
    · exact h2 a ha b (List.mem_cons_of_mem _ hb)
    · exact h3.1 b hb
 exact this l [] List.Pairwise.nil (by simp) h
end
end Go.GL.Gr
namespace Go.Proofs.YtldhllpogdikdaaGreat
open Go.GL
theorem node_ok (n x : Int) (ev : Value) (w : World) : Calls Tryz.prog 182 #[.agg #[.int .i64 n, ev], .int .i64 x] w (Ret fun v w' => v = .bool (decide (0 ≤ x ∧ x < n)) ∧ Ext w w') := by
 refine G.in2 Tryz.func182 rfl Tryz.ntmps182 rfl (Gs 2 rfl (G.mem rfl rfl (M.box rfl rfl) ?_))
 rintro _ w1 ⟨b, rfl, hb, hsz, hB, hk⟩
 refine Gs 8 rfl (G.cases (p := 0 ≤ x) (fun h => ?_) (fun h => ?_))
 · refine G.yes rfl rfl (decide_eq_true h) (Gs 1 rfl (G.yes rfl rfl (decide_eq_true h) (Gs 1 rfl (G.yes rfl rfl (decide_eq_true h) (G.ld rfl Tryz.isAgg3 (hB.cells 0 _ rfl) (G.yes rfl rfl (decide_eq_true h) (Gs 1 rfl (G.ops1 rfl rfl (R.pickT rfl (decide_eq_true h) rfl) (Gs 4 rfl (G.ret1 Tryz.results182 rfl ⟨_, rfl, by simp [h], hk⟩))))))))))
 · refine G.no rfl rfl (decide_eq_false h) rfl (G.no rfl rfl (decide_eq_false h) rfl (G.no rfl rfl (decide_eq_false h) rfl (G.no rfl rfl (decide_eq_false h) rfl (G.ops1 rfl rfl (R.pickF rfl (decide_eq_false h) rfl) (Gs 4 rfl (G.ret1 Tryz.results182 rfl ⟨_, rfl, by simp [h], hk⟩))))))
theorem check_ok (n : Int) (es : List (Int × Int)) (ev : Value) (D : Nat → Prop) (w : World) (hes : SlR 2 RPair D w ev es) : Calls Tryz.prog 133 #[.agg #[.int .i64 n, ev]] w (Ret fun v w' => v = .int .i64 (Gr.check n es) ∧ Ext w w') := by
 obtain ⟨ao, cap, rfl, hlc, hcm, hel⟩ := hes
 refine G.in1 Tryz.func133 rfl Tryz.ntmps133 rfl (Gs 2 rfl (G.mem rfl rfl (M.box rfl rfl) ?_))
 rintro _ w1 ⟨b, rfl, hb, hsz, hB, hk⟩
 refine Gs 7 rfl (G.ld rfl Tryz.isAgg3 (hB.cells 0 _ rfl) (Gs 3 rfl (G.ite0 rfl (fun hn => ?_) (fun hn => ?_))))
 · refine Gs 7 rfl (G.ret1 Tryz.results133 rfl ⟨_, rfl, by simp [Gr.check, hn], hk⟩)
 ·
  refine Gs 6 rfl (G.ld rfl Tryz.isAgg3 (hB.cells 0 _ rfl) (Gs 2 rfl (G.cases (p := 4096 < n) (fun h1 => ?_) (fun h1 => ?_))))
  · refine G.no rfl rfl (decide_eq_true h1) rfl (G.no rfl rfl (decide_eq_true h1) rfl (G.no rfl rfl (decide_eq_true h1) rfl (G.no rfl rfl (decide_eq_true h1) rfl (G.ops1 rfl rfl (R.pickT rfl (decide_eq_true h1) rfl) (Gs 2 rfl (G.tt rfl (rfl) (Gs 7 rfl (G.ret1 Tryz.results133 rfl ⟨_, rfl, by simp [Gr.check, hn, h1], hk⟩))))))))
  ·
   refine G.yes rfl rfl (decide_eq_false h1) (Gs 1 rfl (G.yes rfl rfl (decide_eq_false h1) (G.ld rfl Tryz.isAgg89 (hB.cells 1 _ rfl) (G.yes rfl rfl (decide_eq_false h1) (Gs 1 rfl (G.yes rfl rfl (decide_eq_false h1) (Gs 1 rfl (G.ops1 rfl rfl (R.pickF rfl (decide_eq_false h1) rfl) (Gs 2 rfl (G.ite0 rfl (fun h2 => ?_) (fun h2 => ?_)))))))))))
   ·
    refine Gs 7 rfl ?_
    have h2' : 1048576 < es.length := by omega
    refine G.ret1 Tryz.results133 rfl ⟨_, rfl, by simp [Gr.check, hn, h2'], hk⟩
   ·
    refine Gs 6 rfl (G.ld rfl Tryz.isAgg89 (hB.cells 1 _ rfl) (Gs 5 rfl (G.loop (σ := Nat) (fun k => [(1, .pointer (some ⟨b, 0, none⟩)), (18, .slice ao es.length cap), (19, .int .i64 es.length), (20, .int .i64 k)]) (fun k => fun w' => k ≤ es.length ∧ (es.take k).all (Gr.okE n) = true ∧ Ext w1 w') (fun k => es.length - k) (0) (Sub.of rfl) (⟨Nat.zero_le _, rfl, Keep.refl _ _⟩) ?_)))
    rintro k w2 ⟨hkn, hall, hk2⟩
    have hB2 := hk2.blk hB (fun h => h)
    refine Gs 6 rfl (G.ite0 rfl (fun hlt => ?_) (fun hge => ?_))
    ·
     refine Gs 6 rfl ?_
     obtain ⟨e, he⟩ : ∃ e, es[k]? = some e := ⟨_, List.getElem?_eq_getElem (by omega)⟩
     obtain ⟨be, oe, ce, hao, _, hcl, hcs, rfl⟩ := hel k e he
     refine G.ops1 rfl rfl (R.indexS Tryz.runUnderlying89 Tryz.sizeOf97 rfl rfl hao (by omega)) (G.ldK rfl Tryz.isAgg97 Tryz.sizeOf97 ((hk.ext hk2).cells hcs (fun h => h)) rfl (G.mem rfl rfl (M.alloc (cs := _) Tryz.zeroValue97 rfl) ?_))
     rintro _ w3 ⟨b4, rfl, hb4, hsz3, hB3, hk3⟩
     refine G.mem0 rfl (M.storeK Tryz.sizeOf97 rfl rfl rfl rfl (by simp [Value.oneCell']) hB3 (by simp)) ?_
     rintro w4 ⟨hs4, hB4, hk4⟩
     have hE4 : Ext w1 w4 := (hk2.ext hk3).trans hk4 (fun q hq h => by have := Blk.lt hB2; have := hk2.size; omega)
     have hB5 := hE4.blk hB (fun h => h)
     refine Gs 4 rfl (G.ldK rfl Tryz.isAgg91 Tryz.sizeOf91 hB5.cells rfl (G.ops1 rfl rfl (R.indexA Tryz.runUnderlying97 Tryz.sizeOf3 rfl rfl (by omega)) (G.ld rfl Tryz.isAgg3 (hB4.cells 0 _ rfl) (G.call rfl Tryz.call182 (node_ok _ _ _ _) ?_))))
     rintro _ w5 ⟨rfl, hk5⟩
     have hE5 := hE4.ext hk5
     refine G.ops1 rfl rfl (R.notD rfl) (Gs 1 rfl (G.cases (p := ¬ (0 ≤ e.1 ∧ e.1 < n)) (fun h3 => ?_) (fun h3 => ?_)))
     ·
      refine G.no rfl rfl (decide_eq_true h3) rfl (G.no rfl rfl (decide_eq_true h3) rfl (G.no rfl rfl (decide_eq_true h3) rfl (G.no rfl rfl (decide_eq_true h3) rfl (G.no rfl rfl (decide_eq_true h3) rfl (G.ops1 rfl rfl (R.pickT rfl (decide_eq_true h3) rfl) (Gs 2 rfl (G.tt rfl (rfl) (Gs 11 rfl (G.ret1 Tryz.results133 rfl ⟨_, rfl, ?_, hk.ext hE5⟩)))))))))
      have : es.all (Gr.okE n) = false := Gr.all_false he (by simp [Gr.okE] at *; omega)
      simp [Gr.check, hn, h1, this]; omega
     ·
      refine G.yes rfl rfl (decide_eq_false h3) (G.ldK rfl Tryz.isAgg91 Tryz.sizeOf91 (hE5.blk hB (fun h => h)).cells rfl (G.yes rfl rfl (decide_eq_false h3) (G.ops1 rfl rfl (R.indexA Tryz.runUnderlying97 Tryz.sizeOf3 rfl rfl (by omega)) (G.yes rfl rfl (decide_eq_false h3) (G.ld rfl Tryz.isAgg3 ((hk5.blk hB4 (fun h => h)).cells 1 _ rfl) (G.yes rfl rfl (decide_eq_false h3) (G.call rfl Tryz.call182 (node_ok _ _ _ _) ?_)))))))
      rintro _ w6 ⟨rfl, hk6⟩
      refine G.yes rfl rfl (decide_eq_false h3) (G.ops1 rfl rfl (R.notD rfl) (G.ops1 rfl rfl (R.pickF rfl (decide_eq_false h3) rfl) (Gs 2 rfl (G.ite0 rfl (fun h4 => ?_) (fun h4 => ?_)))))
      ·
       refine Gs 11 rfl (G.ret1 Tryz.results133 rfl ⟨_, rfl, ?_, hk.ext (hE5.ext hk6)⟩)
       have : es.all (Gr.okE n) = false := Gr.all_false he (by simp [Gr.okE] at *; omega)
       simp [Gr.check, hn, h1, this]; omega
      ·
       refine Ga 7 rfl (by omega) (G.back (k + 1) (Sub.of rfl) (⟨by omega, ?_, hE5.ext hk6⟩) ((by omega)))
       exact Gr.all_take_succ he hall (by simp [Gr.okE] at *; omega)
    ·
     refine Gs 11 rfl (G.ret1 Tryz.results133 rfl ⟨_, rfl, ?_, hk.ext hk2⟩)
     have : k = es.length := by omega
     subst this
     rw [List.take_length] at hall
     simp [Gr.check, hn, h1, hall]; omega
theorem compare_ok (a b : Int × Int) (w : World) (ha : -4611686018427387904 ≤ a.1 ∧ a.1 ≤ 4611686018427387903 ∧ -4611686018427387904 ≤ a.2 ∧ a.2 ≤ 4611686018427387903) (hb : -4611686018427387904 ≤ b.1 ∧ b.1 ≤ 4611686018427387903 ∧ -4611686018427387904 ≤ b.2 ∧ b.2 ≤ 4611686018427387903) :
  Calls Tryz.prog 184 #[.agg #[.int .i64 a.1, .int .i64 a.2], .agg #[.int .i64 b.1, .int .i64 b.2]] w (Ret fun v w' => v = .int .i64 (if a.1 ≠ b.1 then a.1 - b.1 else a.2 - b.2) ∧ Ext w w') := by
 refine G.in2 Tryz.func184 rfl Tryz.ntmps184 rfl (Gs 2 rfl (G.mem rfl rfl (M.box rfl rfl) ?_))
 rintro _ w1 ⟨p, rfl, hp, hsz, hP, hk⟩
 refine G.mem rfl rfl (M.box rfl rfl) ?_
 rintro _ w2 ⟨q, rfl, hq, hsz2, hQ, hk2⟩
 have hP2 := hk2.blk hP (fun h => h)
 refine Gs 6 rfl (G.ops1 rfl rfl (R.indexA Tryz.runUnderlying97 Tryz.sizeOf3 rfl rfl (by omega)) (G.ld rfl Tryz.isAgg3 (hP2.cells 0 _ rfl) (G.ops1 rfl rfl (R.indexA Tryz.runUnderlying97 Tryz.sizeOf3 rfl rfl (by omega)) (G.ld rfl Tryz.isAgg3 (hQ.cells 0 _ rfl) (Gs 3 rfl (G.ite0 rfl (fun h => ?_) (fun h => ?_)))))))
 · refine Gs 2 rfl (G.ops1 rfl rfl (R.indexA Tryz.runUnderlying97 Tryz.sizeOf3 rfl rfl (by omega)) (G.ld rfl Tryz.isAgg3 (hP2.cells 0 _ rfl) (G.ops1 rfl rfl (R.indexA Tryz.runUnderlying97 Tryz.sizeOf3 rfl rfl (by omega)) (G.ld rfl Tryz.isAgg3 (hQ.cells 0 _ rfl) (Ga 6 rfl (by omega) (G.ret1 Tryz.results184 rfl ⟨_, rfl, by rw [if_pos h], hk.ext hk2⟩))))))
 · refine Gs 4 rfl (G.ops1 rfl rfl (R.indexA Tryz.runUnderlying97 Tryz.sizeOf3 rfl rfl (by omega)) (G.ld rfl Tryz.isAgg3 (hP2.cells 1 _ rfl) (G.ops1 rfl rfl (R.indexA Tryz.runUnderlying97 Tryz.sizeOf3 rfl rfl (by omega)) (G.ld rfl Tryz.isAgg3 (hQ.cells 1 _ rfl) (Ga 5 rfl (by omega) (G.ret1 Tryz.results184 rfl ⟨_, rfl, by rw [if_neg h], hk.ext hk2⟩))))))
def encP (e : Int × Int) : List Value := [.int .i64 e.1, .int .i64 e.2]
theorem encP_len (e : Int × Int) : (encP e).length = 2 := rfl
theorem encP_one (e : Int × Int) : ∀ u ∈ encP e, u.oneCell' = true := by simp [encP, Value.oneCell']
end Go.Proofs.YtldhllpogdikdaaGreat
