/-
  Contracts and the mathematics that the proof needs. Nothing here is a claim.
-/
import Derived.Test.YtbkhagigkglgoaaGreatDoorKV1
namespace Go.GL
def zhB (env : Env) : List Nat -> Option Env
 | [] => some []
 | k :: r => match get env k with
  | some v => (match zhB env r with
   | some l => some ((k, v) :: l)
   | none => none)
  | none => none
def zd3 (H : Hp) : List Nat -> Option Hp
 | [] => some []
 | k :: r => match zo H k with
  | some v => (match zd3 H r with
   | some l => some ((k, v) :: l)
   | none => none)
  | none => none
def zhC (A : Tgs) : List Nat -> Option Tgs
 | [] => some []
 | k :: r => match tgt A k with
  | some v => (match zhC A r with
   | some l => some ((k, some v) :: l)
   | none => none)
  | none => none
theorem zcb {H : Hp} : ∀ {ks : List Nat} {H' : Hp}, zd3 H ks = some H' -> Has H' H
 | [], H', h => by cases h; exact Has.nil
 | k :: r, H', h => by
  unfold zd3 at h
  split at h
  ·
   rename_i v hv; split at h
   . rename_i l hl; cases h; exact Has.cons hv (zcb hl)
   . cases h
  . cases h
section
variable {P : Program} {T : Tab} {Z : Szs} {n : Nat} {Q : Exit -> Act -> World -> Prop} {ks : List Fr} {pos : Pos} {env : Env} {A : Tgs} {H : Hp} {Bs : yc} {ops : Array Oper} {v : Value}
theorem zm1 (k j : Nat) {w : World} {b o : Nat} {c : Value} {cs : List Value} (hn : (zo H k).isNone = true) (hp : Bs[j]? = some (w, fun _ => False)) (hc : Cells w b o (c :: cs)) (h : V P n Q ks pos env A ((k, .fro b o (c :: cs)) :: H) Bs) : V P n Q ks pos env A H Bs :=
 V.fro k (by simpa using hn) (zn1 hp) (zn2 _ _ (hc 0 c rfl)) (fun h => h) hc h
theorem zm2 (k j : Nat) {w : World} {S : Nat -> Prop} {b o : Nat} {c : Value} {cs : List Value} (hn : (zo H k).isNone = true) (hp : Bs[j]? = some (w, S)) (hS : ¬ S b) (hc : Cells w b o (c :: cs)) (h : V P n Q ks pos env A ((k, .fro b o (c :: cs)) :: H) Bs) : V P n Q ks pos env A H Bs :=
 V.fro k (by simpa using hn) (zn1 hp) (zn2 _ _ (hc 0 c rfl)) hS hc h
theorem V.dat {α : Type} {kk : Nat} {R : Rel α} [Dt R] {D : Nat -> Prop} {l : List α} (k j : Nat) {w0 : World} {S : Nat -> Prop} (hn : (zo H k).isNone = true) (hp : Bs[j]? = some (w0, S)) (hk : Nat.blt 0 kk = true) (hd : SlR kk R D w0 v l) (hS : ∀ b, D b -> b < w0.heap.size -> ¬ S b)
  (h : V P n Q ks pos env A ((k, .dat (fun b => D b /\ b < w0.heap.size) (fun w => SlR kk R (fun b => D b /\ b < w0.heap.size) w v l)) :: H) Bs) : V P n Q ks pos env A H Bs :=
 fun hA w' hI => h (hA.new (by simpa using hn)) w' (by
  have h1 := hI.dat k (p := (w0, S)) (zn1 hp) (show 0 < kk by simpa [Nat.blt_eq] using hk) hd hS
  exact h1)
theorem zbn : ∀ {H : Hp} {k j : Nat}, Nat.beq k j = false -> zo (zeJ H k) j = zo H j
 | [], _, _, _ => rfl
 | (k1, e1) :: r, k, j, h => by
  simp only [zeJ]
  cases hb : Nat.beq k1 k with
  | true =>
   have := zn7 hb
   subst this
   simp only [zo, h, cond_false, cond_true]
  | false => simp only [zo, cond_false]; rw [zbn h]
theorem V.del (k : Nat) (hn : qm H k = none) (h : V P n Q ks pos env A (zeJ H k) Bs) : V P n Q ks pos env A H Bs := by
 refine fun hA w hI => h (hA.heap (fun j b o hj => ?_)) w (hI.del k)
 have hkj : Nat.beq k j = false := by
  cases hb : Nat.beq k j with
  | true => rw [<- zn7 hb, hn] at hj; cases hj
  | false => rfl
 unfold qm at hj ⊢
 rw [zbn hkj]
 exact hj
theorem zdI : ∀ {H : Hp} {k : Nat} {e' : HE}, ∀ y ∈ zeJ H k, y ∈ hset H k e'
 | [], _, _, _, h => by cases h
 | (k1, e1) :: r, k, e', y, h => by
  simp only [zeJ] at h
  simp only [hset]
  cases hb : Nat.beq k1 k with
  | true => rw [hb] at h; exact zn3 _ h
  | false =>
   rw [hb] at h
   rcases zng.1 h with rfl | h
   . exact zn4 ..
   . exact zn3 _ (zdI y h)
theorem zdJ : ∀ {H : Hp} {k : Nat} {e e' : HE}, zo H k = some e -> (k, e') ∈ hset H k e'
 | [], _, _, _, h => by cases h
 | (k1, e1) :: r, k, e, e', h => by
  simp only [zo] at h
  simp only [hset]
  cases hb : Nat.beq k1 k with
  | true => rw [zn7 hb]; exact zn4 ..
  | false => rw [hb] at h; exact zn3 _ (zdJ h)
theorem zm3 {α : Type} {R : Rel α} [Dt R] (k k2 : Nat) {t : TypeId} {m : Nat} {l : List α} (enc : α -> Value) (hR : ∀ D w x, R D w x [enc x]) (hg : zo H k = some (.row t 1 v m (l.map enc))) (hn : (zo (zeJ H k) k2).isNone = true)
  (h : V P n Q ks pos env A ((k2, .dat (fun b => v.ownBlock = some b) (fun w => SlR 1 R (fun b => v.ownBlock = some b) w v l)) :: zeJ H k) Bs) : V P n Q ks pos env A H Bs := by
 rw [Option.isNone_iff_eq_none] at hn
 refine fun hA w hI => ?_
 have ho : w.ownsRow 0 t 1 v m (l.map enc) := hI.at k hg
 have he : HE.holds w (.dat (fun b => v.ownBlock = some b) (fun w => SlR 1 R (fun b => v.ownBlock = some b) w v l)) := ⟨zkx enc (fun x _ => hR _ _ x) ho (fun g hg => hg), fun q hq => xj ho hq⟩
 have hl : HE.loc (.dat (fun b => v.ownBlock = some b) (fun w => SlR 1 R (fun b => v.ownBlock = some b) w v l)) := fun w w' T h1 h2 h3 => h1.keep Dt.s h2 (fun q hq _ => h3 q hq)
 have hF := hI.freeze hg he hl (fun _ h => h) (fun _ h => h)
 have hA' : TgOk A env (zeJ H k) := hA.heap (fun j b o hj => by
  have hkj : Nat.beq k j = false := by
   cases hb : Nat.beq k j with
   | true => rw [<- zn7 hb] at hj; simp [qm, hg] at hj
   | false => rfl
  unfold qm at hj ⊢
  rw [zbn hkj]
  exact hj)
 exact h (hA'.new hn) w ((hI.del k).frz k2 he hl (fun _ h => h) (fun b hb x hx => hF.froz _ (zdJ hg) x (zdI x hx) b hb))
theorem zm4 (k : Nat) {e e' : HE} (hg : zo H k = some e) (he : e = e') (h : V P n Q ks pos env A (hset H k e') Bs) : V P n Q ks pos env A H Bs := by
 subst he
 intro hA w hI
 have hh : ∀ (H : Hp), zo H k = some e -> hset H k e = H := by
  intro H
  induction H with
  | nil => intro h; cases h
  | cons x r ih =>
   obtain ⟨k', e'⟩ := x
   intro h
   simp only [zo] at h
   simp only [hset]
   cases hb : Nat.beq k' k with
   | true => rw [hb] at h; cases h; rfl
   | false => rw [hb] at h; simp only [cond_false]; rw [ih h]
 rw [hh H hg] at h
 exact h hA w hI
theorem zm5 {σ : Type} (es hs ts : List Nat) {E1 : Env} {H1 : Hp} {A1 : Tgs} (_hp : (zhB env es, zd3 H hs, zhC A ts) = (some E1, some H1, some A1)) (env' : Env -> σ -> Env) (H' : Hp -> σ -> Hp) (I : σ -> Prop) (μ : σ -> Nat) {c : Code} (s₀ : σ) (h₀ : Sub (env' E1 s₀) env) (hH : Has (H' H1 s₀) H) (hu : ∀ s, qr ((H' H1 s).map (·.1)) = true)
  (hA' : ∀ s, A1.map (fun p => zd2 (env' E1 s) p.1) = A1.map (fun p => jv (H' H1 s) p.2)) (hA2 : ∀ s, A1.all (fun p => (jv (H' H1 s) p.2).isSome) = true) (hI : I s₀)
  (h : ∀ s, I s -> V P n Q (.k (zho n (env' E1) (fun s w => I s /\ VI Bs (H' H1 s) w) μ (μ s)) :: ks) (.c c) (env' E1 s) A1 (H' H1 s) Bs) : V P n Q ks (.c (.loop c)) env A H Bs :=
 V.loop (env' E1) A1 (H' H1) I μ s₀ h₀ hH hu (fun s => ⟨hA' s, hA2 s⟩) hI h
theorem zm6 {σ : Type} (es hs ts : List Nat) {E1 : Env} {H1 : Hp} {A1 : Tgs} (_hp : (zhB env es, zd3 H hs, zhC A ts) = (some E1, some H1, some A1)) (env' : Env -> σ -> Env) (H' : Hp -> σ -> Hp) (I : σ -> Prop) {c : Code}
  (hA' : ∀ s, A1.map (fun p => zd2 (env' E1 s) p.1) = A1.map (fun p => jv (H' H1 s) p.2)) (hA2 : ∀ s, A1.all (fun p => (jv (H' H1 s) p.2).isSome) = true)
  (h : V P n Q (.k (zhp n (env' E1) (fun s w => I s /\ VI Bs (H' H1 s) w)) :: ks) (.c c) env A H Bs) (hk : ∀ s, I s -> V P n Q ks (.e .normal) (env' E1 s) A1 (H' H1 s) Bs) : V P n Q ks (.c c) env A H Bs :=
 V.cut (env' E1) A1 (H' H1) I (fun s => ⟨hA' s, hA2 s⟩) h hk
theorem zm7 {id : Nat} {l : List Oper} (hs L : List Nat) {Hs : Hp} (hm : P.follows .mixedOrders = true) (hp : zd3 H hs = some Hs) (h : VD P n Q ks l.toArray Hs Bs L l.length (Array.replicate l.length false) env A H Bs) : V P n Q ks (.c (.region id l.toArray true)) env A H Bs := zks Hs L hm (zcb hp) h
end
def zja : List Value -> List Value -> Option (List Value)
 | [], l => some l
 | u :: us, l => match zja us l with
  | some r => some (u :: r)
  | none => none
def zbo : List Value -> Option (List Value)
 | [] => some []
 | v :: r => match zdH v with
  | some us => (match zbo r with
   | some l => zja us l
   | none => none)
  | none => none
def zin : Value -> List Value
 | .agg ⟨l⟩ => l
 | v => [v]
def zhD (places : List (Nat × Nat)) : List Value -> List (Nat × Value) -> Option (List Value)
 | cs, [] => some cs
 | cs, (i, v) :: r => match nth places i with
  | some (off, _) => (match wrE (zin v) off cs with
   | some cs' => zhD places cs' r
   | none => none)
  | none => none
section
variable {P : Program} {T : Tab} {Z : Szs} {n : Nat} {Q : Exit -> Act -> World -> Prop} {ks : List Fr} {pos : Pos} {env : Env} {A : Tgs} {H Hs : Hp} {Bs B0 : yc} {ops : Array Oper} {rest : List Oper} {v : Value} {L : List Nat} {fuel : Nat} {listed : Array Bool}
variable {d : Nat} {op : Op} {ty : TypeId} {ps : String} {aft : Array Edge} {g : Option (Nat × Bool)}
theorem zm8 (k : Nat) {t e : TypeId} {len kk : Nat} {parts : Array (Nat × Operand)} {z : Value} {cs : List Value} (vs : List (Nat × Value)) (hu : ∀ w, (underlying t).run P w = .ok (.slice e) w) (hs : ∀ w, (sizeOf e).run P w = .ok kk w) (hz : ∀ w, (zeroValue e).run P w = .ok z w)
  (hlen : len * kk ≠ 0 /\ len * kk <= 16777216) (hn : (Nat.blt d n, gd ops env g, (zo H k).isNone, parts.toList.map (fun p => (p.1, ev env p.2))) = (true, some true, true, vs.map (fun p => (p.1, some p.2)))) (_hcs : zbo (vs.map (·.2)) = some cs) (hf : Instr.fill (fun i => some (i * kk, kk)) ((Array.range (len * kk)).map (z.cells[· % z.cells.size]!)) vs = some cs.toArray)
  (h : ∀ b, V P n Q ks (.o ops rest) ((d, .slice (some ⟨b, 0, none⟩) len len) :: env) ((d, none) :: A) ((k, .own b cs e) :: H) Bs) : V P n Q ks (.o ops (⟨some d, .buildSlice t len parts, ty, ps, aft, g⟩ :: rest)) env A H Bs := by
 simp only [Prod.mk.injEq] at hn
 exact zlF k (u := fun b => .slice (some ⟨b, 0, none⟩) len len) (by rw [hn.1, hn.2.1, hn.2.2.1]) (fun _ _ => M.buildSlice vs hu hs hz hlen hn.2.2.2 hf) h
theorem zma {α : Type} {R : Rel α} (k : Nat) {t e : TypeId} {kk by' : Nat} {z : Value} {x y : Operand} {m : Nat} {xs : List Value} {vy : Value} {l : List α} (enc : α -> List Value) (hc : ∀ x, (enc x).length = kk) (h1 : ∀ x, ∀ u ∈ enc x, u.oneCell' = true) (hR : ∀ D w x cs, R D w x cs -> cs = enc x)
  (hu : P.underlying t = some (.slice e)) (he : (P.info? e).map (fun i => (i.zero, i.size, i.bytes)) = some (some z, kk, by')) (hzs : z.cells.size = kk) (hk0 : 0 < kk) (hn : (Nat.blt d n, gd ops env g, zo H k, ev env x, ev env y) = (true, some true, some (.row e kk v m xs), some v, some vy))
  (hsl : ∀ w, VI Bs H w -> ∃ D, SlR kk R D w vy l) (hmax : m + l.length <= 9223372036854775807) (hby : (m + l.length) * by' <= 140737488355328)
  (h : ∀ u, V P n Q ks (.o ops rest) ((d, u) :: env) ((d, none) :: A) (hset H k (.row e kk u (m + l.length) (xs ++ l.flatMap enc))) Bs) : V P n Q ks (.o ops (⟨some d, .call ⟨.builtin .append, #[x, y], #[t, t]⟩, ty, ps, aft, g⟩ :: rest)) env A H Bs := by
 simp only [Prod.mk.injEq] at hn
 obtain ⟨h2, h3, h4, h5, h6⟩ := hn
 intro hA w hI
 obtain ⟨D, hsl⟩ := hsl w hI
 refine zkf h2 h3 (zkI enc hc h1 (fun x cs => hR D w x cs) hu he hzs hk0 h5 h6 hsl (hI.at k h4) hmax hby) ?_
 rintro u w' ⟨ho, hf, hk⟩
 refine h u (TgOk.none (hA.res h4 ?_)) w' (hI.set h4 hk ho trivial (fun _ h => h) (fun q hq => ⟨?_, xj ho hq⟩))
 . simp [qm, h4]
 ·
  rcases hf with hf | ⟨g', hf, hg'⟩
  . exact .inl (by show v.ownBlock = some q; rw [<- hf]; exact hq)
  ·
   have hq : u.ownBlock = some q := hq
   rw [hf] at hq; cases hq; exact .inr hg'
theorem zmc (k : Nat) {t e : TypeId} {kk : Nat} (hu : ∀ w, (underlying t).run P w = .ok (.slice e) w) (hs : ∀ w, (sizeOf e).run P w = .ok kk w) (hn : (Nat.blt d n, gd ops env g, (zo H k).isNone) = (true, some true, true))
  (h : ∀ b, V P n Q ks (.o ops rest) ((d, .slice (some ⟨b, 0, none⟩) 0 0) :: env) ((d, none) :: A) ((k, .row e kk (.slice (some ⟨b, 0, none⟩) 0 0) 0 []) :: H) Bs) : V P n Q ks (.o ops (⟨some d, .buildSlice t 0 #[], ty, ps, aft, g⟩ :: rest)) env A H Bs := by
 simp only [Prod.mk.injEq, Option.isNone_iff_eq_none] at hn
 refine fun hA w hI => zkf hn.1 hn.2.1 (zkE hu hs) ?_
 rintro _ w' ⟨b, rfl, hb, hsz, hB, hk⟩
 refine h b (TgOk.none (hA.new hn.2.2)) w' (hI.new hk k ?_ trivial (fun _ h => h) (fun q hq => ?_))
 ·
  have := yv (k := kk) (n := 0) (cap := 0) hB (zno _) (by omega) (by simp)
  show w'.ownsRow 0 e kk _ 0 []
  simpa using this
 ·
  have hq : some b = some q := hq
  cases hq
  omega
theorem zme {t : TypeId} {parts : Array (Nat × Operand)} {l : List Value} (zs : List Value) (places : List (Nat × Nat)) (vs : List (Nat × Value)) (hn : (Nat.blt d n, gd ops env g, parts.toList.map (fun p => (p.1, ev env p.2))) = (true, some true, vs.map (fun p => (p.1, some p.2)))) (_hl : zhD places zs vs = some l) (hb : ∀ w, (Instr.build t vs.toArray).run P w = .ok (.agg l.toArray) w)
  (h : V P n Q ks (.o ops rest) ((d, .agg l.toArray) :: env) ((d, none) :: A) H Bs) : V P n Q ks (.o ops (⟨some d, .build t parts, ty, ps, aft, g⟩ :: rest)) env A H Bs := by
 simp only [Prod.mk.injEq] at hn
 exact zlh (by rw [hn.1, hn.2.1]) (fun _ _ => R.build vs hn.2.2 hb) h
theorem zmg (i : Nat) (hi : ops[i]? = some ⟨some d, op, ty, ps, aft, g⟩) (hc : zdF ops [i] listed = true) (hn : (Nat.blt d n, gd ops env g) = (true, some true)) (hr : ∀ w, yo P ⟨some d, op, ty, ps, aft, g⟩ env w v w)
  (h : VD P n Q ks ops Hs B0 L fuel (listed.setIfInBounds i true) ((d, v) :: env) ((d, none) :: A) H Bs) : VD P n Q ks ops Hs B0 L (fuel + 1) listed env A H Bs := by
 simp only [Prod.mk.injEq] at hn
 unfold zdF at hc
 rw [Bool.and_eq_true] at hc
 exact fun hH hA w hI => zlu i hi hc.1 O hn.1 (.inl ⟨xO hn.2, fun w' nn a haa => hr w' nn a haa⟩) (h hH hA.none w hI)
theorem zmf (i : Nat) {t : TypeId} {parts : Array (Nat × Operand)} {l : List Value} (zs : List Value) (places : List (Nat × Nat)) (vs : List (Nat × Value)) (hi : ops[i]? = some ⟨some d, .build t parts, ty, ps, aft, g⟩) (hc : zdF ops [i] listed = true) (hn : (Nat.blt d n, gd ops env g, parts.toList.map (fun p => (p.1, ev env p.2))) = (true, some true, vs.map (fun p => (p.1, some p.2)))) (_hl : zhD places zs vs = some l) (hb : ∀ w, (Instr.build t vs.toArray).run P w = .ok (.agg l.toArray) w)
  (h : VD P n Q ks ops Hs B0 L fuel (listed.setIfInBounds i true) ((d, .agg l.toArray) :: env) ((d, none) :: A) H Bs) : VD P n Q ks ops Hs B0 L (fuel + 1) listed env A H Bs := by
 simp only [Prod.mk.injEq] at hn
 exact zmg i hi hc (by rw [hn.1, hn.2.1]) (fun _ => R.build vs hn.2.2 hb) h
theorem zm9 (i k j : Nat) {t e : TypeId} {len kk : Nat} {parts : Array (Nat × Operand)} {z : Value} {cs : List Value} (vs : List (Nat × Value)) (hu : ∀ w, (underlying t).run P w = .ok (.slice e) w) (hs : ∀ w, (sizeOf e).run P w = .ok kk w) (hz : ∀ w, (zeroValue e).run P w = .ok z w)
  (hlen : len * kk ≠ 0 /\ len * kk <= 16777216) (hi : ops[i]? = some ⟨some d, .buildSlice t len parts, ty, ps, aft, g⟩) (hr : Region.ready .any ops listed = [i]) (hn : (Nat.blt d n, gd ops env g, (zo H k).isNone, qr (Hs.map (·.1)), parts.toList.map (fun p => (p.1, ev env p.2)), Bs.drop j) = (true, some true, true, true, vs.map (fun p => (p.1, some p.2)), B0)) (_hcs : zbo (vs.map (·.2)) = some cs) (hf : Instr.fill (fun i => some (i * kk, kk)) ((Array.range (len * kk)).map (z.cells[· % z.cells.size]!)) vs = some cs.toArray)
  (h : ∀ b, VD P n Q ks ops Hs B0 L fuel (listed.setIfInBounds i true) ((d, .slice (some ⟨b, 0, none⟩) len len) :: env) ((d, none) :: A) ((k, .own b cs e) :: H) Bs) : VD P n Q ks ops Hs B0 L (fuel + 1) listed env A H Bs := by
 simp only [Prod.mk.injEq] at hn
 exact zlG i k j (u := fun b => .slice (some ⟨b, 0, none⟩) len len) hi hr (by rw [hn.1, hn.2.1, hn.2.2.1, hn.2.2.2.1]) hn.2.2.2.2.2 (fun _ _ => M.buildSlice vs hu hs hz hlen hn.2.2.2.2.1 hf) h
theorem zlR (k : Nat) {t : TypeId} {kk m : Nat} {xs : List Value} (hn : zo H k = some (.row t kk v m xs)) (hm : 0 < m) (h : ∀ b c, v = .slice (some ⟨b, 0, none⟩) m c -> m <= c -> VD P n Q ks ops Hs B0 L fuel listed env A H Bs) : VD P n Q ks ops Hs B0 L fuel listed env A H Bs := by
 intro hH hA w hI
 have ho : w.ownsRow 0 t kk v m xs := hI.at k hn
 rcases ho.2 with ⟨_, hm0⟩ | ⟨b, cap, cur, hv, _, _, hc, _⟩
 . omega
 . exact h b cap hv hc hH hA w hI
theorem zmd (i k j : Nat) {t e : TypeId} {kk : Nat} (hu : ∀ w, (underlying t).run P w = .ok (.slice e) w) (hs : ∀ w, (sizeOf e).run P w = .ok kk w) (hi : ops[i]? = some ⟨some d, .buildSlice t 0 #[], ty, ps, aft, g⟩) (hr : Region.ready .any ops listed = [i]) (hn : (Nat.blt d n, gd ops env g, (zo H k).isNone, qr (Hs.map (·.1)), Bs.drop j) = (true, some true, true, true, B0))
  (h : ∀ b, VD P n Q ks ops Hs B0 L fuel (listed.setIfInBounds i true) ((d, .slice (some ⟨b, 0, none⟩) 0 0) :: env) ((d, none) :: A) ((k, .row e kk (.slice (some ⟨b, 0, none⟩) 0 0) 0 []) :: H) Bs) : VD P n Q ks ops Hs B0 L (fuel + 1) listed env A H Bs := by
 simp only [Prod.mk.injEq, Option.isNone_iff_eq_none] at hn
 obtain ⟨h1, h2, h3, h4, rfl⟩ := hn
 refine fun hH hA w hI => zlY i hi hr h1 h2 (.inl (zkE hu hs)) ?_
 rintro _ w' ⟨b, rfl, hb, hsz, hB, hk⟩
 have hI' : VI Bs ((k, .row e kk (.slice (some ⟨b, 0, none⟩) 0 0) 0 []) :: H) w' := hI.new hk k (by
  have := yv (k := kk) (n := 0) (cap := 0) hB (zno _) (by omega) (by simp)
  show w'.ownsRow 0 e kk _ 0 []
  simpa using this) trivial (fun _ h => h) (fun q hq => by
  have hq : some b = some q := hq
  cases hq
  omega)
 have hH' : Has Hs ((k, .row e kk (.slice (some ⟨b, 0, none⟩) 0 0) 0 []) :: H) := hH.new h3
 exact ⟨(hI'.drop j).pick hH' h4, h b hH' (TgOk.none (hA.new h3)) w' hI'⟩
theorem zmb {α : Type} {R : Rel α} (i k j : Nat) {t e : TypeId} {kk by' : Nat} {z : Value} {x y : Operand} {m : Nat} {xs : List Value} {vy : Value} {l : List α} (enc : α -> List Value) (hc : ∀ x, (enc x).length = kk) (h1 : ∀ x, ∀ u ∈ enc x, u.oneCell' = true) (hR : ∀ D w x cs, R D w x cs -> cs = enc x)
  (hu : P.underlying t = some (.slice e)) (he : (P.info? e).map (fun i => (i.zero, i.size, i.bytes)) = some (some z, kk, by')) (hzs : z.cells.size = kk) (hk0 : 0 < kk) (hi : ops[i]? = some ⟨some d, .call ⟨.builtin .append, #[x, y], #[t, t]⟩, ty, ps, aft, g⟩) (hr : Region.ready .any ops listed = [i]) (hB : Bs.drop j = B0)
  (hn : (Nat.blt d n, gd ops env g, zo H k, ev env x, ev env y, qr (Hs.map (·.1)), qq k (Hs.map (·.1))) = (true, some true, some (.row e kk v m xs), some v, some vy, true, true))
  (hsl : ∀ w, VI Bs H w -> ∃ D, SlR kk R D w vy l) (hmax : m + l.length <= 9223372036854775807) (hby : (m + l.length) * by' <= 140737488355328)
  (h : ∀ u, VD P n Q ks ops Hs B0 L fuel (listed.setIfInBounds i true) ((d, u) :: env) ((d, none) :: A) (hset H k (.row e kk u (m + l.length) (xs ++ l.flatMap enc))) Bs) : VD P n Q ks ops Hs B0 L (fuel + 1) listed env A H Bs := by
 simp only [Prod.mk.injEq] at hn
 subst hB
 obtain ⟨h2, h3, h4, h5, h6, h8, h9⟩ := hn
 intro hH hA w hI
 obtain ⟨D, hsl⟩ := hsl w hI
 refine zlY i hi hr h2 h3 (.inl (zkI enc hc h1 (fun x cs => hR D w x cs) hu he hzs hk0 h5 h6 hsl (hI.at k h4) hmax hby)) ?_
 rintro u w' ⟨ho, hf, hk⟩
 have hI' : VI Bs (hset H k (.row e kk u (m + l.length) (xs ++ l.flatMap enc))) w' := hI.set h4 hk ho trivial (fun _ h => h) (fun q hq => ⟨by
  rcases hf with hf | ⟨g', hf, hg'⟩
  . exact .inl (by show v.ownBlock = some q; rw [<- hf]; exact hq)
  ·
   have hq : u.ownBlock = some q := hq
   rw [hf] at hq; cases hq; exact .inr hg', xj ho hq⟩)
 have hH' : Has Hs (hset H k (.row e kk u (m + l.length) (xs ++ l.flatMap enc))) := hH.set h4 h9
 exact ⟨(hI'.drop j).pick hH' h8, h u hH' (TgOk.none (hA.res h4 (by simp [qm, h4]))) w' hI'⟩
end
section
variable {P : Program} {T : Tab} {Z : Szs} {n : Nat} {Q : Exit -> Act -> World -> Prop} {ks : List Fr} {env env' : Env} {A A' : Tgs} {H Hs : Hp} {Bs B0 : yc} {ops : Array Oper} {v : Value} {L : List Nat} {fuel : Nat} {listed : Array Bool}
theorem VD.one (hT : zl4 P T) (hZ : zl5 P Z) (i j : Nat) {d : Nat} {op : Op} {ty : TypeId} {ps : String} {aft : Array Edge} {g : Option (Nat × Bool)} {t : Option (Nat × Nat)} (hi : ops[i]? = some ⟨some d, op, ty, ps, aft, g⟩) (hr : Region.ready .any ops listed = [i]) (hn : (Nat.blt d n, gd ops env g, opV T Z env A H op, qr (Hs.map (·.1))) = (true, some true, some (none, v, t), true)) (hB : Bs.drop j = B0)
  (h : VD P n Q ks ops Hs B0 L fuel (listed.setIfInBounds i true) ((d, v) :: env) ((d, t) :: A) H Bs) : VD P n Q ks ops Hs B0 L (fuel + 1) listed env A H Bs := by
 simp only [Prod.mk.injEq] at hn
 subst hB
 intro hH hA w hI
 obtain ⟨h1, h2⟩ := zb1 (w := w) (Bs := Bs) hT hZ hn.2.2.1 hA
 refine zlY i hi hr hn.1 hn.2.1 (R := fun u w' => u = v /\ w' = w) (.inl ⟨v, w, ?_, rfl, rfl⟩) ?_
 . exact fun nn a ha => h2 hI trivial (some d) ty ps aft nn a ha
 rintro _ _ ⟨rfl, rfl⟩
 exact ⟨(hI.drop j).pick hH hn.2.2.2, h hH (h1 d) _ hI⟩
end
theorem Mat.put {α : Type} {enc : α -> Value} {e eo : TypeId} {B : Nat} {w w1 w2 : World} {bo : Nat} {rv : List Value} {rows : List (List α)} (h : Mat enc e eo B w bo rv rows) (hB : B <= w.heap.size) {i : Nat} {v v' : Value} {r' : List α} (hv : rv[i]? = some v)
  (hown : w1.ownsRow 0 e 1 v' r'.length (r'.map enc)) (hfr : v'.ownBlock = v.ownBlock \/ ∃ g, v'.ownBlock = some g /\ w.heap.size <= g) (hk : Keep (fun q => v.ownBlock = some q) w w1)
  (hst : zd1 w1 bo (rv.set i v') eo w2) : Mat enc e eo B w2 bo (rv.set i v') (rows.set i r') := by
 obtain ⟨hs2, hB2, hk2⟩ := hst
 have hbo := h.out.lt
 have hnew : ∀ g, v'.ownBlock = some g -> B <= g /\ g ≠ bo /\ (v.ownBlock = some g \/ w.heap.size <= g) := by
  intro g hg
  rcases hfr with h1 | ⟨g', h1, h2⟩
  ·
   rw [h1] at hg
   have := h.far i v g hv hg
   exact ⟨this.1, this.2, .inl hg⟩
  ·
   rw [h1] at hg
   cases hg
   exact ⟨by omega, by omega, .inr h2⟩
 have hi : i < rv.length := (zne.1 hv).1
 refine ⟨hB2, by simp [h.len], ?_, ?_, ?_⟩
 ·
  intro j u s hu hs
  by_cases hij : i = j
  ·
   subst hij
   rw [List.getElem?_set_self hi] at hu
   rw [List.getElem?_set_self (by rw [<- h.len]; exact hi)] at hs
   cases hu; cases hs
   exact zR hown hk2 (fun g hg h => by have := (hnew g hg).2.1; exact this h)
  ·
   rw [List.getElem?_set_ne hij] at hu hs
   have h1 := h.row j u s hu hs
   have h2 := zR h1 hk (fun g hg hv' => h.apart i j v u g hij hv hu hv' hg)
   exact zR h2 hk2 (fun g hg h' => (h.far j u g hu hg).2 h')
 ·
  intro j u g hu hg
  by_cases hij : i = j
  ·
   subst hij
   rw [List.getElem?_set_self hi] at hu
   cases hu
   exact ⟨(hnew g hg).1, (hnew g hg).2.1⟩
  ·
   rw [List.getElem?_set_ne hij] at hu
   exact h.far j u g hu hg
 ·
  intro j k u s g hjk hu hs hg hg'
  by_cases hij : i = j
  ·
   subst hij
   rw [List.getElem?_set_self hi] at hu
   rw [List.getElem?_set_ne hjk] at hs
   cases hu
   rcases (hnew g hg).2.2 with h1 | h1
   . exact h.apart i k v s g hjk hv hs h1 hg'
   . have := h.blk hs hg'; omega
  ·
   rw [List.getElem?_set_ne hij] at hu
   by_cases hik : i = k
   ·
    subst hik
    rw [List.getElem?_set_self hi] at hs
    cases hs
    rcases (hnew g hg').2.2 with h1 | h1
    . exact h.apart i j v u g hij hv hu h1 hg
    . have := h.blk hu hg; omega
   ·
    rw [List.getElem?_set_ne hik] at hs
    exact h.apart j k u s g hjk hu hs hg hg'
open Go.RowKit
def OwnsQ (w : World) (e : TypeId) (k : Nat) (v : Value) (n : Nat) (xs : List Value) : Prop :=
 xs.length = n * k /\ ∃ g off cap cs, v = .slice (some ⟨g, off, none⟩) n cap /\ Blk w g cs e /\ n <= cap /\ cap <= 9223372036854775807 /\ off + cap * k <= cs.length /\ (cs.drop off).take (n * k) = xs
theorem OwnsQ.keep {S : Nat -> Prop} {w w' : World} {e : TypeId} {k : Nat} {v : Value} {n : Nat} {xs : List Value} (h : OwnsQ w e k v n xs) (hk : Keep S w w') (hn : ∀ q, v.ownBlock = some q -> ¬ S q) : OwnsQ w' e k v n xs := by
 obtain ⟨h0, g, off, cap, cs, rfl, h1, h2⟩ := h
 exact ⟨h0, g, off, cap, cs, rfl, hk.blk h1 (hn g O), h2⟩
theorem OwnsQ.lt {w : World} {e : TypeId} {k : Nat} {v : Value} {n : Nat} {xs : List Value} (h : OwnsQ w e k v n xs) {q : Nat} (hq : v.ownBlock = some q) : q < w.heap.size := by
 obtain ⟨h0, g, off, cap, cs, rfl, h1, h2⟩ := h
 cases hq
 exact h1.lt
theorem OwnsQ.form {w : World} {e : TypeId} {k : Nat} {v : Value} {n : Nat} {xs : List Value} (h : OwnsQ w e k v n xs) : ∃ g off cap, v = .slice (some ⟨g, off, none⟩) n cap /\ n <= cap /\ cap <= 9223372036854775807 /\ Cells w g off xs := by
 obtain ⟨h0, g, off, cap, cs, rfl, h1, h2, h3, h4, h5⟩ := h
 refine ⟨g, off, cap, rfl, h2, h3, fun j u hu => ?_⟩
 rw [<- h5, znv] at hu
 split at hu
 ·
  rw [List.getElem?_drop] at hu
  have := Blk.cells h1 (off + j) u hu
  simpa using this
 . cases hu
abbrev Qu (e : TypeId) (kk : Nat) (v : Value) (m : Nat) (xs : List Value) : HE := .res (fun q => v.ownBlock = some q) (fun w => OwnsQ w e kk v m xs)
theorem Qu.loc {e : TypeId} {kk : Nat} {v : Value} {m : Nat} {xs : List Value} : (Qu e kk v m xs).loc := fun _ _ _ h hk hT => h.keep hk fun q hq => hT q (h.lt hq) hq
abbrev MatP {α : Type} (enc : α -> Value) (e eo : TypeId) (B : Nat) (bo : Nat) (rv : List Value) (rows : List (List α)) : HE := .res (fun q => q = bo \/ ∃ (i : Nat) (v : Value), rv[i]? = some v /\ v.ownBlock = some q) (fun w => Mat enc e eo B w bo rv rows)
theorem MatP.loc {α : Type} {enc : α -> Value} {e eo : TypeId} {B bo : Nat} {rv : List Value} {rows : List (List α)} : (MatP enc e eo B bo rv rows).loc := fun _ _ _ h hk hT => h.keep hk (hT bo h.out.lt (.inl rfl)) fun i v g hv hg => hT g (h.blk hv hg) (.inr ⟨i, v, hv, hg⟩)
theorem VI.add {Bs : yc} {H : Hp} {w : World} {e : HE} (h : VI Bs H w) (k : Nat) (he : e.holds w) (hl : e.loc) (hz : ∀ b, ¬ e.fz b) (hS : ∀ q, e.S q -> q < w.heap.size /\ (∀ p ∈ Bs, p.2 q \/ p.1.heap.size <= q) /\ ∀ x ∈ H, ¬ x.2.S q /\ ¬ x.2.fz q) : VI Bs ((k, e) :: H) w := by
 refine ⟨?_, ?_, ?_, ?_, ?_, ?_⟩
 ·
  intro x hx
  rcases zng.1 hx with rfl | hx
  . exact he
  . exact h.holds x hx
 ·
  intro x hx
  rcases zng.1 hx with rfl | hx
  . exact hl
  . exact h.loc x hx
 . exact List.pairwise_cons.2 ⟨fun x hx q hq hs => ((hS q hq).2.2 x hx).1 hs, h.apart⟩
 ·
  intro x hx y hy b hb
  rcases zng.1 hx with rfl | hx
  . exact absurd hb (hz b)
  ·
   rcases zng.1 hy with rfl | hy
   . exact fun hs => ((hS b hs).2.2 x hx).2 hb
   . exact h.froz x hx y hy b hb
 ·
  intro x hx q hq
  rcases zng.1 hx with rfl | hx
  . exact (hS q hq).1
  . exact h.low x hx q hq
 ·
  intro p hp
  refine ⟨(h.base p hp).1, fun x hx q hq => ?_⟩
  rcases zng.1 hx with rfl | hx
  . exact (hS q hq).2.1 p hp
  . exact (h.base p hp).2 x hx q hq
structure RowsOk {α : Type} (enc : α -> Value) (e : TypeId) (w : World) (rv : List Value) (rows : List (List α)) : Prop where
 len : rv.length = rows.length
 row : ∀ (i : Nat) (v : Value) (r : List α), rv[i]? = some v -> rows[i]? = some r -> w.ownsRow 0 e 1 v r.length (r.map enc)
 apart : ∀ (i j : Nat) (vi vj : Value) (g : Nat), i ≠ j -> rv[i]? = some vi -> rv[j]? = some vj -> vi.ownBlock = some g -> vj.ownBlock ≠ some g
theorem Mat.rows {α : Type} {enc : α -> Value} {e eo : TypeId} {B : Nat} {w : World} {bo : Nat} {rv : List Value} {rows : List (List α)} (h : Mat enc e eo B w bo rv rows) : RowsOk enc e w rv rows := ⟨h.len, h.row, h.apart⟩
section
variable {α : Type} {enc : α -> Value} {e : TypeId} {w w1 : World} {rv : List Value} {rows : List (List α)}
theorem RowsOk.blk (h : RowsOk enc e w rv rows) {i : Nat} {v : Value} {g : Nat} (hv : rv[i]? = some v) (hg : v.ownBlock = some g) : g < w.heap.size := by
 have hi : i < rows.length := by rw [<- h.len]; exact (zne.1 hv).1
 exact xj (h.row i v _ hv (zn0 hi)) hg
theorem RowsOk.keep {S : Nat -> Prop} (h : RowsOk enc e w rv rows) (hk : Keep S w w1) (hS : ∀ (i : Nat) v g, rv[i]? = some v -> v.ownBlock = some g -> ¬ S g) : RowsOk enc e w1 rv rows :=
 ⟨h.len, fun i v r hv hr => zR (h.row i v r hv hr) hk (fun g hg => hS i v g hv hg), h.apart⟩
theorem RowsOk.put (h : RowsOk enc e w rv rows) {i : Nat} {v v' : Value} {r' : List α} (hv : rv[i]? = some v) (hown : w1.ownsRow 0 e 1 v' r'.length (r'.map enc)) (hfr : v'.ownBlock = v.ownBlock \/ ∃ g, v'.ownBlock = some g /\ w.heap.size <= g) (hk : Keep (fun q => v.ownBlock = some q) w w1) : RowsOk enc e w1 (rv.set i v') (rows.set i r') := by
 have hil := (zne.1 hv).1
 have hne : ∀ (j : Nat) u g, i ≠ j -> rv[j]? = some u -> v'.ownBlock = some g -> u.ownBlock ≠ some g := by
  intro j u g hij hu hg hug
  rcases hfr with hf | ⟨g', hf, hg'⟩
  . exact h.apart i j v u g hij hv hu (hf ▸ hg) hug
  ·
   rw [hf] at hg; cases hg
   have := h.blk hu hug
   omega
 refine ⟨by simp [h.len], fun j u r hu hr => ?_, fun a b va vb g hab ha hb hg => ?_⟩
 ·
  by_cases hij : i = j
  ·
   subst hij
   rw [List.getElem?_set_self hil] at hu
   rw [List.getElem?_set_self (by rw [<- h.len]; exact hil)] at hr
   cases hu; cases hr
   exact hown
  ·
   rw [List.getElem?_set_ne hij] at hu hr
   exact zR (h.row j u r hu hr) hk fun g hg hq => h.apart i j v u g hij hv hu hq hg
 ·
  by_cases hia : i = a
  ·
   subst hia
   rw [List.getElem?_set_self hil] at ha
   rw [List.getElem?_set_ne hab] at hb
   cases ha
   exact hne b vb g hab hb hg
  ·
   rw [List.getElem?_set_ne hia] at ha
   by_cases hib : i = b
   ·
    subst hib
    rw [List.getElem?_set_self hil] at hb
    cases hb
    exact fun hg' => hne a va g hia ha hg' hg
   ·
    rw [List.getElem?_set_ne hib] at hb
    exact h.apart a b va vb g hab ha hb hg
end
abbrev RowsP {α : Type} (enc : α -> Value) (e : TypeId) (rv : List Value) (rows : List (List α)) : HE := .res (fun q => ∃ (i : Nat) (v : Value), rv[i]? = some v /\ v.ownBlock = some q) (fun w => RowsOk enc e w rv rows)
theorem RowsP.loc {α : Type} {enc : α -> Value} {e : TypeId} {rv : List Value} {rows : List (List α)} : (RowsP enc e rv rows).loc := fun _ _ _ h hk hT => h.keep hk fun i v g hv hg => hT g (h.blk hv hg) ⟨i, v, hv, hg⟩
theorem Blk.ix {w : World} {b : Nat} {cs : List Value} {e : TypeId} {i : Nat} {v : Value} (h : Blk w b cs e) (hv : cs[i]? = some v) : w.cell? ⟨b, 0 + (i : Int).toNat * 1, none⟩ = some v := by
 have := Blk.cells h i v hv
 simpa using this
theorem MatP.cell {α : Type} {enc : α -> Value} {e eo : TypeId} {B bo : Nat} {rv : List Value} {rows : List (List α)} {w : World} {i : Nat} {v : Value} (h : (MatP enc e eo B bo rv rows).holds w) (hv : rv[i]? = some v) : w.cell? ⟨bo, 0 + (i : Int).toNat * 1, none⟩ = some v := by
 have := Blk.cells (Mat.out (show Mat enc e eo B w bo rv rows from h)) i v hv
 simpa using this
section
variable {P : Program} {T : Tab} {Z : Szs} {n : Nat} {Q : Exit -> Act -> World -> Prop} {ks : List Fr} {pos : Pos} {env : Env} {A : Tgs} {H Hs : Hp} {Bs B0 : yc} {ops : Array Oper} {rest : List Oper} {v : Value} {L : List Nat} {fuel : Nat} {listed : Array Bool}
variable {d : Nat} {op : Op} {ty : TypeId} {ps : String} {aft : Array Edge} {g : Option (Nat × Bool)}
theorem zmh (k : Nat) {e e' : HE} (hn : (zo H k, qm H k) = (some e, none)) (he : ∀ w, VI Bs H w -> e'.holds w) (hl : e'.loc) (hz : ∀ b, ¬ e'.fz b) (hS : ∀ q, e'.S q -> e.S q) (h : V P n Q ks pos env A (hset H k e') Bs) : V P n Q ks pos env A H Bs := by
 simp only [Prod.mk.injEq] at hn
 exact fun hA w hI => h (hA.res hn.1 hn.2) w (hI.set hn.1 (Keep.refl _ _) (he w hI) hl hz fun q hq => ⟨.inl (hS q hq), hI.low _ (zm hn.1) q (hS q hq)⟩)
theorem zmi (i : Nat) (hi : ops[i]? = some ⟨some d, op, ty, ps, aft, g⟩) (hc : (Region.noSelect ops && Region.free .any ops listed i && (Region.ready .any ops listed).contains i && L.all (qG .any ops i) && !L.contains i) = true) (hn : (Nat.blt d n, gd ops env g) = (true, some true)) (j : Nat) (hB : Bs.drop j = B0) (hu : qr (Hs.map (·.1)) = true) (hr : ∀ w, VI B0 Hs w -> yo P ⟨some d, op, ty, ps, aft, g⟩ env w v w)
  (h : VD P n Q ks ops Hs B0 L fuel (listed.setIfInBounds i true) ((d, v) :: env) ((d, none) :: A) H Bs) : VD P n Q ks ops Hs B0 L (fuel + 1) listed env A H Bs := by
 simp only [Prod.mk.injEq] at hn
 subst hB
 exact fun hH hA w hI => zl3 i hi hc O hn.1 ((hI.drop j).pick hH hu) (.inl ⟨xO hn.2, hr⟩) (h hH hA.none w hI)
theorem zmj (i : Nat) {S : World -> Prop} {Q : Exit -> Act -> World -> Prop} {op : Op} {w : World} {R : World -> Prop} (hi : ops[i]? = some ⟨none, op, ty, ps, aft, g⟩) (hr : Region.ready .any ops listed = [i]) (hg : gd ops env g = some true) (hL : L.contains i = true) (hm : qT P ⟨none, op, ty, ps, aft, g⟩ env w R)
  (h : ∀ w', R w' -> WD P n ops Q S L fuel (listed.setIfInBounds i true) env w') : WD P n ops Q S L (fuel + 1) listed env w := by
 intro a ha
 refine ⟨fun h0 => (by rw [hr] at h0; cases h0), fun k hk => ?_⟩
 rw [hr] at hk
 have : k = i := by simpa using hk
 subst this
 unfold wpOp
 simp only [hi]
 rw [znb (xO hg a ha)]
 refine .inl ?_
 obtain ⟨w', hrun, hR⟩ := hm
 unfold Oper.wp
 rw [hrun n a ha, Oper.upon_skip]
 exact ⟨fun hc _ => absurd (by simpa using hL) hc, h w' hR _ ha.put0⟩
theorem V.split (k k2 : Nat) {α : Type} {enc : α -> Value} {e eo : TypeId} {B bo : Nat} {rv : List Value} {rows : List (List α)} (hn : (zo H k, qm H k, (zo H k2).isNone) = (some (MatP enc e eo B bo rv rows), none, true)) (h : V P n Q ks pos env A ((k2, RowsP enc e rv rows) :: hset H k (.own bo rv eo)) Bs) : V P n Q ks pos env A H Bs := by
 simp only [Prod.mk.injEq, Option.isNone_iff_eq_none] at hn
 obtain ⟨h1, h2, h3⟩ := hn
 intro hA w hI
 have hM : Mat enc e eo B w bo rv rows := hI.at k h1
 have hm := zm h1
 have hI2 := hI.set (e' := .own bo rv eo) h1 (Keep.refl _ _) hM.out trivial (fun _ h => h) fun q hq => ⟨.inl (.inl hq), by have hq : q = bo := hq; rw [hq]; exact hM.out.lt⟩
 have hkk : Nat.beq k k2 = false := by
  cases hb : Nat.beq k k2 with
  | true => rw [<- zn7 hb, h1] at h3; cases h3
  | false => rfl
 refine h ((hA.res h1 h2).new ?_) w (hI2.add k2 hM.rows RowsP.loc (fun _ h => h) ?_)
 . rw [ju h1, hkk]; exact h3
 rintro q ⟨i, v, hv, hq⟩
 have hS : (MatP enc e eo B bo rv rows).S q := .inr ⟨i, v, hv, hq⟩
 refine ⟨hM.blk hv hq, fun p hp => (hI.base p hp).2 _ hm q hS, ?_⟩
 exact (qJ (e' := .own bo rv eo) (B := w.heap.size) h1 hI.apart (fun q hq => .inl (.inl hq)) hI.low).2 (fun x => ¬ x.2.S q /\ ¬ x.2.fz q) ⟨fun hh => (hM.far i v q hv hq).2 hh, fun h => h⟩ fun x hx hap => ⟨fun hs => hap q hs hS, fun hf => hI.froz x hx _ hm q hf hS⟩
theorem zmk (is k j : Nat) {ts : TypeId} {x y : Operand} {b o : Nat} {cs : List Value} {e : TypeId} (hss : ∀ w, (sizeOf ts).run P w = .ok 1 w) (hi : ops[is]? = some ⟨none, .store ts x y, ty, ps, aft, g⟩) (hr : Region.ready .any ops listed = [is])
  (hn : (gd ops env g, zo H k, ev env x, ev env y, L.contains is) = (some true, some (.own b cs e), some (.pointer (some ⟨b, o, none⟩)), some v, true)) (h1 : Go.GL.one v = true) (hj : o = j) (hl : j < cs.length)
  (h : VDx P n Q ks ops (VI B0 Hs) L fuel (listed.setIfInBounds is true) env A (hset H k (.own b (cs.set j v) e)) Bs) : VD P n Q ks ops Hs B0 L (fuel + 1) listed env A H Bs := by
 simp only [Prod.mk.injEq] at hn
 subst hj
 obtain ⟨h2, h3, h4, h5, h6⟩ := hn
 intro hH hA w hI
 have hB : Blk w b cs e := hI.at k h3
 obtain ⟨c1, c2⟩ := jw h1
 refine zmj is hi hr h2 h6 (M.store hss h4 h5 c1 c2 hB hl) ?_
 rintro w2 ⟨_, hB2, hk2⟩
 exact h (hA.set h3) w2 (hI.set h3 hk2 hB2 trivial (fun _ h => h) fun q hq => ⟨.inl hq, by have hq : q = b := hq; rw [hq]; exact hB2.lt⟩)
theorem VI.row {e : TypeId} {kk m b : Nat} {zs : List Value} {w w' : World} (k : Nat) (hI : VI Bs H w) (hm : m <= 9223372036854775807) (hl : zs.length = m * kk) (hN : New w zs e b w') : VI Bs ((k, .row e kk (.slice (some ⟨b, 0, none⟩) m m) m zs) :: H) w' := by
 obtain ⟨h1, h2, h3, h4⟩ := hN
 refine hI.new h4 k ?_ trivial (fun _ h => h) (fun q hq => ?_)
 ·
  have := yv (k := kk) (n := m) (cap := m) h3 (zno _) hm hl
  rw [<- hl, zn5] at this
  exact this
 ·
  have hq : some b = some q := hq
  cases hq
  omega
theorem VD.make (i k j : Nat) {t e : TypeId} {kk by' m : Nat} {z : Value} {x y : Operand} {kl kc : IntKind} {zs : List Value} (hu : P.underlying t = some (.slice e)) (he : (P.info? e).map (fun i => (i.zero, i.size, i.bytes)) = some (some z, kk, by'))
  (hi : ops[i]? = some ⟨some d, .makeSlice t x y, ty, ps, aft, g⟩) (hr : Region.ready .any ops listed = [i]) (hn : (Nat.blt d n, gd ops env g, (zo H k).isNone, ev env x, ev env y, qr (Hs.map (·.1))) = (true, some true, true, some (.int kl (m : Int)), some (.int kc (m : Int)), true)) (hB : Bs.drop j = B0)
  (hb : by' * m <= 281474976710656) (hm : m <= 9223372036854775807) (hz : madeCells z.cells (m * kk) = zs.toArray) (hl : zs.length = m * kk)
  (h : ∀ b, VD P n Q ks ops Hs B0 L fuel (listed.setIfInBounds i true) ((d, .slice (some ⟨b, 0, none⟩) m m) :: env) ((d, none) :: A) ((k, .row e kk (.slice (some ⟨b, 0, none⟩) m m) m zs) :: H) Bs) : VD P n Q ks ops Hs B0 L (fuel + 1) listed env A H Bs := by
 simp only [Prod.mk.injEq, Option.isNone_iff_eq_none] at hn
 subst hB
 obtain ⟨h1, h2, h3, h4, h5, h6⟩ := hn
 intro hH hA w hI
 refine zlY i hi hr h1 h2 (.inl (zkk hu he h4 h5 hb hm hz)) ?_
 rintro _ w1 ⟨b, rfl, hN⟩
 have hI1 := hI.row k hm hl hN
 have hH1 : Has Hs ((k, .row e kk (.slice (some ⟨b, 0, none⟩) m m) m zs) :: H) := hH.new h3
 exact ⟨(hI1.drop j).pick hH1 h6, h b hH1 (TgOk.none (hA.new h3)) w1 hI1⟩
theorem zml {f : FuncId} {x : Operand} {fs cs : List Value} {xs : Array Operand} {ts : Array TypeId} {vs : List Value} (hf : ∀ args w, (callFunc f args).run P w = .ok (.enter f args) w) (hn : (Nat.blt d n, gd ops env g, qo env xs.toList, ev env x) = (true, some true, some vs, some (.func (.func f) fs.toArray cs.toArray)))
  (hc : ∀ w, VI Bs H w -> Calls P f (fs ++ vs ++ cs).toArray w (Ret fun r w' => r = v /\ Ext w w')) (h : V P n Q ks (.o ops rest) ((d, v) :: env) ((d, none) :: A) H Bs) : V P n Q ks (.o ops (⟨some d, .call ⟨.value x, xs, ts⟩, ty, ps, aft, g⟩ :: rest)) env A H Bs := by
 refine fun hA w hI => zkc hn hf (hc w hI) ?_
 rintro _ w' ⟨rfl, hk⟩
 exact h hA.none w' (hI.ext hk)
end
open Go.RowKit
def zd0 (k : Nat) : List Nat -> Bool
 | [] => false
 | j :: r => cond (Nat.beq j k) true (zd0 k r)
def yw (ks : List Nat) : Hp -> Hp
 | [] => []
 | x :: r => cond (zd0 x.1 ks) (yw ks r) (x :: yw ks r)
theorem yj {ks : List Nat} : ∀ {H : Hp} {x : Nat × HE}, x ∈ yw ks H -> x ∈ H /\ zd0 x.1 ks = false
 | y :: r, x, h => by
  simp only [yw] at h
  cases hb : zd0 y.1 ks with
  | true =>
   rw [hb] at h
   have h : x ∈ yw ks r := h
   exact ⟨zn3 _ (yj h).1, (yj h).2⟩
  | false =>
   rw [hb] at h
   rcases zng.1 h with rfl | h
   . exact ⟨zn4 .., hb⟩
   . exact ⟨zn3 _ (yj h).1, (yj h).2⟩
theorem hdels_sub {ks : List Nat} : ∀ {H : Hp}, (yw ks H).Sublist H
 | [] => List.Sublist.refl _
 | y :: r => by
  simp only [yw]
  cases zd0 y.1 ks with
  | true => exact hdels_sub.trans (List.sublist_cons_self ..)
  | false => exact hdels_sub.cons_cons _
theorem zgo {H : Hp} (h : H.Pairwise (fun x y => ∀ q, x.2.S q -> ¬ y.2.S q)) : ∀ x ∈ H, ∀ y ∈ H, x ≠ y -> ∀ q, x.2.S q -> ¬ y.2.S q := by
 induction H with
 | nil => intro x hx; cases hx
 | cons z r ih =>
  rw [List.pairwise_cons] at h
  intro x hx y hy hne q hq hs
  rcases zng.1 hx with h1 | h1
  ·
   rcases zng.1 hy with h2 | h2
   . exact hne (h1.trans h2.symm)
   . subst h1; exact h.1 y h2 q hq hs
  ·
   rcases zng.1 hy with h2 | h2
   . subst h2; exact h.1 x h1 q hs hq
   . exact ih h.2 x h1 y h2 hne q hq hs
def InS (H : Hp) (ks : List Nat) (q : Nat) : Prop := ∃ y ∈ H, zd0 y.1 ks = true /\ y.2.S q
structure Hands (H : Hp) (ks : List Nat) (Hn : Hp) (w w' : World) : Prop where
 keep : Keep (InS H ks) w w'
 ok : ∀ x ∈ Hn, x.2.holds w' /\ x.2.loc /\ (∀ b, ¬ x.2.fz b) /\ ∀ q, x.2.S q -> (InS H ks q \/ w.heap.size <= q) /\ q < w'.heap.size
 apart : Hn.Pairwise (fun x y => ∀ q, x.2.S q -> ¬ y.2.S q)
theorem VI.hands {Bs : yc} {H Hn : Hp} {ks : List Nat} {w w' : World} (h : VI Bs H w) (hh : Hands H ks Hn w w') : VI Bs (Hn ++ yw ks H) w' := by
 have hrest : ∀ x ∈ yw ks H, ∀ q, InS H ks q -> ¬ x.2.S q := by
  rintro x hx q ⟨y, hy, hk, hq⟩ hs
  obtain ⟨h1, h2⟩ := yj hx
  exact zgo h.apart x h1 y hy (fun e => by rw [e, hk] at h2; cases h2) q hs hq
 have hfz : ∀ x ∈ yw ks H, ∀ b, x.2.fz b -> ¬ InS H ks b := by
  rintro x hx b hb ⟨y, hy, hk, hq⟩
  exact h.froz x (yj hx).1 y hy b hb hq
 have hlo : ∀ x ∈ yw ks H, ∀ q, x.2.S q -> q < w.heap.size := fun x hx q hq => h.low x (yj hx).1 q hq
 have hnew : ∀ x ∈ yw ks H, ∀ y ∈ Hn, ∀ q, y.2.S q -> ¬ x.2.S q := fun x hx y hy q hq hs => by
  rcases ((hh.ok y hy).2.2.2 q hq).1 with h1 | h1
  . exact hrest x hx q h1 hs
  . have := hlo x hx q hs; omega
 refine ⟨?_, ?_, ?_, ?_, ?_, ?_⟩
 ·
  intro x hx
  rcases znj.1 hx with hx | hx
  . exact (hh.ok x hx).1
  ·
   have h1 := (yj hx).1
   exact HE.keep (e := x.2) (h.holds x h1) (h.loc x h1) hh.keep (fun q hq hi => hrest x hx q hi hq) (hfz x hx)
 ·
  intro x hx
  rcases znj.1 hx with hx | hx
  . exact (hh.ok x hx).2.1
  . exact h.loc x (yj hx).1
 . exact List.pairwise_append.2 ⟨hh.apart, h.apart.sublist hdels_sub, fun x hx y hy q hq => hnew y hy x hx q hq⟩
 ·
  intro x hx y hy b hb hs
  rcases znj.1 hx with hx | hx
  . exact (hh.ok x hx).2.2.1 b hb
  ·
   rcases znj.1 hy with hy | hy
   ·
    rcases ((hh.ok y hy).2.2.2 b hs).1 with h1 | h1
    . exact hfz x hx b hb h1
    . have := zlB (h.holds x (yj hx).1) hb; omega
   . exact h.froz x (yj hx).1 y (yj hy).1 b hb hs
 ·
  intro x hx q hq
  rcases znj.1 hx with hx | hx
  . exact ((hh.ok x hx).2.2.2 q hq).2
  . exact Nat.lt_of_lt_of_le (hlo x hx q hq) hh.keep.size
 ·
  intro p hp
  obtain ⟨h1, h2⟩ := h.base p hp
  refine ⟨h1.trans hh.keep fun q hq hi => ?_, fun x hx q hq => ?_⟩
  ·
   obtain ⟨y, hy, _, hs⟩ := hi
   exact (h2 y hy q hs).resolve_right (by omega)
  ·
   rcases znj.1 hx with hx | hx
   ·
    rcases ((hh.ok x hx).2.2.2 q hq).1 with ⟨y, hy, _, hs⟩ | h3
    . exact h2 y hy q hs
    . exact .inr (zn6 h1.size h3)
   . exact h2 x (yj hx).1 q hq
theorem VI.lent {H : Hp} {w : World} (hh : ∀ x ∈ H, x.2.holds w /\ x.2.loc /\ (∀ b, ¬ x.2.fz b) /\ ∀ q, x.2.S q -> q < w.heap.size) (hap : H.Pairwise (fun x y => ∀ q, x.2.S q -> ¬ y.2.S q)) : VI [(w, HS H)] H w :=
 ⟨fun x hx => (hh x hx).1, fun x hx => (hh x hx).2.1, hap, fun x hx _ _ b hb _ => (hh x hx).2.2.1 b hb, fun x hx => (hh x hx).2.2.2, fun p hp => by
  rw [zni] at hp
  subst hp
  exact ⟨Keep.refl _ _, fun x hx q hq => .inl ⟨x, hx, hq⟩⟩⟩
section
variable {P : Program} {n : Nat} {Q : Exit -> Act -> World -> Prop} {ks : List Fr} {pos : Pos} {env : Env} {A : Tgs} {H : Hp} {Bs : yc} {ops : Array Oper} {rest : List Oper} {v : Value}
variable {d : Nat} {ty : TypeId} {ps : String} {aft : Array Edge} {g : Option (Nat × Bool)}
theorem zmm {w : World} (H : Hp) (hh : ∀ x ∈ H, x.2.holds w /\ x.2.loc /\ (∀ b, ¬ x.2.fz b) /\ ∀ q, x.2.S q -> q < w.heap.size) (hap : H.Pairwise (fun x y => ∀ q, x.2.S q -> ¬ y.2.S q)) (h : V P n Q ks pos env [] H [(w, HS H)]) : G P n Q ks pos env w := h TgOk.nil w (VI.lent hh hap)
theorem zmn (kk : List Nat) {f : FuncId} {xs : Array Operand} {ts : Array TypeId} {vs : List Value} {α : Type} {Hn : α -> Hp} {Φ : Value -> α -> Prop} (A1 : Tgs) (hf : ∀ args w, (callFunc f args).run P w = .ok (.enter f args) w) (hn : (Nat.blt d n, gd ops env g, qo env xs.toList) = (true, some true, some vs))
  (hA1 : ∀ r x, A1.map (fun p => zd2 ((d, r) :: env) p.1) = A1.map (fun p => jv (Hn x ++ yw kk H) p.2)) (hA2 : ∀ x, A1.all (fun p => (jv (Hn x ++ yw kk H) p.2).isSome) = true)
  (hc : ∀ w, VI Bs H w -> Calls P f vs.toArray w (Ret fun r w' => ∃ x, Φ r x /\ Hands H kk (Hn x) w w'))
  (h : ∀ r x, Φ r x -> V P n Q ks (.o ops rest) ((d, r) :: env) A1 (Hn x ++ yw kk H) Bs) : V P n Q ks (.o ops (⟨some d, .call ⟨.value (.func f), xs, ts⟩, ty, ps, aft, g⟩ :: rest)) env A H Bs := by
 refine fun hA w hI => G.call hn hf (hc w hI) ?_
 rintro r w' ⟨x, hP, hh⟩
 exact h r x hP (zl1 (hA1 r x) (hA2 x)) w' (hI.hands hh)
theorem zmo {Hs : Hp} {B0 : yc} {L : List Nat} {fuel : Nat} {listed : Array Bool} {op : Array Oper} (i j : Nat) (kk : List Nat) {f : FuncId} {xs : Array Operand} {ts : Array TypeId} {vs : List Value} {α : Type} {Hn : α -> Hp} {Φ : Value -> α -> Prop} (A1 : Tgs) (hf : ∀ args w, (callFunc f args).run P w = .ok (.enter f args) w) (hi : op[i]? = some ⟨some d, .call ⟨.value (.func f), xs, ts⟩, ty, ps, aft, g⟩) (hr : Region.ready .any op listed = [i]) (hn : (Nat.blt d n, gd op env g, qo env xs.toList, qr (Hs.map (·.1))) = (true, some true, some vs, true)) (hB : Bs.drop j = B0)
  (hHs : ∀ x, Hs.map (fun y => zo (Hn x ++ yw kk H) y.1) = Hs.map (fun y => some y.2))
  (hA1 : ∀ r x, A1.map (fun p => zd2 ((d, r) :: env) p.1) = A1.map (fun p => jv (Hn x ++ yw kk H) p.2)) (hA2 : ∀ x, A1.all (fun p => (jv (Hn x ++ yw kk H) p.2).isSome) = true)
  (hc : ∀ w, VI Bs H w -> Calls P f vs.toArray w (Ret fun r w' => ∃ x, Φ r x /\ Hands H kk (Hn x) w w'))
  (h : ∀ r x, Φ r x -> VD P n Q ks op Hs B0 L fuel (listed.setIfInBounds i true) ((d, r) :: env) A1 (Hn x ++ yw kk H) Bs) : VD P n Q ks op Hs B0 L (fuel + 1) listed env A H Bs := by
 simp only [Prod.mk.injEq] at hn
 subst hB
 intro hH hA w hI
 refine zlY i hi hr hn.1 hn.2.1 (.inr ⟨f, _, F.call hf (yh hn.2.2.1), hc w hI⟩) ?_
 rintro r w' ⟨x, hP, hh⟩
 have hI' := hI.hands hh
 exact ⟨(hI'.drop j).pick (zl0 (hHs x)) hn.2.2.2, h r x hP (zl0 (hHs x)) (zl1 (hA1 r x) (hA2 x)) w' hI'⟩
end
theorem VI.k4 {Bs : yc} {H : Hp} {w : World} {p0 p1 p2 p3 p4 : World × (Nat -> Prop)} (h : VI (p0 :: p1 :: p2 :: p3 :: p4 :: Bs) H w) : Keep p4.2 p4.1 w := (h.base p4 (by simp)).1
theorem VI.k5 {Bs : yc} {H : Hp} {w : World} {p0 p1 p2 p3 p4 p5 : World × (Nat -> Prop)} (h : VI (p0 :: p1 :: p2 :: p3 :: p4 :: p5 :: Bs) H w) : Keep p5.2 p5.1 w := (h.base p5 (by simp)).1
theorem VI.k6 {Bs : yc} {H : Hp} {w : World} {p0 p1 p2 p3 p4 p5 p6 : World × (Nat -> Prop)} (h : VI (p0 :: p1 :: p2 :: p3 :: p4 :: p5 :: p6 :: Bs) H w) : Keep p6.2 p6.1 w := (h.base p6 (by simp)).1
theorem VI.k7 {Bs : yc} {H : Hp} {w : World} {p0 p1 p2 p3 p4 p5 p6 p7 : World × (Nat -> Prop)} (h : VI (p0 :: p1 :: p2 :: p3 :: p4 :: p5 :: p6 :: p7 :: Bs) H w) : Keep p7.2 p7.1 w := (h.base p7 (by simp)).1
theorem VI.k8 {Bs : yc} {H : Hp} {w : World} {p0 p1 p2 p3 p4 p5 p6 p7 p8 : World × (Nat -> Prop)} (h : VI (p0 :: p1 :: p2 :: p3 :: p4 :: p5 :: p6 :: p7 :: p8 :: Bs) H w) : Keep p8.2 p8.1 w := (h.base p8 (by simp)).1
theorem VI.k9 {Bs : yc} {H : Hp} {w : World} {p0 p1 p2 p3 p4 p5 p6 p7 p8 p9 : World × (Nat -> Prop)} (h : VI (p0 :: p1 :: p2 :: p3 :: p4 :: p5 :: p6 :: p7 :: p8 :: p9 :: Bs) H w) : Keep p9.2 p9.1 w := (h.base p9 (by simp)).1
theorem SlR.atD {α : Type} {k : Nat} {R : Rel α} {D : Nat -> Prop} {w : World} {ao : Option Addr} {n cap : Nat} {l : List α} (h : SlR k R D w (.slice ao n cap) l) {i : Nat} {x : α} (hx : l[i]? = some x) : ∃ b o cs, ao = some ⟨b, o, none⟩ /\ D b /\ Cells w b (o + i * k) cs /\ R D w x cs := by
 obtain ⟨ao', cap', h1, h2, h3, h4⟩ := h
 cases h1
 obtain ⟨b, o, cs, h5, h6, _, h8, h9⟩ := h4 i x hx
 exact ⟨b, o, cs, h5, h6, h8, h9⟩
theorem zmp {P : Program} {env : Env} {w : World} {dst : Option Tmp} {ty : TypeId} {pos : String} {aft : Array Edge} {g : Option (Nat × Bool)} {t e : TypeId} {x y : Operand} {cs : List Value} {len : Nat} {kd : IntKind} {i : Int} {v : Value} (hu : ∀ w, (underlying t).run P w = .ok (.array len e) w) (hs : ∀ w, (sizeOf e).run P w = .ok 1 w) (hag : ∀ w, (isAgg e).run P w = .ok false w) (hx : ev env x = some (.agg cs.toArray)) (hy : ev env y = some (.int kd i)) (h0 : 0 <= i /\ i < len) (hv : cs[i.toNat]? = some v) :
  yo P ⟨dst, .index t x y, ty, pos, aft, g⟩ env w v w := by
 intro n a ha
 simp [execOp, ha.eval hx, ha.eval hy, Instr.index, asIntOf, hu, hs, h0, part, hag, hv]
open Go.RowKit
def Wr (p : TypeId -> Bool) (W0 : Nat) (w : World) (k : Nat) : Prop := W0 <= k /\ ∀ cs e, Blk w k cs e -> p e = true
abbrev KT (p : TypeId -> Bool) (W0 : Nat) (w w' : World) : Prop := Keep (Wr p W0 w) w w'
section
variable {p : TypeId -> Bool} {W0 : Nat} {w w' w'' : World}
theorem Blk.ty {b : Nat} {cs cs' : List Value} {e e' : TypeId} (h : Blk w b cs e) (h' : Blk w b cs' e') : e = e' /\ cs = cs' := by
 unfold Blk at h h'
 rw [h] at h'
 injection h' with h'
 injection h' with h1 h2
 exact ⟨h2, List.toArray_inj h1⟩
theorem Blk.ne {a b : Nat} {cs cs' : List Value} {e e' : TypeId} (h : Blk w a cs e) (h' : Blk w b cs' e') (hne : e ≠ e') : a ≠ b := by
 rintro rfl
 exact hne (h.ty h').1
theorem Wr.mk {k : Nat} {cs : List Value} {e : TypeId} (hW : W0 <= k) (hb : Blk w k cs e) (hp : p e = true) : Wr p W0 w k := ⟨hW, fun cs' e' h => by rw [<- (hb.ty h).1]; exact hp⟩
theorem KT.refl : KT p W0 w w := Keep.refl _ _
theorem KT.trans (h : KT p W0 w w') (h' : KT p W0 w' w'') : KT p W0 w w'' := by
 refine Keep.trans h h' (fun k hk hT => ?_)
 by_cases hS : Wr p W0 w k
 . exact hS
 ·
  exfalso
  apply hS
  refine ⟨hT.1, fun cs e h2 => hT.2 cs e ?_⟩
  unfold Blk at h2 ⊢
  rw [h.block k hk hS]; exact h2
theorem zag {e : TypeId} {k : Nat} {v : Value} {n : Nat} {xs : List Value} (h : w.ownsRow 0 e k v n xs) {g : Nat} (hg : v.ownBlock = some g) : ∃ cs, Blk w g cs e := by
 rcases h.2 with ⟨rfl, _⟩ | ⟨g', cap, cur, rfl, _, h2, _⟩
 . simp [Value.ownBlock] at hg
 ·
  simp [Value.ownBlock] at hg
  subst hg
  exact ⟨cur.toList, by unfold Blk; simpa using h2⟩
theorem KT.row {e : TypeId} {k : Nat} {v : Value} {n : Nat} {xs : List Value} (ho : w.ownsRow 0 e k v n xs) (hp : p e = true) (hW : ∀ g, v.ownBlock = some g -> W0 <= g) (h : Keep (fun k => v.ownBlock = some k) w w') : KT p W0 w w' :=
 h.mono (fun g _ hg => by obtain ⟨cs, hb⟩ := zag ho hg; exact Wr.mk (hW g hg) hb hp)
theorem KT.new {S : Nat -> Prop} (h : KT p W0 w w') (h' : Keep S w' w'') (hS : ∀ k, S k -> w.heap.size <= k) : KT p W0 w w'' :=
 Keep.trans h h' (fun k hk hT => absurd (hS k hT) (by omega))
theorem KT.mono {q : TypeId -> Bool} {W1 : Nat} (h : KT p W0 w w') (hq : ∀ e, p e = true -> q e = true) (hW : W1 <= W0) : KT q W1 w w' :=
 Keep.mono h (fun k _ ⟨h1, h2⟩ => ⟨by omega, fun cs e hb => hq e (h2 cs e hb)⟩)
theorem KT.fresh (h : KT p W0 w w') (hW : w.heap.size <= W0) : Ext w w' := Keep.mono h (fun k hk ⟨h1, _⟩ => by omega)
theorem KT.blk (h : KT p W0 w w') {b : Nat} {cs : List Value} {e : TypeId} (hb : Blk w b cs e) (hp : p e = false) : Blk w' b cs e :=
 Keep.blk h hb (fun ⟨_, h2⟩ => by have := h2 _ _ hb; rw [hp] at this; cases this)
theorem KT.own (h : KT p W0 w w') {e : TypeId} {k : Nat} {v : Value} {n : Nat} {xs : List Value} (ho : w.ownsRow 0 e k v n xs) (hp : p e = false) : w'.ownsRow 0 e k v n xs :=
 zR ho h (fun g hg ⟨_, h2⟩ => by obtain ⟨cs, hb⟩ := zag ho hg; have := h2 _ _ hb; rw [hp] at this; cases this)
theorem KT.sl (h : KT p W0 w w') {α : Type} {k : Nat} {R : Rel α} (hs : zX R) {D : Nat -> Prop} {v : Value} {l : List α} (hl : SlR k R D w v l) (hD : ∀ q, D q -> q < W0) : SlR k R D w' v l :=
 hl.keep hs h (fun q hq _ ⟨h1, _⟩ => by have := hD q hq; omega)
abbrev Above (B : Nat) (w w' : World) : Prop := Keep (fun k => B <= k) w w'
theorem Above.then {B : Nat} (h : Above B w w') (h' : Above B w' w'') : Above B w w'' := Keep.trans h h' (fun _ _ h => h)
theorem Above.sl {B : Nat} (h : Above B w w') {α : Type} {k : Nat} {R : Rel α} (hs : zX R) {D : Nat -> Prop} {v : Value} {l : List α} (hl : SlR k R D w v l) (hD : ∀ q, D q -> q < B) : SlR k R D w' v l :=
 hl.keep hs h (fun q hq _ (h1 : B <= q) => by have := hD q hq; omega)
theorem zmq {B : Nat} (h : Above B w w') (hB : w.heap.size <= B) : Ext w w' := Keep.mono h (fun k hk (h1 : B <= k) => by omega)
end
open Go.RowKit
def OwnR {α : Type} (e : TypeId) (k : Nat) (R : Rel α) (D : Nat -> Prop) (w : World) (v : Value) (l : List α) : Prop :=
 ∃ xs : List Value, w.ownsRow 0 e k v l.length xs /\ ∀ (i : Nat) x, l[i]? = some x -> R D w x ((xs.drop (i * k)).take k)
section
variable {α : Type} {e : TypeId} {k : Nat} {R : Rel α} {D : Nat -> Prop} {w w' : World} {v : Value} {l : List α}
theorem OwnR.nil : OwnR e k R D w (.slice none 0 0) ([] : List α) := ⟨[], za5 _ _ _, fun i x h => by simp at h⟩
theorem OwnR.keep {S : Nat -> Prop} (h : OwnR e k R D w v l) (hs : zX R) (hk : Keep S w w') (hD : ∀ q, D q -> q < w.heap.size -> ¬ S q) (hv : ∀ g, v.ownBlock = some g -> ¬ S g) : OwnR e k R D w' v l := by
 obtain ⟨xs, h1, h2⟩ := h
 exact ⟨xs, zR h1 hk hv, fun i x hx => hs D D w w' (fun _ h => h) (fun b hb hlt => hk.block b hlt (hD b hb hlt)) x _ (h2 i x hx)⟩
theorem OwnR.ext (h : OwnR e k R D w v l) (hs : zX R) (hk : Ext w w') : OwnR e k R D w' v l := h.keep hs hk (fun _ _ _ h => h) (fun _ _ h => h)
instance [h : StC R] : Tr (OwnR e k R D w v l) w w' (OwnR e k R D w' v l) := ⟨fun h' hk => h'.ext h.s hk⟩
theorem OwnR.lit {g : Nat} {cs : List Value} {x : α} (hb : Blk w g cs e) (hk : cs.length = k) (hx : R D w x cs) : OwnR e k R D w (.slice (some ⟨g, 0, none⟩) 1 1) [x] := by
 refine ⟨cs, ?_, fun i y hy => ?_⟩
 ·
  have := yv (k := k) (n := 1) (cap := 1) hb (zno _) (by decide) (by omega)
  rw [List.take_of_length_le (by omega)] at this
  exact this
 ·
  cases i with
  | zero => simp at hy; subst hy; rw [Nat.zero_mul, List.drop_zero, List.take_of_length_le (by omega)]; exact hx
  | succ i => simp at hy
theorem zmr (hR : ∀ x cs, R D w x cs -> ∀ u ∈ cs, u.oneCell' = true) {n : Nat} {xs : List Value} (h1 : w.ownsRow 0 e k v n xs) (hn : n = l.length) (h2 : ∀ (i : Nat) x, l[i]? = some x -> R D w x ((xs.drop (i * k)).take k)) : ∀ u ∈ xs, u.oneCell' = true := by
 intro u hu
 obtain ⟨q, hq⟩ := List.mem_iff_getElem?.1 hu
 have hql := (zne.1 hq).1
 have hxl := h1.1
 have hk : 0 < k := by
  rcases Nat.eq_zero_or_pos k with rfl | h
  . rw [Nat.mul_zero] at hxl; omega
  . exact h
 have hi : q / k < l.length := by rw [Nat.div_lt_iff_lt_mul hk, <- hn]; omega
 have hd : q / k * k + q % k = q := by rw [Nat.mul_comm]; exact Nat.div_add_mod q k
 have hm := Nat.mod_lt q hk
 refine hR _ _ (h2 (q / k) l[q / k] (zn0 hi)) u ?_
 refine List.mem_iff_getElem?.2 ⟨q % k, ?_⟩
 rw [znv, znb hm, List.getElem?_drop, hd]; exact hq
theorem OwnR.sl {D' : Nat -> Prop} (h : OwnR e k R D w v l) (hk : 0 < k) (hs : zX R) (hD : ∀ q, D q -> D' q) (hv : ∀ g, v.ownBlock = some g -> D' g) : SlR k R D' w v l := by
 obtain ⟨xs, h1, h2⟩ := h
 obtain ⟨ao, cap, rfl, hc, hm⟩ := js h1
 refine ⟨ao, cap, rfl, hc, hm, fun i x hx => ?_⟩
 have hi := (zne.1 hx).1
 have hxl := h1.1
 obtain ⟨a0, rfl⟩ : ∃ a0, ao = some a0 := by
  cases ao with
  | some a0 => exact ⟨a0, rfl⟩
  | none =>
   rcases h1.2 with ⟨_, h⟩ | ⟨g, cap, cur, h, _⟩
   . omega
   . cases h
 obtain ⟨e1, e2, hcl⟩ := jV h1
 obtain ⟨b0, o0, s0⟩ := a0
 simp only at e1 e2 hcl
 subst e1; subst e2
 have h5 : (i + 1) * k <= l.length * k := Nat.mul_le_mul_right _ hi
 rw [Nat.succ_mul] at h5
 refine ⟨b0, 0, _, rfl, hv b0 rfl, ?_, ?_, hs D D' w w hD (fun _ _ _ => rfl) x _ (h2 i x hx)⟩
 . rw [znt, List.length_drop]; omega
 ·
  intro j u hj
  rw [znv] at hj
  split at hj
  ·
   rw [List.getElem?_drop] at hj
   have := hcl _ _ hj
   rw [Nat.zero_add] at this ⊢
   exact this
  . cases hj
theorem OwnR.form (h : OwnR e k R D w v l) : ∃ ao c, v = .slice ao l.length c /\ l.length <= c /\ c <= 9223372036854775807 := by
 obtain ⟨xs, h1, _⟩ := h
 exact js h1
theorem OwnR.ty (h : OwnR e k R D w v l) {g : Nat} (hg : v.ownBlock = some g) : ∃ cs, Blk w g cs e := by
 obtain ⟨xs, h1, _⟩ := h
 exact zag h1 hg
end
section
variable {α : Type} {R : Rel α} {D : Nat -> Prop} {P : Program} {env : Env} {w : World} {dst : Option Tmp} {ty : TypeId} {pos : String} {aft : Array Edge} {g : Option (Nat × Bool)} {l l' : List α}
theorem zms {t e : TypeId} {k by' : Nat} {z : Value} {x y : Operand} {v vy : Value} (hu : P.underlying t = some (.slice e)) (he : (P.info? e).map (fun i => (i.zero, i.size, i.bytes)) = some (some z, k, by')) (hzs : z.cells.size = k) (hk : 0 < k)
  (hx : ev env x = some v) (hy : ev env y = some vy) (hs : zX R) (h1 : ∀ x cs, R D w x cs -> ∀ u ∈ cs, u.oneCell' = true) (hown : OwnR e k R D w v l) (hoy : OwnR e k R D w vy l') (hD : ∀ q, D q -> q < w.heap.size -> v.ownBlock ≠ some q) (hmax : l.length + l'.length <= 9223372036854775807) (hby : (l.length + l'.length) * by' <= 140737488355328) :
  yz P ⟨dst, .call ⟨.builtin .append, #[x, y], #[t, t]⟩, ty, pos, aft, g⟩ env w (fun u w' => OwnR e k R D w' u (l ++ l') /\ (u.ownBlock = v.ownBlock \/ ∃ g, u.ownBlock = some g /\ w.heap.size <= g) /\ Keep (fun k => v.ownBlock = some k) w w') := by
 obtain ⟨ys, q1, q2⟩ := hoy
 obtain ⟨xs, q3, q4⟩ := hown
 obtain ⟨u, w', hr, h5, h6, h7⟩ := zlA (g := g) (pos := pos) (aft := aft) (dst := dst) (ty := ty) hu he hzs hk hx hy q3 q1 (zmr h1 q1 rfl q2) hmax hby
 refine ⟨u, w', hr, ?_, h6, h7⟩
 refine ⟨xs ++ ys, by rw [zn8]; exact h5, ?_⟩
 have hst : ∀ x cs, R D w x cs -> R D w' x cs := fun x cs h => hs D D w w' (fun _ h => h) (fun b hb hlt => h7.block b hlt (hD b hb hlt)) x cs h
 intro i x hx
 have hxl := q3.1
 by_cases hi : i < l.length
 ·
  rw [znp hi] at hx
  have h5 : (i + 1) * k <= l.length * k := Nat.mul_le_mul_right _ hi
  rw [Nat.succ_mul] at h5
  rw [List.drop_append_of_le_length (by omega), List.take_append_of_le_length (by rw [List.length_drop]; omega)]
  exact hst _ _ (q4 i x hx)
 ·
  rw [znq (by omega)] at hx
  have h5 : l.length * k <= i * k := Nat.mul_le_mul_right _ (by omega)
  rw [List.drop_append, List.drop_eq_nil_of_le (by omega), List.nil_append, hxl, <- Nat.sub_mul]
  exact hst _ _ (q2 _ x hx)
end
open Go.RowKit
section
variable {P : Program} {n : Nat} {Q : Exit -> Act -> World -> Prop} {ks : List Fr} {pos : Pos} {env : Env} {A : Tgs} {H : Hp} {Bs : yc} {ops : Array Oper} {rest : List Oper} {v : Value}
variable {d : Nat} {op : Op} {ty : TypeId} {ps : String} {aft : Array Edge} {g : Option (Nat × Bool)}
theorem zmt (k : Nat) {β : Type} {E : β -> HE} {u : β -> Value} (hn : (Nat.blt d n, gd ops env g, (zo H k).isNone) = (true, some true, true)) (hE : ∀ x, (E x).loc /\ ∀ b, ¬ (E x).fz b) (hm : ∀ w, VI Bs H w -> yz P ⟨some d, op, ty, ps, aft, g⟩ env w (fun r w' => ∃ x, r = u x /\ (E x).holds w' /\ Ext w w' /\ ∀ q, (E x).S q -> w.heap.size <= q /\ q < w'.heap.size))
  (h : ∀ x, V P n Q ks (.o ops rest) ((d, u x) :: env) ((d, none) :: A) ((k, E x) :: H) Bs) : V P n Q ks (.o ops (⟨some d, op, ty, ps, aft, g⟩ :: rest)) env A H Bs := by
 simp only [Prod.mk.injEq, Option.isNone_iff_eq_none] at hn
 refine fun hA w hI => zkf hn.1 hn.2.1 (hm w hI) ?_
 rintro _ w' ⟨x, rfl, hh, hk, hS⟩
 exact h x (TgOk.none (hA.new hn.2.2)) w' (hI.new hk k hh (hE x).1 (hE x).2 hS)
theorem V.upd (k : Nat) {e e' : HE} (hn : (gd ops env g, zo H k, qm H k) = (some true, some e, none)) (hl : e'.loc) (hz : ∀ b, ¬ e'.fz b) (hm : ∀ w, VI Bs H w -> qT P ⟨none, op, ty, ps, aft, g⟩ env w (fun w' => e'.holds w' /\ Keep e.S w w' /\ ∀ q, e'.S q -> (e.S q \/ w.heap.size <= q) /\ q < w'.heap.size))
  (h : V P n Q ks (.o ops rest) env A (hset H k e') Bs) : V P n Q ks (.o ops (⟨none, op, ty, ps, aft, g⟩ :: rest)) env A H Bs := by
 simp only [Prod.mk.injEq] at hn
 refine fun hA w hI => zki hn.1 (hm w hI) ?_
 rintro w' ⟨hh, hk, hS⟩
 exact h (hA.res hn.2.1 hn.2.2) w' (hI.set hn.2.1 hk hh hl hz hS)
abbrev DaP {α : Type} (R : Rel α) (F : Nat -> Prop) (x : α) (cs : List Value) : HE := .res F (fun w => R F w x cs)
theorem DaP.loc {α : Type} {R : Rel α} [h : StC R] {F : Nat -> Prop} {x : α} {cs : List Value} : (DaP R F x cs).loc := fun w w' _ hx hk hT => h.s F F w w' (fun _ h => h) (fun b hb hlt => hk.block b hlt (hT b hlt hb)) x cs hx
def OwH {α : Type} (e : TypeId) (kk : Nat) (R : Rel α) (F : Nat -> Prop) (w : World) (v : Value) (l : List α) : Prop := OwnR e kk R F w v l /\ ∀ q, F q -> q < w.heap.size /\ v.ownBlock ≠ some q
abbrev OwP {α : Type} (e : TypeId) (kk : Nat) (R : Rel α) (F : Nat -> Prop) (v : Value) (l : List α) : HE := .res (fun q => v.ownBlock = some q \/ F q) (fun w => OwH e kk R F w v l)
section
variable {α : Type} {R : Rel α} [hs : StC R] {e : TypeId} {kk : Nat} {F G : Nat -> Prop} {l : List α} {w w' : World}
theorem OwP.loc : (OwP e kk R F v l).loc := fun w w' T h hk hT =>
 ⟨h.1.keep hs.s hk (fun q hq hlt => hT q hlt (.inr hq)) (fun g hg => by
  obtain ⟨xs, h1, _⟩ := h.1
  exact hT g (xj h1 hg) (.inl hg)), fun q hq => ⟨Nat.lt_of_lt_of_le (h.2 q hq).1 hk.size, (h.2 q hq).2⟩⟩
omit hs in
theorem OwH.nil : OwH e kk R (fun _ => False) w (.slice none 0 0) ([] : List α) := ⟨OwnR.nil, fun _ h => h.elim⟩
omit hs in
theorem OwH.form (h : OwH e kk R F w v l) : ∃ ao c, v = .slice ao l.length c /\ l.length <= c /\ c <= 9223372036854775807 := h.1.form
theorem OwH.sl {D' : Nat -> Prop} (h : OwH e kk R F w v l) (hk : 0 < kk) (hD : ∀ q, v.ownBlock = some q \/ F q -> D' q) : SlR kk R D' w v l := h.1.sl hk hs.s (fun q hq => hD q (.inr hq)) (fun q hq => hD q (.inl hq))
theorem OwnR.wide {F' : Nat -> Prop} (h : OwnR e kk R F w v l) (hF : ∀ q, F q -> F' q) : OwnR e kk R F' w v l := by
 obtain ⟨xs, h1, h2⟩ := h
 exact ⟨xs, h1, fun i x hx => hs.s F F' w w hF (fun _ _ _ => rfl) x _ (h2 i x hx)⟩
theorem zmv (kks : List Nat) {β : Type} {Hn : β -> Hp} {u : β -> Value} (A1 : Tgs) {ks : List Fr} (hn : (Nat.blt d n, gd ops env g) = (true, some true))
  (hA1 : ∀ x, A1.map (fun p => zd2 ((d, u x) :: env) p.1) = A1.map (fun p => jv (Hn x ++ yw kks H) p.2)) (hA2 : ∀ x, A1.all (fun p => (jv (Hn x ++ yw kks H) p.2).isSome) = true)
  (hm : ∀ w, VI Bs H w -> yz P ⟨some d, op, ty, ps, aft, g⟩ env w (fun r w' => ∃ x, r = u x /\ Hands H kks (Hn x) w w'))
  (h : ∀ x, V P n Q ks (.o ops rest) ((d, u x) :: env) A1 (Hn x ++ yw kks H) Bs) : V P n Q ks (.o ops (⟨some d, op, ty, ps, aft, g⟩ :: rest)) env A H Bs := by
 simp only [Prod.mk.injEq] at hn
 refine fun hA w hI => zkf hn.1 hn.2 (hm w hI) ?_
 rintro _ w' ⟨x, rfl, hh⟩
 exact h x (zl1 (hA1 x) (hA2 x)) w' (hI.hands hh)
theorem zmx {α : Type} {R : Rel α} [hs : StC R] {e : TypeId} {kk : Nat} {F G : Nat -> Prop} {l : List α} {w : World} (k k2 kb : Nat) {t : TypeId} {by' : Nat} {z : Value} {x y : Operand} {a : α} {b : Nat} {cs : List Value} (hI : VI Bs H w) (h1 : zo H k = some (OwP e kk R F v l)) (h2 : zo H k2 = some (DaP R G a cs)) (h3 : zo H kb = some (.own b cs e)) (hne : Nat.beq k k2 = false)
  (hu : P.underlying t = some (.slice e)) (he : (P.info? e).map (fun i => (i.zero, i.size, i.bytes)) = some (some z, kk, by')) (hzs : z.cells.size = kk) (hk : 0 < kk) (hx : ev env x = some v) (hy : ev env y = some (.slice (some ⟨b, 0, none⟩) 1 1)) (hl : cs.length = kk) (ho : ∀ (D : Nat -> Prop) x cs, R D w x cs -> ∀ u ∈ cs, u.oneCell' = true) (hmax : l.length + 1 <= 9223372036854775807) (hby : (l.length + 1) * by' <= 140737488355328) :
  yz P ⟨some d, .call ⟨.builtin .append, #[x, y], #[t, t]⟩, ty, ps, aft, g⟩ env w (fun r w' => ∃ u, r = u /\ Hands H [k, k2] [(k, OwP e kk R (fun q => F q \/ G q) u (l ++ [a]))] w w') := by
 have g1 : OwH e kk R F w v l := hI.at k h1
 have g2 : R G w a cs := hI.at k2 h2
 have g3 : Blk w b cs e := hI.at kb h3
 have hap := zB hI.apart h1 h2 hne
 have hGl : ∀ q, G q -> q < w.heap.size := fun q hq => hI.low _ (zm h2) q hq
 have hlit : OwnR e kk R (fun q => F q \/ G q) w (.slice (some ⟨b, 0, none⟩) 1 1) [a] := OwnR.lit g3 hl (hs.s G _ w w (fun _ h => .inr h) (fun _ _ _ => rfl) a cs g2)
 have hw : OwnR e kk R (fun q => F q \/ G q) w v l := g1.1.wide (fun _ h => .inl h)
 have hD : ∀ q, (F q \/ G q) -> v.ownBlock ≠ some q := fun q hq h => hq.elim (fun hF => (g1.2 q hF).2 h) (fun hG => hap q (.inl h) hG)
 obtain ⟨u, w', hr, h5, h6, h7⟩ := zms (dst := some d) (ty := ty) (pos := ps) (aft := aft) (g := g) hu he hzs hk hx hy hs.s (ho _) hw hlit (fun q hq _ => hD q hq) hmax hby
 refine ⟨u, w', hr, u, rfl, ?_⟩
 have i1 : ∀ q, (v.ownBlock = some q \/ F q) -> InS H [k, k2] q := fun q hq => ⟨_, zm h1, by simp [zd0, Nat.beq_refl], hq⟩
 have i2 : ∀ q, G q -> InS H [k, k2] q := fun q hq => ⟨_, zm h2, by simp only [zd0]; rw [hne]; simp [Nat.beq_refl], hq⟩
 have hlo : ∀ q, (F q \/ G q) -> q < w.heap.size := fun q hq => hq.elim (fun hF => (g1.2 q hF).1) (hGl q)
 have hou : ∀ q, u.ownBlock = some q -> (v.ownBlock = some q \/ w.heap.size <= q) /\ q < w'.heap.size := fun q hq => by
  obtain ⟨xs, hx, _⟩ := h5
  refine ⟨?_, xj hx hq⟩
  rcases h6 with h6 | ⟨g', h6, hg'⟩
  . exact .inl (h6 ▸ hq)
  . rw [h6] at hq; cases hq; exact .inr hg'
 refine ⟨h7.mono fun q _ hq => i1 q (.inl hq), fun x hx => ?_, List.pairwise_singleton _ _⟩
 rw [zni] at hx
 subst hx
 refine ⟨⟨h5, fun q hq => ⟨Nat.lt_of_lt_of_le (hlo q hq) h7.size, fun h => ?_⟩⟩, OwP.loc, fun _ h => h, fun q hq => ?_⟩
 ·
  rcases (hou q h).1 with h8 | h8
  . exact hD q hq h8
  . have := hlo q hq; omega
 ·
  rcases hq with hq | hq | hq
  . exact ⟨(hou q hq).1.imp (fun h => i1 q (.inl h)) id, (hou q hq).2⟩
  . exact ⟨.inl (i1 q (.inr hq)), Nat.lt_of_lt_of_le (hlo q (.inl hq)) h7.size⟩
  . exact ⟨.inl (i2 q hq), Nat.lt_of_lt_of_le (hlo q (.inr hq)) h7.size⟩
end
end
end Go.GL
namespace Go.Proofs
open Go.GL
def Tryz.tab : Tab := [(31, .sl 3 1), (134, .st [0, 1, 2, 3, 4, 7, 8, 9]), (76, .sl 60 2), (37, .st [0, 1, 2, 3, 4]), (120, .st [0, 1, 2, 3, 4]), (132, .st [0, 1, 2]), (52, .sl 120 5), (56, .st [0, 1, 2]), (33, .st [0, 1]), (255, .st [0, 1]), (54, .sl 134 10), (130, .sl 132 3), (223, .st [0, 1, 2]), (262, .sl 255 2), (60, .st [0, 1]), (53, .sl 137 6), (180, .st [0, 3, 4, 5, 6]), (26, .st [0, 1, 2, 3]), (91, .st [0, 1, 2, 3, 4, 5, 6, 7, 8]), (137, .st [0, 1, 2, 3]), (23, .sl 56 3), (24, .sl 33 2), (160, .st [0, 1, 2]), (123, .st [0, 1, 2]), (219, .st [0, 1]), (65, .ar 2 1), (87, .sl 4 1), (184, .st [0, 1]), (9, .str), (27, .sl 35 3), (35, .st [0, 2]), (69, .st [0, 2]), (71, .st [0, 5, 6, 7, 9]), (84, .sl 91 9), (212, .ar 4 1), (41, .sl 31 1), (4, .bool), (242, .sl 89 1), (246, .sl 54 1), (182, .sl 5 1), (266, .ar 32 1), (267, .ar 64 1)]
theorem Tryz.tabOk : zl4 Tryz.prog Tryz.tab :=
 zl8 (show TI.ok _ 31 (.sl 3 1) from ⟨tR31, ts3⟩) <|
 zl8 (show TI.ok _ 134 (.st [0, 1, 2, 3, 4, 7, 8, 9]) from zla Tryz.runUnderlying134 ⟨⟨_, rfl, rfl, 0, Tryz.sizeOf128⟩, ⟨_, rfl, rfl, 0, ts3⟩, ⟨_, rfl, rfl, 0, ts3⟩, ⟨_, rfl, rfl, 0, ts3⟩, ⟨_, rfl, rfl, 2, ts132⟩, ⟨_, rfl, rfl, 0, ts54⟩, ⟨_, rfl, rfl, 0, ts54⟩, ⟨_, rfl, rfl, 0, ts31⟩, trivial⟩) <|
 zl8 (show TI.ok _ 76 (.sl 60 2) from ⟨tR76, ts60⟩) <|
 zl8 (show TI.ok _ 37 (.st [0, 1, 2, 3, 4]) from zla Tryz.runUnderlying37 ⟨⟨_, rfl, rfl, 0, Tryz.sizeOf22⟩, ⟨_, rfl, rfl, 0, ts3⟩, ⟨_, rfl, rfl, 0, ts3⟩, ⟨_, rfl, rfl, 0, ts31⟩, ⟨_, rfl, rfl, 0, Tryz.sizeOf24⟩, trivial⟩) <|
 zl8 (show TI.ok _ 120 (.st [0, 1, 2, 3, 4]) from zla Tryz.runUnderlying120 ⟨⟨_, rfl, rfl, 0, ts9⟩, ⟨_, rfl, rfl, 0, ts89⟩, ⟨_, rfl, rfl, 0, ts3⟩, ⟨_, rfl, rfl, 0, ts3⟩, ⟨_, rfl, rfl, 0, ts3⟩, trivial⟩) <|
 zl8 (show TI.ok _ 132 (.st [0, 1, 2]) from zla Tryz.runUnderlying132 ⟨⟨_, rfl, rfl, 0, Tryz.sizeOf129⟩, ⟨_, rfl, rfl, 0, ts3⟩, ⟨_, rfl, rfl, 0, Tryz.sizeOf130⟩, trivial⟩) <|
 zl8 (show TI.ok _ 52 (.sl 120 5) from ⟨tR52, ts120⟩) <|
 zl8 (show TI.ok _ 56 (.st [0, 1, 2]) from zla Tryz.runUnderlying56 ⟨⟨_, rfl, rfl, 0, Tryz.sizeOf52⟩, ⟨_, rfl, rfl, 0, Tryz.sizeOf53⟩, ⟨_, rfl, rfl, 0, ts54⟩, trivial⟩) <|
 zl8 (show TI.ok _ 33 (.st [0, 1]) from zla Tryz.runUnderlying33 ⟨⟨_, rfl, rfl, 0, ts3⟩, ⟨_, rfl, rfl, 0, ts31⟩, trivial⟩) <|
 zl8 (show TI.ok _ 255 (.st [0, 1]) from zla Tryz.runUnderlying255 ⟨⟨_, rfl, rfl, 0, ts3⟩, ⟨_, rfl, rfl, 0, ts3⟩, trivial⟩) <|
 zl8 (show TI.ok _ 54 (.sl 134 10) from ⟨tR54, ts134⟩) <|
 zl8 (show TI.ok _ 130 (.sl 132 3) from ⟨tR130, ts132⟩) <|
 zl8 (show TI.ok _ 223 (.st [0, 1, 2]) from zla Tryz.runUnderlying223 ⟨⟨_, rfl, rfl, 0, ts3⟩, ⟨_, rfl, rfl, 0, ts3⟩, ⟨_, rfl, rfl, 0, ts3⟩, trivial⟩) <|
 zl8 (show TI.ok _ 262 (.sl 255 2) from ⟨tR262, ts255⟩) <|
 zl8 (show TI.ok _ 60 (.st [0, 1]) from zla Tryz.runUnderlying60 ⟨⟨_, rfl, rfl, 0, ts31⟩, ⟨_, rfl, rfl, 0, ts3⟩, trivial⟩) <|
 zl8 (show TI.ok _ 53 (.sl 137 6) from ⟨tR53, ts137⟩) <|
 zl8 (show TI.ok _ 180 (.st [0, 3, 4, 5, 6]) from zla Tryz.runUnderlying180 ⟨⟨_, rfl, rfl, 2, ts56⟩, ⟨_, rfl, rfl, 0, ts31⟩, ⟨_, rfl, rfl, 0, ts31⟩, ⟨_, rfl, rfl, 0, ts31⟩, ⟨_, rfl, rfl, 0, ts3⟩, trivial⟩) <|
 zl8 (show TI.ok _ 26 (.st [0, 1, 2, 3]) from zla Tryz.runUnderlying26 ⟨⟨_, rfl, rfl, 0, Tryz.sizeOf22⟩, ⟨_, rfl, rfl, 0, ts3⟩, ⟨_, rfl, rfl, 0, Tryz.sizeOf23⟩, ⟨_, rfl, rfl, 0, Tryz.sizeOf24⟩, trivial⟩) <|
 zl8 (show TI.ok _ 91 (.st [0, 1, 2, 3, 4, 5, 6, 7, 8]) from zla Tryz.runUnderlying91 ⟨⟨_, rfl, rfl, 0, ts3⟩, ⟨_, rfl, rfl, 0, ts3⟩, ⟨_, rfl, rfl, 0, ts3⟩, ⟨_, rfl, rfl, 0, ts3⟩, ⟨_, rfl, rfl, 0, ts3⟩, ⟨_, rfl, rfl, 0, ts3⟩, ⟨_, rfl, rfl, 0, ts3⟩, ⟨_, rfl, rfl, 0, ts3⟩, ⟨_, rfl, rfl, 0, ts3⟩, trivial⟩) <|
 zl8 (show TI.ok _ 137 (.st [0, 1, 2, 3]) from zla Tryz.runUnderlying137 ⟨⟨_, rfl, rfl, 0, ts9⟩, ⟨_, rfl, rfl, 0, ts3⟩, ⟨_, rfl, rfl, 0, ts3⟩, ⟨_, rfl, rfl, 2, ts132⟩, trivial⟩) <|
 zl8 (show TI.ok _ 23 (.sl 56 3) from ⟨tR23, ts56⟩) <|
 zl8 (show TI.ok _ 24 (.sl 33 2) from ⟨tR24, ts33⟩) <|
 zl8 (show TI.ok _ 160 (.st [0, 1, 2]) from zla Tryz.runUnderlying160 ⟨⟨_, rfl, rfl, 0, ts31⟩, ⟨_, rfl, rfl, 0, ts31⟩, ⟨_, rfl, rfl, 0, ts3⟩, trivial⟩) <|
 zl8 (show TI.ok _ 123 (.st [0, 1, 2]) from zla Tryz.runUnderlying123 ⟨⟨_, rfl, rfl, 0, ts31⟩, ⟨_, rfl, rfl, 0, ts31⟩, ⟨_, rfl, rfl, 0, ts31⟩, trivial⟩) <|
 zl8 (show TI.ok _ 219 (.st [0, 1]) from zla Tryz.runUnderlying219 ⟨⟨_, rfl, rfl, 0, ts3⟩, ⟨_, rfl, rfl, 0, ts4⟩, trivial⟩) <|
 zl8 (show TI.ok _ 65 (.ar 2 1) from ⟨_, Tryz.runUnderlying65, ts3⟩) <|
 zl8 (show TI.ok _ 87 (.sl 4 1) from ⟨Tryz.runUnderlying87, ts4⟩) <|
 zl8 (show TI.ok _ 184 (.st [0, 1]) from zla Tryz.runUnderlying184 ⟨⟨_, rfl, rfl, 0, Tryz.sizeOf181⟩, ⟨_, rfl, rfl, 0, Tryz.sizeOf182⟩, trivial⟩) <|
 zl8 (show TI.ok _ 9 (.str) from tu9) <|
 zl8 (show TI.ok _ 27 (.sl 35 3) from ⟨Tryz.runUnderlying27, Tryz.sizeOf35⟩) <|
 zl8 (show TI.ok _ 35 (.st [0, 2]) from zla Tryz.runUnderlying35 ⟨⟨_, rfl, rfl, 1, ts33⟩, ⟨_, rfl, rfl, 0, ts31⟩, trivial⟩) <|
 zl8 (show TI.ok _ 69 (.st [0, 2]) from zla Tryz.runUnderlying69 ⟨⟨_, rfl, rfl, 1, ts33⟩, ⟨_, rfl, rfl, 0, ts3⟩, trivial⟩) <|
 zl8 (show TI.ok _ 71 (.st [0, 5, 6, 7, 9]) from zla Tryz.runUnderlying71 ⟨⟨_, rfl, rfl, 4, ts37⟩, ⟨_, rfl, rfl, 0, ts3⟩, ⟨_, rfl, rfl, 0, ts3⟩, ⟨_, rfl, rfl, 1, ts60⟩, ⟨_, rfl, rfl, 0, Tryz.sizeOf38⟩, trivial⟩) <|
 zl8 (show TI.ok _ 84 (.sl 91 9) from ⟨Tryz.runUnderlying84, Tryz.sizeOf91⟩) <|
 zl8 (show TI.ok _ 212 (.ar 4 1) from ⟨_, Tryz.runUnderlying212, ts31⟩) <|
 zl8 (show TI.ok _ 41 (.sl 31 1) from ⟨Tryz.runUnderlying41, ts31⟩) <|
 zl8 (show TI.ok _ 4 (.bool) from tu4) <|
 zl8 (show TI.ok _ 242 (.sl 89 1) from ⟨Tryz.runUnderlying242, ts89⟩) <|
 zl8 (show TI.ok _ 246 (.sl 54 1) from ⟨Tryz.runUnderlying246, ts54⟩) <|
 zl8 (show TI.ok _ 182 (.sl 5 1) from ⟨Tryz.runUnderlying182, ts5⟩) <|
 zl8 (show TI.ok _ 266 (.ar 32 1) from ⟨_, Tryz.runUnderlying266, ts5⟩) <|
 zl8 (show TI.ok _ 267 (.ar 64 1) from ⟨_, Tryz.runUnderlying267, ts5⟩) <|
 zl6
theorem Tryz.mixed : Tryz.prog.follows .mixedOrders = true := by kernel_rfl
end Go.Proofs
namespace Go.Proofs.YtbkhagigkglgoaaGreatDoor
open Go.GL
section
variable {n : Nat} {Q : Exit -> Act -> World -> Prop} {ks ks' : List Fr} {pos pos' : Pos} {env env' : Env} {w : World}
theorem Gs (k : Nat) (h : zc2 Tryz.tab n k none ks pos env = some (none, ks', pos', env')) (hr : G Tryz.prog n Q ks' pos' env' w) : G Tryz.prog n Q ks pos env w := G.go Tryz.tabOk k h hr
theorem Ga (k : Nat) {p : Prop} (h : zc2 Tryz.tab n k none ks pos env = some (some p, ks', pos', env')) (hp : p) (hr : G Tryz.prog n Q ks' pos' env' w) : G Tryz.prog n Q ks pos env w := G.goA Tryz.tabOk k h hp hr
theorem Qt {id : Nat} {l : List Oper} (hB : Region.lexB .any l.toArray = true) (h : G Tryz.prog n Q ks (.q l.toArray l) env w) : G Tryz.prog n Q ks (.c (.region id l.toArray true)) env w := zkn Tryz.mixed hB h
theorem Dw {id : Nat} {l : List Oper} (S : World -> Prop) (L : List Nat) (h : ∀ w', Ext w w' -> w'.heap = w.heap -> WD Tryz.prog n l.toArray (QK Tryz.prog Q ks) S L l.length (Array.replicate l.length false) env w') : G Tryz.prog n Q ks (.c (.region id l.toArray true)) env w := zkr S L Tryz.mixed h
end
section
variable {n : Nat} {ops : Array Oper} {Q : Exit -> Act -> World -> Prop} {S : World -> Prop} {L : List Nat} {env env' : Env} {w : World} {fuel : Nat} {listed : Array Bool}
theorem Ds (is : List Nat) (hc : zdF ops is listed = true) (hv : dpv Tryz.tab n ops is none env = some (none, env')) (h : WD Tryz.prog n ops Q S L fuel (zc3 is listed) env' w) : WD Tryz.prog n ops Q S L (zbW is fuel) listed env w := WD.ps Tryz.tabOk is hc hv h
theorem Da (is : List Nat) {p : Prop} (hc : zdF ops is listed = true) (hv : dpv Tryz.tab n ops is none env = some (some p, env')) (hp : p) (h : WD Tryz.prog n ops Q S L fuel (zc3 is listed) env' w) : WD Tryz.prog n ops Q S L (zbW is fuel) listed env w := zly Tryz.tabOk is hc hv hp h
end
end Go.Proofs.YtbkhagigkglgoaaGreatDoor
namespace Go.Proofs
open Go.GL
def Tryz.szs : Szs := [(3, 0), (31, 0), (60, 2), (37, 5), (56, 3), (33, 2), (132, 3), (54, 0), (255, 2), (52, 0), (130, 0), (89, 0), (24, 0), (120, 5), (134, 10), (53, 0), (160, 3), (22, 0), (128, 0), (137, 6), (129, 0), (9, 0), (23, 0), (226, 0), (4, 0), (123, 3), (223, 3), (71, 10), (91, 9), (35, 3), (182, 0), (26, 4), (181, 0), (212, 4), (5, 0), (38, 0), (266, 32), (267, 64), (259, 20)]
theorem Tryz.szsOk : zl5 Tryz.prog Tryz.szs :=
 zl9 (show Szs.one _ 3 0 from ⟨tg3, ts3⟩) <|
 zl9 (show Szs.one _ 31 0 from ⟨tg31, ts31⟩) <|
 zl9 (show Szs.one _ 60 2 from ⟨tg60, ts60⟩) <|
 zl9 (show Szs.one _ 37 5 from ⟨tg37, ts37⟩) <|
 zl9 (show Szs.one _ 56 3 from ⟨tg56, ts56⟩) <|
 zl9 (show Szs.one _ 33 2 from ⟨Tryz.isAgg33, ts33⟩) <|
 zl9 (show Szs.one _ 132 3 from ⟨tg132, ts132⟩) <|
 zl9 (show Szs.one _ 54 0 from ⟨tg54, ts54⟩) <|
 zl9 (show Szs.one _ 255 2 from ⟨tg255, ts255⟩) <|
 zl9 (show Szs.one _ 52 0 from ⟨tg52, Tryz.sizeOf52⟩) <|
 zl9 (show Szs.one _ 130 0 from ⟨tg130, Tryz.sizeOf130⟩) <|
 zl9 (show Szs.one _ 89 0 from ⟨tg89, ts89⟩) <|
 zl9 (show Szs.one _ 24 0 from ⟨Tryz.isAgg24, Tryz.sizeOf24⟩) <|
 zl9 (show Szs.one _ 120 5 from ⟨tg120, ts120⟩) <|
 zl9 (show Szs.one _ 134 10 from ⟨tg134, ts134⟩) <|
 zl9 (show Szs.one _ 53 0 from ⟨tg53, Tryz.sizeOf53⟩) <|
 zl9 (show Szs.one _ 160 3 from ⟨tg160, ts160⟩) <|
 zl9 (show Szs.one _ 22 0 from ⟨Tryz.isAgg22, Tryz.sizeOf22⟩) <|
 zl9 (show Szs.one _ 128 0 from ⟨tg128, Tryz.sizeOf128⟩) <|
 zl9 (show Szs.one _ 137 6 from ⟨tg137, ts137⟩) <|
 zl9 (show Szs.one _ 129 0 from ⟨tg129, Tryz.sizeOf129⟩) <|
 zl9 (show Szs.one _ 9 0 from ⟨tg9, ts9⟩) <|
 zl9 (show Szs.one _ 23 0 from ⟨Tryz.isAgg23, Tryz.sizeOf23⟩) <|
 zl9 (show Szs.one _ 226 0 from ⟨Tryz.isAgg226, Tryz.sizeOf226⟩) <|
 zl9 (show Szs.one _ 4 0 from ⟨tg4, ts4⟩) <|
 zl9 (show Szs.one _ 123 3 from ⟨tg123, ts123⟩) <|
 zl9 (show Szs.one _ 223 3 from ⟨Tryz.isAgg223, ts223⟩) <|
 zl9 (show Szs.one _ 71 10 from ⟨Tryz.isAgg71, Tryz.sizeOf71⟩) <|
 zl9 (show Szs.one _ 91 9 from ⟨Tryz.isAgg91, Tryz.sizeOf91⟩) <|
 zl9 (show Szs.one _ 35 3 from ⟨Tryz.isAgg35, Tryz.sizeOf35⟩) <|
 zl9 (show Szs.one _ 182 0 from ⟨Tryz.isAgg182, Tryz.sizeOf182⟩) <|
 zl9 (show Szs.one _ 26 4 from ⟨Tryz.isAgg26, Tryz.sizeOf26⟩) <|
 zl9 (show Szs.one _ 181 0 from ⟨Tryz.isAgg181, Tryz.sizeOf181⟩) <|
 zl9 (show Szs.one _ 212 4 from ⟨Tryz.isAgg212, Tryz.sizeOf212⟩) <|
 zl9 (show Szs.one _ 5 0 from ⟨Tryz.isAgg5, ts5⟩) <|
 zl9 (show Szs.one _ 38 0 from ⟨Tryz.isAgg38, Tryz.sizeOf38⟩) <|
 zl9 (show Szs.one _ 266 32 from ⟨Tryz.isAgg266, Tryz.sizeOf266⟩) <|
 zl9 (show Szs.one _ 267 64 from ⟨Tryz.isAgg267, Tryz.sizeOf267⟩) <|
 zl9 (show Szs.one _ 259 20 from ⟨Tryz.isAgg259, Tryz.sizeOf259⟩) <|
 zl7
end Go.Proofs
namespace Go.Proofs.YtbkhagigkglgoaaGreatDoor
open Go.GL
section
variable {n : Nat} {Q : Exit -> Act -> World -> Prop} {ks ks' : List Fr} {pos pos' : Pos} {env env' : Env} {A A' : Tgs} {H H' Hs : Hp} {Bs B0 : yc} {ops : Array Oper} {L : List Nat} {fuel : Nat} {listed : Array Bool} {v : Value}
theorem Vs (k : Nat) (h : zc8 Tryz.tab Tryz.szs n k none ks pos env A H = some (none, ks', pos', env', A', H')) (hr : V Tryz.prog n Q ks' pos' env' A' H' Bs) : V Tryz.prog n Q ks pos env A H Bs := V.go Tryz.tabOk Tryz.szsOk k h hr
theorem Va (k : Nat) {p : Prop} (h : zc8 Tryz.tab Tryz.szs n k none ks pos env A H = some (some p, ks', pos', env', A', H')) (hp : p) (hr : V Tryz.prog n Q ks' pos' env' A' H' Bs) : V Tryz.prog n Q ks pos env A H Bs := V.goA Tryz.tabOk Tryz.szsOk k h hp hr
theorem Vq {id : Nat} {l : List Oper} (hB : Region.lexB .any l.toArray = true) (h : V Tryz.prog n Q ks (.q l.toArray l) env A H Bs) : V Tryz.prog n Q ks (.c (.region id l.toArray true)) env A H Bs := zko Tryz.mixed hB h
theorem Vw {id : Nat} {l : List Oper} (hs L : List Nat) (hp : zd3 H hs = some Hs) (h : VD Tryz.prog n Q ks l.toArray Hs Bs L l.length (Array.replicate l.length false) env A H Bs) : V Tryz.prog n Q ks (.c (.region id l.toArray true)) env A H Bs := zm7 hs L Tryz.mixed hp h
theorem Vd (is : List Nat) (j : Nat) (hc : zbm ops L is listed = true) (hB : Bs.drop j = B0) (hv : zeg Tryz.tab Tryz.szs n ops Hs is none env A = some (none, env', A')) (hH0 : qr (Hs.map (·.1)) = true) (h : VD Tryz.prog n Q ks ops Hs B0 L fuel (zc3 is listed) env' A' H Bs) : VD Tryz.prog n Q ks ops Hs B0 L (zbW is fuel) listed env A H Bs := VD.ps Tryz.tabOk Tryz.szsOk is j hc hB hv hH0 h
theorem Vb (is : List Nat) (j : Nat) {p : Prop} (hc : zbm ops L is listed = true) (hB : Bs.drop j = B0) (hv : zeg Tryz.tab Tryz.szs n ops Hs is none env A = some (some p, env', A')) (hH0 : qr (Hs.map (·.1)) = true) (hp : p) (h : VD Tryz.prog n Q ks ops Hs B0 L fuel (zc3 is listed) env' A' H Bs) : VD Tryz.prog n Q ks ops Hs B0 L (zbW is fuel) listed env A H Bs := zlz Tryz.tabOk Tryz.szsOk is j hc hB hv hH0 hp h
theorem Ve (i j : Nat) {t : TypeId} {x y : Operand} {ty : TypeId} {ps : String} {aft : Array Edge} {g : Option (Nat × Bool)} (hi : ops[i]? = some ⟨none, .store t x y, ty, ps, aft, g⟩) (hr : Region.ready .any ops listed = [i]) (hn : (gd ops env g, zac Tryz.szs env A H t x y, qr (Hs.map (·.1))) = (some true, some H', true)) (hB : Bs.drop j = B0) (hH' : Hs.map (fun x => zo H' x.1) = Hs.map (fun x => some x.2))
  (h : VD Tryz.prog n Q ks ops Hs B0 L fuel (listed.setIfInBounds i true) env A H' Bs) : VD Tryz.prog n Q ks ops Hs B0 L (fuel + 1) listed env A H Bs := VD.st i j Tryz.szsOk hi hr hn hB hH' h
theorem Vl (i : Nat) {t : TypeId} {x y : Operand} {ty : TypeId} {ps : String} {aft : Array Edge} {g : Option (Nat × Bool)} (hi : ops[i]? = some ⟨none, .store t x y, ty, ps, aft, g⟩) (hr : Region.ready .any ops listed = [i]) (hn : (gd ops env g, zac Tryz.szs env A H t x y, L.contains i) = (some true, some H', true))
  (h : VDx Tryz.prog n Q ks ops (VI B0 Hs) L fuel (listed.setIfInBounds i true) env A H' Bs) : VD Tryz.prog n Q ks ops Hs B0 L (fuel + 1) listed env A H Bs := zm0 i Tryz.szsOk hi hr hn h
theorem Vx {S : World -> Prop} (is : List Nat) (hc : zdF ops is listed = true) (hv : zeg Tryz.tab Tryz.szs n ops [] is none env A = some (none, env', A')) (h : VDx Tryz.prog n Q ks ops S L fuel (zc3 is listed) env' A' H Bs) : VDx Tryz.prog n Q ks ops S L (zbW is fuel) listed env A H Bs := zlx Tryz.tabOk Tryz.szsOk is hc hv h
theorem Vo (i j : Nat) {d : Nat} {op : Op} {ty : TypeId} {ps : String} {aft : Array Edge} {g : Option (Nat × Bool)} {t : Option (Nat × Nat)} (hi : ops[i]? = some ⟨some d, op, ty, ps, aft, g⟩) (hr : Region.ready .any ops listed = [i]) (hn : (Nat.blt d n, gd ops env g, opV Tryz.tab Tryz.szs env A H op, qr (Hs.map (·.1))) = (true, some true, some (none, v, t), true)) (hB : Bs.drop j = B0)
  (h : VD Tryz.prog n Q ks ops Hs B0 L fuel (listed.setIfInBounds i true) ((d, v) :: env) ((d, t) :: A) H Bs) : VD Tryz.prog n Q ks ops Hs B0 L (fuel + 1) listed env A H Bs := VD.one Tryz.tabOk Tryz.szsOk i j hi hr hn hB h
end
end Go.Proofs.YtbkhagigkglgoaaGreatDoor
namespace Go.Proofs
theorem Tryz.el3 : (Tryz.prog.info? 3).map (fun i => (i.zero, i.size, i.bytes)) = some (some ((Value.int IntKind.i64 0)), 1, 8) := by kernel_rfl
theorem Tryz.el5 : (Tryz.prog.info? 5).map (fun i => (i.zero, i.size, i.bytes)) = some (some ((Value.int IntKind.u8 0)), 1, 1) := by kernel_rfl
theorem Tryz.el33 : (Tryz.prog.info? 33).map (fun i => (i.zero, i.size, i.bytes)) = some (some ((Value.agg #[Value.int IntKind.i64 0, Value.slice none 0 0])), 2, 32) := by kernel_rfl
theorem Tryz.el60 : (Tryz.prog.info? 60).map (fun i => (i.zero, i.size, i.bytes)) = some (some ((Value.agg #[Value.slice none 0 0, Value.int IntKind.i64 0])), 2, 32) := by kernel_rfl
theorem Tryz.el120 : (Tryz.prog.info? 120).map (fun i => (i.zero, i.size, i.bytes)) = some (some ((Value.agg #[Value.string { data := #[] }, Value.int IntKind.i64 0, Value.int IntKind.i64 0, Value.int IntKind.i64 0, Value.int IntKind.i64 0])), 5, 48) := by kernel_rfl
theorem Tryz.el255 : (Tryz.prog.info? 255).map (fun i => (i.zero, i.size, i.bytes)) = some (some ((Value.agg #[Value.int IntKind.i64 0, Value.int IntKind.i64 0])), 2, 16) := by kernel_rfl
end Go.Proofs
namespace Go.GL
mutual
def Tm.nodes : Tm -> Nat
 | .mk _ _ ks => 1 + zP ks
def zP : List Tm -> Nat
 | [] => 0
 | k :: r => k.nodes + zP r
end
mutual
def Tm.depth : Tm -> Nat
 | .mk _ _ ks => yx ks + 1
def yx : List Tm -> Nat
 | [] => 0
 | k :: r => max k.depth (yx r)
end
mutual
def St.nodes : St -> Nat
 | .mk _ _ _ _ t f g _ => 1 + t.nodes + zn f + zn g
def zn : List St -> Nat
 | [] => 0
 | s :: r => s.nodes + zn r
end
mutual
def St.bulk : St -> Nat
 | .mk _ _ _ _ t f g b => 1 + t.nodes + b.length + zw f + zw g
def zw : List St -> Nat
 | [] => 0
 | s :: r => s.bulk + zw r
end
mutual
def St.size : St -> Nat
 | .mk _ _ _ _ _ f g _ => 1 + ssize f + ssize g
def ssize : List St -> Nat
 | [] => 0
 | s :: r => s.size + ssize r
end
mutual
def St.depth : St -> Nat
 | .mk _ _ _ _ _ f g _ => max (zO f + 1) (zO g + 1)
def zO : List St -> Nat
 | [] => 0
 | s :: r => max s.depth (zO r)
end
mutual
/-- Some term of a step is nested too deep. -/
def St.tdeep : St -> Bool
 | .mk _ _ _ _ t f g _ => decide (12 < t.depth) || yf f || yf g
def yf : List St -> Bool
 | [] => false
 | s :: r => s.tdeep || yf r
end
theorem Tm.nodes_eq (t : Tm) : t.nodes = 1 + zP t.kids := by cases t; rfl
theorem Tm.depth_eq (t : Tm) : t.depth = yx t.kids + 1 := by cases t; rfl
theorem St.nodes_eq (s : St) : s.nodes = 1 + s.term.nodes + zn s.thn + zn s.els := by cases s; rfl
theorem St.bulk_eq (s : St) : s.bulk = 1 + s.term.nodes + s.bounds.length + zw s.thn + zw s.els := by cases s; rfl
theorem St.size_eq (s : St) : s.size = 1 + ssize s.thn + ssize s.els := by cases s; rfl
theorem St.depth_eq (s : St) : s.depth = max (zO s.thn + 1) (zO s.els + 1) := by cases s; rfl
theorem St.tdeep_eq (s : St) : s.tdeep = (decide (12 < s.term.depth) || yf s.thn || yf s.els) := by cases s; rfl
theorem xV (a b : List Tm) : zP (a ++ b) = zP a + zP b := by
 induction a with
 | nil => simp [zP]
 | cons x r ih => simp [zP, ih, Nat.add_assoc]
theorem zbp (a b : List Tm) : yx (a ++ b) = max (yx a) (yx b) := by
 induction a with
 | nil => simp [yx]
 | cons x r ih => simp [yx, ih, Nat.max_assoc]
theorem jx (a b : List St) : zn (a ++ b) = zn a + zn b := by
 induction a with
 | nil => simp [zn]
 | cons x r ih => simp [zn, ih, Nat.add_assoc]
theorem xH (a b : List St) : zw (a ++ b) = zw a + zw b := by
 induction a with
 | nil => simp [zw]
 | cons x r ih => simp [zw, ih, Nat.add_assoc]
theorem xW (a b : List St) : zO (a ++ b) = max (zO a) (zO b) := by
 induction a with
 | nil => simp [zO]
 | cons x r ih => simp [zO, ih, Nat.max_assoc]
theorem xX (a b : List St) : yf (a ++ b) = (yf a || yf b) := by
 induction a with
 | nil => simp [yf]
 | cons x r ih => simp [yf, ih, Bool.or_assoc]
theorem zg {α : Type} {l : List α} {i : Nat} {x : α} (h : l[i]? = some x) : l.take (i + 1) = l.take i ++ [x] := by
 rw [List.take_add_one, h]; rfl
theorem qZ {l : List Tm} {i : Nat} {x : Tm} (h : l[i]? = some x) : zP (l.take (i + 1)) = zP (l.take i) + x.nodes := by rw [zg h, xV]; simp [zP]
theorem zah {l : List Tm} {i : Nat} {x : Tm} (h : l[i]? = some x) : yx (l.take (i + 1)) = max (yx (l.take i)) x.depth := by rw [zg h, zbp]; simp [yx]
theorem zai {l : List St} {i : Nat} {x : St} (h : l[i]? = some x) : zn (l.take (i + 1)) = zn (l.take i) + x.nodes := by rw [zg h, jx]; simp [zn]
theorem zeh {l : List St} {i : Nat} {x : St} (h : l[i]? = some x) : zw (l.take (i + 1)) = zw (l.take i) + x.bulk := by rw [zg h, xH]; simp [zw]
theorem zaj {l : List St} {i : Nat} {x : St} (h : l[i]? = some x) : zO (l.take (i + 1)) = max (zO (l.take i)) x.depth := by rw [zg h, xW]; simp [zO]
theorem zak {l : List St} {i : Nat} {x : St} (h : l[i]? = some x) : yf (l.take (i + 1)) = (yf (l.take i) || x.tdeep) := by rw [zg h, xX]; simp [yf]
theorem yR {α : Type} {l : List α} {i : Nat} {x : α} (h : l[i]? = some x) : l = l.take i ++ x :: l.drop (i + 1) := by
 obtain ⟨h1, h2⟩ := zne.1 h
 rw [<- h2, List.getElem_cons_drop, List.take_append_drop]
theorem qt {l : List St} {x : St} (h : x ∈ l) : x.bulk <= zw l := by
 obtain ⟨i, hi⟩ := List.mem_iff_getElem?.1 h
 rw [yR hi, xH]; simp [zw]; omega
theorem yZ {l : List Tm} {i : Nat} {x : Tm} (h : l[i]? = some x) : zP l = zP (l.take i) + x.nodes + zP (l.drop (i + 1)) := by
 conv => lhs; rw [yR h]
 rw [xV]; simp [zP, Nat.add_assoc]
theorem xI {l : List St} {i : Nat} {x : St} (h : l[i]? = some x) : zn l = zn (l.take i) + x.nodes + zn (l.drop (i + 1)) := by
 conv => lhs; rw [yR h]
 rw [jx]; simp [zn, Nat.add_assoc]
theorem zd4 {l : List St} {i : Nat} {x : St} (h : l[i]? = some x) : zw l = zw (l.take i) + x.bulk + zw (l.drop (i + 1)) := by
 conv => lhs; rw [yR h]
 rw [xH]; simp [zw, Nat.add_assoc]
theorem zal (l : List Tm) : l.length <= zP l := by
 induction l with
 | nil => simp
 | cons x r ih => have := x.nodes_eq; simp [zP]; omega
theorem zbq (l : List St) : l.length <= zn l := by
 induction l with
 | nil => simp
 | cons x r ih => have := x.nodes_eq; simp [zn]; omega
theorem kA : ∀ l : List St, zn l <= zw l := by
 intro l
 induction l using zkS with
 | h l ih =>
  have key : ∀ r : List St, (∀ s ∈ r, zn s.thn <= zw s.thn /\ zn s.els <= zw s.els) -> zn r <= zw r := by
   intro r
   induction r with
   | nil => intro _; simp [zn]
   | cons x r ih2 =>
    intro h
    have h1 := h x (zn4 ..)
    have h2 := ih2 (fun s hs => h s (zn3 _ hs))
    have h3 := x.nodes_eq
    have h4 := x.bulk_eq
    simp only [zn, zw]; omega
  exact key l ih
theorem zcc : ∀ l : List St, ssize l <= zn l := by
 intro l
 induction l using zkS with
 | h l ih =>
  have key : ∀ r : List St, (∀ s ∈ r, ssize s.thn <= zn s.thn /\ ssize s.els <= zn s.els) -> ssize r <= zn r := by
   intro r
   induction r with
   | nil => intro _; simp [ssize]
   | cons x r ih2 =>
    intro h
    have h1 := h x (zn4 ..)
    have h2 := ih2 (fun s hs => h s (zn3 _ hs))
    have h3 := x.nodes_eq
    have h4 := x.size_eq
    simp only [zn, ssize]; omega
  exact key l ih
theorem kB : ∀ l : List Tm, yx l <= zP l := by
 have key : ∀ l : List Tm, (∀ k ∈ l, k.depth <= k.nodes) -> yx l <= zP l := by
  intro l
  induction l with
  | nil => intro _; simp [yx]
  | cons x r ih =>
   intro h
   have h1 := h x (zn4 ..)
   have h2 := ih (fun k hk => h k (zn3 _ hk))
   simp only [yx, zP]; omega
 have all : ∀ t : Tm, t.depth <= t.nodes := by
  intro t
  induction t using zkQ with
  | h t ih =>
   have := key t.kids ih
   rw [t.depth_eq, t.nodes_eq]; omega
 exact fun l => key l (fun k _ => all k)
theorem qw : ∀ l : List St, zO l <= zn l := by
 intro l
 induction l using zkS with
 | h l ih =>
  have key : ∀ r : List St, (∀ s ∈ r, zO s.thn <= zn s.thn /\ zO s.els <= zn s.els) -> zO r <= zn r := by
   intro r
   induction r with
   | nil => intro _; simp [zO]
   | cons x r ih2 =>
    intro h
    have h1 := h x (zn4 ..)
    have h2 := ih2 (fun s hs => h s (zn3 _ hs))
    have h3 := x.nodes_eq
    have h4 := x.depth_eq
    simp only [zn, zO]; omega
  exact key l ih
def zG : List Ht -> Nat
 | [] => 0
 | h :: r => h.term.nodes + zG r
theorem jy (a b : List Ht) : zG (a ++ b) = zG a + zG b := by
 induction a with
 | nil => simp [zG]
 | cons x r ih => simp [zG, ih, Nat.add_assoc]
theorem ja {l : List Ht} {i : Nat} {x : Ht} (h : l[i]? = some x) : zG (l.take (i + 1)) = zG (l.take i) + x.term.nodes := by rw [zg h, jy]; simp [zG]
theorem xa {l : List Ht} {i : Nat} {x : Ht} (h : l[i]? = some x) : zG l = zG (l.take i) + x.term.nodes + zG (l.drop (i + 1)) := by
 conv => lhs; rw [yR h]
 rw [jy]; simp [zG, Nat.add_assoc]
def few (f : Fl) (vars nodes : Nat) : Bool := decide (f.vars.length <= vars /\ f.hatches.length <= vars /\ zw f.body + zG f.hatches <= nodes)
end Go.GL
namespace Go.Proofs.YtbkhagigkglgoaaGreatDoor
open Go.GL
theorem qx (t : Tm) : ∀ (cs : List Value) (D : Nat -> Prop) (w : World), RTm D w t cs -> t.nodes <= 1000000 -> Calls Tryz.prog 104 #[.agg cs.toArray] w (Ret fun r w' => r = .int .i64 t.nodes /\ Ext w w') := by
 induction t using zkQ with
 | h t ih =>
 intro cs D w ht hsz
 have hlen := zal t.kids
 have hse := t.nodes_eq
 obtain ⟨v, rfl, hk⟩ := ht.get
 obtain ⟨ao, cap, rfl⟩ := hk.form
 have hE := Keep.refl (fun _ => False) w
 refine zlq Tryz.func104 O Tryz.ntmps104 O (Gs 2 O (zkf O O (M.box O O) ?_))
 rintro _ w_b ⟨b, rfl, hg_b, hs_b, hB_b, hk_b⟩
 have hge_b : _ <= b := zn6 hE.size (Nat.le_of_eq hg_b.symm)
 obtain ⟨hE, hk⟩ := Tr2 hk_b hE hk
 refine Gs 15 O (G.loop (σ := Nat) (fun i => [(1, .pointer (some ⟨b, 0, none⟩)), (3, .int .i64 (1 + zP (t.kids.take i) : Nat)), (4, .int .i64 i)]) (fun i => fun w' => i <= t.kids.length /\ Ext w_b w') (fun i => t.kids.length - i) (0) (zkZ O) (⟨znf _, Keep.refl _ _⟩) ?_)
 rintro i w1 ⟨hi, hL1⟩
 obtain ⟨hE, hk, hB_b⟩ := Tr3 hL1 hE hk hB_b
 refine Gs 5 O (zlk O tg130 (hB_b.cells 2 _ O) (Gs 4 O (zjn O (fun hlt => ?_) (fun hge => ?_))))
 ·
  obtain ⟨k, he_k, hm_k⟩ := gE_ t.kids (i) (by omega)
  obtain ⟨b_k, o_k, c_k, ha_k, _, hc_k, hR_k⟩ := hk.at he_k
  have h1_k := RTm.one hR_k
  obtain ⟨v1_k, rfl, hk_k⟩ := hR_k.get
  obtain ⟨a1_k, n1_k, rfl⟩ := hk_k.form
  have hlt_k : b_k < _ := zn2 _ _ (hc_k 0 _ rfl)
  have hsp := yZ he_k
  refine Gs 7 O (zlk O tg130 (hB_b.cells 2 _ O) (Gs 1 O (zlg O O (zk6 tR130 ts132 O O ha_k (by omega)) (zlm O tg132 ts132 hc_k O (G.call O Tryz.call104 (ih k hm_k _ D _ (RTm.put hk_k) (by omega)) ?_)))))
  rintro _ wz1 ⟨rfl, hz1⟩
  obtain ⟨hE, hk, hB_b, hL1, hc_k, hk_k⟩ := Tr6 hz1 hE hk hB_b hL1 hc_k hk_k
  refine Ga 10 O (by omega) (zjy (i + 1) (Sub.cons O (Sub.cons (xD O (by rw [qZ he_k]; omega)) (zkZ O))) (⟨by omega, hL1⟩) (by first | omega | (dsimp only; omega)))
 ·
  have : i = t.kids.length := by omega
  subst this
  refine Gs 12 O (zjH Tryz.results104 O ⟨_, rfl, by rw [zn5, t.nodes_eq], hE⟩)
theorem qy (t : Tm) : ∀ (cs : List Value) (D : Nat -> Prop) (w : World), RTm D w t cs -> t.nodes <= 1000000 -> Calls Tryz.prog 105 #[.agg cs.toArray] w (Ret fun r w' => r = .int .i64 t.depth /\ Ext w w') := by
 induction t using zkQ with
 | h t ih =>
 intro cs D w ht hsz
 have hlen := zal t.kids
 have hse := t.nodes_eq
 obtain ⟨v, rfl, hk⟩ := ht.get
 obtain ⟨ao, cap, rfl⟩ := hk.form
 have hE := Keep.refl (fun _ => False) w
 refine zlq Tryz.func105 O Tryz.ntmps105 O (Gs 2 O (zkf O O (M.box O O) ?_))
 rintro _ w_b ⟨b, rfl, hg_b, hs_b, hB_b, hk_b⟩
 have hge_b : _ <= b := zn6 hE.size (Nat.le_of_eq hg_b.symm)
 obtain ⟨hE, hk⟩ := Tr2 hk_b hE hk
 refine Gs 15 O (G.loop (σ := Nat) (fun i => [(1, .pointer (some ⟨b, 0, none⟩)), (3, .int .i64 (yx (t.kids.take i) : Nat)), (4, .int .i64 i)]) (fun i => fun w' => i <= t.kids.length /\ Ext w_b w') (fun i => t.kids.length - i) (0) (zkZ O) (⟨znf _, Keep.refl _ _⟩) ?_)
 rintro i w1 ⟨hi, hL1⟩
 obtain ⟨hE, hk, hB_b⟩ := Tr3 hL1 hE hk hB_b
 refine Gs 5 O (zlk O tg130 (hB_b.cells 2 _ O) (Gs 4 O (zjn O (fun hlt => ?_) (fun hge => ?_))))
 ·
  obtain ⟨k, he_k, hm_k⟩ := gE_ t.kids (i) (by omega)
  obtain ⟨b_k, o_k, c_k, ha_k, _, hc_k, hR_k⟩ := hk.at he_k
  have h1_k := RTm.one hR_k
  obtain ⟨v1_k, rfl, hk_k⟩ := hR_k.get
  obtain ⟨a1_k, n1_k, rfl⟩ := hk_k.form
  have hlt_k : b_k < _ := zn2 _ _ (hc_k 0 _ rfl)
  have hsp := yZ he_k
  have htk := zah he_k
  refine Gs 7 O (zlk O tg130 (hB_b.cells 2 _ O) (Gs 1 O (zlg O O (zk6 tR130 ts132 O O ha_k (by omega)) (zlm O tg132 ts132 hc_k O (G.call O Tryz.call105 (ih k hm_k _ D _ (RTm.put hk_k) (by omega)) ?_)))))
  rintro _ wz1 ⟨rfl, hz1⟩
  obtain ⟨hE, hk, hB_b, hL1, hc_k, hk_k⟩ := Tr6 hz1 hE hk hB_b hL1 hc_k hk_k
  refine Gs 10 O (zjn O (fun hgt => ?_) (fun hle => ?_))
  . refine Ga 11 O (by omega) (zjy (i + 1) (Sub.cons O (Sub.cons (xD O (by rw [htk]; omega)) (zkZ O))) (⟨by omega, hL1⟩) (by first | omega | (dsimp only; omega)))
  . refine Ga 8 O (by omega) (zjy (i + 1) (Sub.cons O (Sub.cons (xD O (by rw [htk]; omega)) (zkZ O))) (⟨by omega, hL1⟩) (by first | omega | (dsimp only; omega)))
 ·
  have : i = t.kids.length := by omega
  subst this
  have hdp := kB t.kids
  rw [zn5]
  refine Ga 13 O (by omega) (zjH Tryz.results105 O ⟨_, rfl, by rw [t.depth_eq]; rfl, hE⟩)
theorem zd5 (l : List St) : ∀ (v : Value) (D : Nat -> Prop) (w : World), SlR 10 RSt D w v l -> zn l <= 1000000 -> Calls Tryz.prog 103 #[v] w (Ret fun r w' => r = .int .i64 (zn l) /\ Ext w w') := by
 induction l using zkS with
 | h l ih =>
 intro v D w hl hsz
 have hlen := zbq l
 obtain ⟨ao, cap, rfl⟩ := hl.form
 refine zlq Tryz.func103 O Tryz.ntmps103 O (Gs 17 O (G.loop (σ := Nat) (fun i => [(0, .slice ao l.length cap), (3, .int .i64 (zn (l.take i))), (4, .int .i64 i)]) (fun i => fun w' => i <= l.length /\ Ext w w') (fun i => l.length - i) (0) (zkZ O) (⟨znf _, Keep.refl _ _⟩) ?_))
 rintro i w1 ⟨hi, hL1⟩
 replace hl := Tr1 hL1 hl
 refine Gs 9 O (zjn O (fun hlt => ?_) (fun hge => ?_))
 ·
  obtain ⟨s, he_s, hm_s⟩ := gE_ l (i) (by omega)
  obtain ⟨b_s, o_s, c_s, ha_s, _, hc_s, hR_s⟩ := hl.at he_s
  have h1_s := RSt.one hR_s
  obtain ⟨v1_s, v2_s, v3_s, v4_s, rfl, hk_s, ht_s, hs_s, hb_s⟩ := hR_s.get
  obtain ⟨a1_s, n1_s, rfl⟩ := hk_s.form
  obtain ⟨a2_s, n2_s, rfl⟩ := ht_s.form
  obtain ⟨a3_s, n3_s, rfl⟩ := hs_s.form
  obtain ⟨a4_s, n4_s, rfl⟩ := hb_s.form
  have hlt_s : b_s < _ := zn2 _ _ (hc_s 0 _ rfl)
  have hsp := xI he_s
  have hse := s.nodes_eq
  refine Gs 4 O (Dw (fun q => Ext w1 q) [] (fun wd1 hD _ => ?_))
  refine Da [0, 1, 2, 3] (by kernel_rfl) O (by omega) (zkt 4 O (by kernel_rfl) O O O (fun w1 => zk6 tR54 ts134 O O ha_s (by omega)) (Ds [5] (by kernel_rfl) O (WD.take 6 O (by kernel_rfl) O O O hD (fun w1 hw1 => zk8 tg132 ts132 O (by rfl) ((hw1.cells hc_s (fun h => h)).sub 4 3)) (Ds [9, 10] (by kernel_rfl) O (zkt 11 O (by kernel_rfl) O O O (fun w1 => zk6 tR54 ts134 O O ha_s (by omega)) (Ds [12] (by kernel_rfl) O (WD.take 13 O (by kernel_rfl) O O O hD (fun w1 hw1 => R.load tg54 O (hw1.cells hc_s (fun h => h) 7 _ O)) ?_)))))))
  refine Ds [16, 17] (by kernel_rfl) O (zkt 18 O (by kernel_rfl) O O O (fun w1 => zk6 tR54 ts134 O O ha_s (by omega)) (Ds [19] (by kernel_rfl) O (WD.take 20 O (by kernel_rfl) O O O hD (fun w1 hw1 => R.load tg54 O (hw1.cells hc_s (fun h => h) 8 _ O)) (WD.call 7 O (by kernel_rfl) O O O (F.call (vs := [_]) Tryz.call104 O) (qx s.term _ D _ (RTm.put (hk_s.ext zj hD)) (by omega)) ?_))))
  rintro _ wz2 ⟨rfl, hz2⟩
  replace hD := hD.ext hz2
  refine ⟨fun _ => hD, ?_⟩
  refine Da [8] (by kernel_rfl) O (by omega) (WD.call 14 O (by kernel_rfl) O O O (F.call (vs := [_]) Tryz.call103 O) ((ih s hm_s).1 _ D _ (ht_s.ext zf hD) (by omega)) ?_)
  rintro _ wz3 ⟨rfl, hz3⟩
  replace hD := hD.ext hz3
  refine ⟨fun _ => hD, ?_⟩
  refine Da [15] (by kernel_rfl) O (by omega) (WD.call 21 O (by kernel_rfl) O O O (F.call (vs := [_]) Tryz.call103 O) ((ih s hm_s).2 _ D _ (hs_s.ext zf hD) (by omega)) ?_)
  rintro _ wz4 ⟨rfl, hz4⟩
  replace hD := hD.ext hz4
  refine ⟨fun _ => hD, ?_⟩
  refine Da [22, 23] (by kernel_rfl) O (by omega) (G.done (by kernel_rfl) ?_ _)
  obtain ⟨hl, hL1, hc_s, hk_s, ht_s, hs_s, hb_s⟩ := Tr7 hD hl hL1 hc_s hk_s ht_s hs_s hb_s
  refine Ga 7 O (by omega) (zjy (i + 1) (Sub.cons O (Sub.cons (xD O (by rw [zai he_s]; omega)) (zkZ O))) (⟨by omega, hL1⟩) (by first | omega | (dsimp only; omega)))
 ·
  have : i = l.length := by omega
  subst this
  refine Gs 12 O (zjH Tryz.results103 O ⟨_, rfl, by rw [zn5], hL1⟩)
theorem zam (l : List St) : ∀ (v : Value) (D : Nat -> Prop) (w : World), SlR 10 RSt D w v l -> zn l <= 1000000 -> Calls Tryz.prog 106 #[v] w (Ret fun r w' => r = .int .i64 (zO l) /\ Ext w w') := by
 induction l using zkS with
 | h l ih =>
 intro v D w hl hsz
 have hlen := zbq l
 obtain ⟨ao, cap, rfl⟩ := hl.form
 refine zlq Tryz.func106 O Tryz.ntmps106 O (Gs 17 O (G.loop (σ := Nat) (fun i => [(0, .slice ao l.length cap), (3, .int .i64 (zO (l.take i))), (4, .int .i64 i)]) (fun i => fun w' => i <= l.length /\ Ext w w') (fun i => l.length - i) (0) (zkZ O) (⟨znf _, Keep.refl _ _⟩) ?_))
 rintro i w1 ⟨hi, hL1⟩
 replace hl := Tr1 hL1 hl
 refine Gs 9 O (zjn O (fun hlt => ?_) (fun hge => ?_))
 ·
  obtain ⟨s, he_s, hm_s⟩ := gE_ l (i) (by omega)
  obtain ⟨b_s, o_s, c_s, ha_s, _, hc_s, hR_s⟩ := hl.at he_s
  have h1_s := RSt.one hR_s
  obtain ⟨v1_s, v2_s, v3_s, v4_s, rfl, hk_s, ht_s, hs_s, hb_s⟩ := hR_s.get
  obtain ⟨a1_s, n1_s, rfl⟩ := hk_s.form
  obtain ⟨a2_s, n2_s, rfl⟩ := ht_s.form
  obtain ⟨a3_s, n3_s, rfl⟩ := hs_s.form
  obtain ⟨a4_s, n4_s, rfl⟩ := hb_s.form
  have hlt_s : b_s < _ := zn2 _ _ (hc_s 0 _ rfl)
  have hsp := xI he_s
  have hse := s.nodes_eq
  have htk := zaj he_s
  have hde := s.depth_eq
  have hd1 := qw s.thn
  have hd2 := qw s.els
  refine Gs 8 O (zlg O O (zk6 tR54 ts134 O O ha_s (by omega)) (Gs 1 O (zlk O tg54 (hc_s 7 _ O) (G.call O Tryz.call106 ((ih s hm_s).1 _ D _ ht_s (by omega)) ?_))))
  rintro _ wz1 ⟨rfl, hz1⟩
  obtain ⟨hl, hL1, hc_s, hk_s, ht_s, hs_s, hb_s⟩ := Tr7 hz1 hl hL1 hc_s hk_s ht_s hs_s hb_s
  refine Ga 8 O (by omega) (zlg O O (zk6 tR54 ts134 O O ha_s (by omega)) (Gs 1 O (zlk O tg54 (hc_s 8 _ O) (G.call O Tryz.call106 ((ih s hm_s).2 _ D _ hs_s (by omega)) ?_))))
  rintro _ wz2 ⟨rfl, hz2⟩
  obtain ⟨hl, hL1, hc_s, hk_s, ht_s, hs_s, hb_s⟩ := Tr7 hz2 hl hL1 hc_s hk_s ht_s hs_s hb_s
  refine Ga 12 O (by omega) (zjn O (fun h1 => ?_) (fun h1 => ?_))
  ·
   refine Gs 12 O (zjn O (fun h2 => ?_) (fun h2 => ?_))
   . refine Ga 11 O (by omega) (zjy (i + 1) (Sub.cons O (Sub.cons (xD O (by rw [htk]; omega)) (zkZ O))) (⟨by omega, hL1⟩) (by first | omega | (dsimp only; omega)))
   . refine Ga 8 O (by omega) (zjy (i + 1) (Sub.cons O (Sub.cons (xD O (by rw [htk]; omega)) (zkZ O))) (⟨by omega, hL1⟩) (by first | omega | (dsimp only; omega)))
  ·
   refine Gs 9 O (zjn O (fun h2 => ?_) (fun h2 => ?_))
   . refine Ga 11 O (by omega) (zjy (i + 1) (Sub.cons O (Sub.cons (xD O (by rw [htk]; omega)) (zkZ O))) (⟨by omega, hL1⟩) (by first | omega | (dsimp only; omega)))
   . refine Ga 8 O (by omega) (zjy (i + 1) (Sub.cons O (Sub.cons (xD O (by rw [htk]; omega)) (zkZ O))) (⟨by omega, hL1⟩) (by first | omega | (dsimp only; omega)))
 ·
  have : i = l.length := by omega
  subst this
  refine Gs 12 O (zjH Tryz.results106 O ⟨_, rfl, by rw [zn5], hL1⟩)
theorem zan (l : List St) : ∀ (v : Value) (D : Nat -> Prop) (w : World), SlR 10 RSt D w v l -> zn l <= 1000000 -> Calls Tryz.prog 107 #[v] w (Ret fun r w' => r = .bool (yf l) /\ Ext w w') := by
 induction l using zkS with
 | h l ih =>
 intro v D w hl hsz
 have hlen := zbq l
 obtain ⟨ao, cap, rfl⟩ := hl.form
 refine zlq Tryz.func107 O Tryz.ntmps107 O (Gs 12 O (G.loop (σ := Nat) (fun i => [(0, .slice ao l.length cap), (3, .int .i64 i)]) (fun i => fun w' => i <= l.length /\ yf (l.take i) = false /\ Ext w w') (fun i => l.length - i) (0) (zkZ O) (⟨znf _, rfl, Keep.refl _ _⟩) ?_))
 rintro i w1 ⟨hi, hno, hL1⟩
 replace hl := Tr1 hL1 hl
 refine Gs 9 O (zjn O (fun hlt => ?_) (fun hge => ?_))
 ·
  obtain ⟨s, he_s, hm_s⟩ := gE_ l (i) (by omega)
  obtain ⟨b_s, o_s, c_s, ha_s, _, hc_s, hR_s⟩ := hl.at he_s
  have h1_s := RSt.one hR_s
  obtain ⟨v1_s, v2_s, v3_s, v4_s, rfl, hk_s, ht_s, hs_s, hb_s⟩ := hR_s.get
  obtain ⟨a1_s, n1_s, rfl⟩ := hk_s.form
  obtain ⟨a2_s, n2_s, rfl⟩ := ht_s.form
  obtain ⟨a3_s, n3_s, rfl⟩ := hs_s.form
  obtain ⟨a4_s, n4_s, rfl⟩ := hb_s.form
  have hlt_s : b_s < _ := zn2 _ _ (hc_s 0 _ rfl)
  have hsp := xI he_s
  have hse := s.nodes_eq
  have htk := zak he_s
  rw [hno, Bool.false_or, s.tdeep_eq] at htk
  have hyes : (decide (12 < s.term.depth) || yf s.thn || yf s.els) = true -> yf l = true := by
   intro h
   rw [yR he_s, xX]
   simp only [yf, s.tdeep_eq, h, Bool.true_or, Bool.or_true]
  refine Gs 8 O (zlg O O (zk6 tR54 ts134 O O ha_s (by omega)) (Gs 1 O (zlm O tg132 ts132 (hc_s.sub 4 3) O (G.call O Tryz.call105 (qy s.term _ D _ (RTm.put hk_s) (by omega)) ?_))))
  rintro _ wz1 ⟨rfl, hz1⟩
  obtain ⟨hl, hL1, hc_s, hk_s, ht_s, hs_s, hb_s⟩ := Tr7 hz1 hl hL1 hc_s hk_s ht_s hs_s hb_s
  refine Gs 2 O (zlb 17 O (fun h1 => ?_) (fun h1 => ?_))
  ·
   have h1' : decide (12 < s.term.depth) = true := znc (by omega)
   refine Gs 29 O (zjH tr107 O ⟨_, rfl, by rw [hyes (by rw [h1']; rfl)], hL1⟩)
  ·
   have h1' : decide (12 < s.term.depth) = false := znd (by omega)
   refine Gs 2 O (zlg O O (zk6 tR54 ts134 O O ha_s (by omega)) (Gs 1 O (zlk O tg54 (hc_s 7 _ O) (G.call O Tryz.call107 ((ih s hm_s).1 _ D _ ht_s (by omega)) ?_))))
   rintro _ wz2 ⟨rfl, hz2⟩
   obtain ⟨hl, hL1, hc_s, hk_s, ht_s, hs_s, hb_s⟩ := Tr7 hz2 hl hL1 hc_s hk_s ht_s hs_s hb_s
   refine Gs 2 O (zle 25 O (fun h2 => ?_) (fun h2 => ?_))
   . refine Gs 21 O (zjH tr107 O ⟨_, rfl, by rw [hyes (by rw [h2]; simp)], hL1⟩)
   ·
    refine Gs 2 O (zlg O O (zk6 tR54 ts134 O O ha_s (by omega)) (Gs 1 O (zlk O tg54 (hc_s 8 _ O) (G.call O Tryz.call107 ((ih s hm_s).2 _ D _ hs_s (by omega)) ?_))))
    rintro _ wz3 ⟨rfl, hz3⟩
    obtain ⟨hl, hL1, hc_s, hk_s, ht_s, hs_s, hb_s⟩ := Tr7 hz3 hl hL1 hc_s hk_s ht_s hs_s hb_s
    refine Gs 3 O (G.bool O (fun h3 => ?_) (fun h3 => ?_))
    . refine Gs 11 O (zjH tr107 O ⟨_, rfl, by rw [hyes (by rw [h3]; simp)], hL1⟩)
    . refine Ga 8 O (by omega) (zjy (i + 1) (zkZ O) (⟨by omega, by rw [htk, h1', h2, h3]; rfl, hL1⟩) (by first | omega | (dsimp only; omega)))
 ·
  have : i = l.length := by omega
  subst this
  rw [zn5] at hno
  refine Gs 11 O (zjH tr107 O ⟨_, rfl, by rw [hno], hL1⟩)
theorem zT (a b : Int) (w : World) : Calls Tryz.prog 112 #[.int .i64 a, .int .i64 b] w (Ret fun r w' => r = .int .i64 (max a b) /\ Ext w w') := by
 refine zlr Tryz.func112 O Tryz.ntmps112 O (Gs 13 O (zjn O (fun h => ?_) (fun h => ?_)))
 . refine Gs 8 O (zjH Tryz.results112 O ⟨_, rfl, by rw [Int.max_eq_left (by omega)], Keep.refl _ _⟩)
 . refine Gs 9 O (zjH Tryz.results112 O ⟨_, rfl, by rw [Int.max_eq_right (by omega)], Keep.refl _ _⟩)
theorem zu (a b : Int) (w : World) : Calls Tryz.prog 113 #[.int .i64 a, .int .i64 b] w (Ret fun r w' => r = .int .i64 (min a b) /\ Ext w w') := by
 refine zlr Tryz.func113 O Tryz.ntmps113 O (Gs 13 O (zjn O (fun h => ?_) (fun h => ?_)))
 . refine Gs 8 O (zjH Tryz.results113 O ⟨_, rfl, by rw [Int.min_eq_left (by omega)], Keep.refl _ _⟩)
 . refine Gs 9 O (zjH Tryz.results113 O ⟨_, rfl, by rw [Int.min_eq_right (by omega)], Keep.refl _ _⟩)
def yU (n low high : Int) : Int := if n < low then low else if high < n then high else n
theorem jW (a b c : Int) (w : World) : Calls Tryz.prog 173 #[.int .i64 a, .int .i64 b, .int .i64 c] w (Ret fun r w' => r = .int .i64 (yU a b c) /\ Ext w w') := by
 refine zls Tryz.func173 O Tryz.ntmps173 O (Gs 13 O (zjn O (fun h => ?_) (fun h => ?_)))
 . refine Gs 8 O (zjH Tryz.results173 O ⟨_, rfl, by rw [yU, znb h], Keep.refl _ _⟩)
 ·
  refine Gs 10 O (zjn O (fun h2 => ?_) (fun h2 => ?_))
  . refine Gs 8 O (zjH Tryz.results173 O ⟨_, rfl, by rw [yU, zna h, znb h2], Keep.refl _ _⟩)
  . refine Gs 9 O (zjH Tryz.results173 O ⟨_, rfl, by rw [yU, zna h, zna h2], Keep.refl _ _⟩)
theorem yk (p : Bool) (w : World) : Calls Tryz.prog 101 #[.bool p] w (Ret fun r w' => r = .int .i64 (if p then 1 else 0) /\ Ext w w') := by
 refine zlq Tryz.func101 O Tryz.ntmps101 O (Gs 11 O (G.bool O (fun h => ?_) (fun h => ?_)))
 . refine Gs 7 O (zjH Tryz.results101 O ⟨_, rfl, by rw [h]; rfl, Keep.refl _ _⟩)
 . refine Gs 8 O (zjH Tryz.results101 O ⟨_, rfl, by rw [h]; rfl, Keep.refl _ _⟩)
theorem zU (p : Bool) (w : World) : Calls Tryz.prog 177 #[.bool p] w (Ret fun r w' => r = .int .i64 (if p then 1 else 0) /\ Ext w w') := by
 refine zlq Tryz.func177 O Tryz.ntmps177 O (Gs 11 O (G.bool O (fun h => ?_) (fun h => ?_)))
 . refine Gs 7 O (zjH Tryz.results177 O ⟨_, rfl, by rw [h]; rfl, Keep.refl _ _⟩)
 . refine Gs 8 O (zjH Tryz.results177 O ⟨_, rfl, by rw [h]; rfl, Keep.refl _ _⟩)
theorem zao (a : Int) (w : World) (ha : -4611686018427387904 <= a) : Calls Tryz.prog 174 #[.int .i64 a] w (Ret fun r w' => r = .int .i64 (if a < 0 then -a else a) /\ Ext w w') := by
 refine zlq Tryz.func174 O Tryz.ntmps174 O (Gs 12 O (zjn O (fun h => ?_) (fun h => ?_)))
 . refine Ga 9 O (by omega) (zjH Tryz.results174 O ⟨_, rfl, by rw [znb h], Keep.refl _ _⟩)
 . refine Gs 9 O (zjH Tryz.results174 O ⟨_, rfl, by rw [zna h], Keep.refl _ _⟩)
theorem qz (a b c : Int) (w : World) (hbc : b <= c) : Calls Tryz.prog 147 #[.int .i64 a, .int .i64 b, .int .i64 c] w (Ret fun r w' => r = .int .i64 (yU a b c) /\ Ext w w') := by
 refine zls Tryz.func147 O Tryz.ntmps147 O (Gs 16 O (zjH Tryz.results147 O ⟨_, rfl, ?_, Keep.refl _ _⟩))
 congr 1
 unfold yU
 split
 . omega
 . split <;> omega
theorem zap (t : Tm) : ∀ (cs : List Value) (D : Nat -> Prop) (w : World) (left : Int), RTm D w t cs -> -100000 <= left -> left <= 1000000 -> Calls Tryz.prog 94 #[.agg cs.toArray, .int .i64 left] w (Ret fun r w' => (∃ m : Int, r = .int .i64 m /\ ((t.nodes : Int) <= left -> m = left - t.nodes) /\ (¬ (t.nodes : Int) <= left -> m < 0 /\ min left 0 - 1 <= m)) /\ Ext w w') := by
 induction t using zkQ with
 | h t ih =>
 intro cs D w left ht h1 h2
 have hse := t.nodes_eq
 obtain ⟨v, rfl, hk⟩ := ht.get
 have hmx := hk.max
 obtain ⟨ao, cap, rfl⟩ := hk.form
 have hE := Keep.refl (fun _ => False) w
 refine zlr Tryz.func94 O Tryz.ntmps94 O (Gs 2 O (zkf O O (M.box O O) ?_))
 rintro _ w_b ⟨b, rfl, hg_b, hs_b, hB_b, hk_b⟩
 have hge_b : _ <= b := zn6 hE.size (Nat.le_of_eq hg_b.symm)
 obtain ⟨hE, hk⟩ := Tr2 hk_b hE hk
 refine Ga 17 O (by omega) (G.loop (σ := Nat × Int) (fun ⟨i, x⟩ => [(1, .int .i64 x), (2, .pointer (some ⟨b, 0, none⟩)), (5, .int .i64 i)]) (fun ⟨i, x⟩ => fun w' => i <= t.kids.length /\ ((1 + zP (t.kids.take i) : Nat) <= left -> x = left - (1 + zP (t.kids.take i) : Nat)) /\ (¬ ((1 + zP (t.kids.take i) : Nat) : Int) <= left -> x < 0 /\ min left 0 - 1 <= x) /\ Ext w_b w') (fun ⟨i, x⟩ => t.kids.length - i) ((0, left - 1)) (zkZ O) (⟨znf _, fun _ => rfl, fun h => by simp [zP] at h; omega, Keep.refl _ _⟩) ?_)
 rintro ⟨i, x⟩ w1 ⟨hi, hy, hn, hL1⟩
 show G _ _ _ _ _ [(1, .int .i64 x), (2, .pointer (some ⟨b, 0, none⟩)), (5, .int .i64 i)] _
 obtain ⟨hE, hk, hB_b⟩ := Tr3 hL1 hE hk hB_b
 refine Gs 5 O (zlk O tg130 (hB_b.cells 2 _ O) (Gs 3 O ?_))
 have hend : (i = t.kids.length \/ x < 0) -> ((t.nodes : Int) <= left -> x = left - t.nodes) /\ (¬ (t.nodes : Int) <= left -> x < 0 /\ min left 0 - 1 <= x) := by
  intro h
  have hle : zP (t.kids.take i) <= zP t.kids := by
   have := xV (t.kids.take i) (t.kids.drop i)
   rw [List.take_append_drop] at this
   omega
  rcases h with h | h
  ·
   rw [h, zn5] at hy hn
   constructor
   . intro h3; rw [hy (by omega)]; omega
   . intro h3; exact hn (by omega)
  ·
   constructor
   . intro h3; have := hy (by omega); omega
   ·
    intro h3
    by_cases h4 : ((1 + zP (t.kids.take i) : Nat) : Int) <= left
    . have := hy h4; omega
    . exact hn h4
 refine zlb 13 O (fun hlt => ?_) (fun hlt => ?_)
 ·
  refine Gs 5 O (zjn O (fun hx0 => ?_) (fun hx0 => ?_))
  ·
   obtain ⟨k, he_k, hm_k⟩ := gE_ t.kids (i) (by omega)
   obtain ⟨b_k, o_k, c_k, ha_k, _, hc_k, hR_k⟩ := hk.at he_k
   have h1_k := RTm.one hR_k
   obtain ⟨v1_k, rfl, hk_k⟩ := hR_k.get
   obtain ⟨a1_k, n1_k, rfl⟩ := hk_k.form
   have hlt_k : b_k < _ := zn2 _ _ (hc_k 0 _ rfl)
   have hsp := qZ he_k
   refine Gs 6 O (zlk O tg130 (hB_b.cells 2 _ O) (Gs 1 O (zlg O O (zk6 tR130 ts132 O O ha_k (by omega)) (zlm O tg132 ts132 hc_k O (Gs 1 O (G.call O Tryz.call94 (ih k hm_k _ D _ x (RTm.put hk_k) (by omega) (by by_cases h4 : ((1 + zP (t.kids.take i) : Nat) : Int) <= left <;> first | (have := hy h4; omega) | (have := hn h4; omega))) ?_))))))
   rintro _ wz1 ⟨⟨m, rfl, hm1, hm2⟩, hz1⟩
   obtain ⟨hE, hk, hB_b, hL1, hc_k, hk_k⟩ := Tr6 hz1 hE hk hB_b hL1 hc_k hk_k
   refine Ga 9 O (by omega) (zjy ((i + 1, m)) (zkZ O) (⟨by omega, ?_, ?_, hL1⟩) (by first | omega | (dsimp only; omega)))
   ·
    intro h3
    rw [hsp] at h3 ⊢
    have := hy (by omega)
    rw [hm1 (by omega)]; omega
   ·
    intro h3
    rw [hsp] at h3
    by_cases h4 : ((1 + zP (t.kids.take i) : Nat) : Int) <= left
    ·
     have := hy h4
     have := hm2 (by omega)
     omega
    . have := hn h4; omega
  . refine Gs 12 O (zjH Tryz.results94 O ⟨_, rfl, ⟨x, rfl, hend (.inr (by omega))⟩, hE⟩)
 . refine Gs 18 O (zjH Tryz.results94 O ⟨_, rfl, ⟨x, rfl, hend (.inl (by omega))⟩, hE⟩)
end Go.Proofs.YtbkhagigkglgoaaGreatDoor
namespace Go.GL
theorem zmy {a b : Nd} (h1 : a.kind = b.kind) (h2 : a.at_ = b.at_) (h3 : a.next = b.next) (h4 : a.other = b.other) : a = b := by
 cases a; cases b; simp_all
abbrev zio := Nat × Bool
def zjb (ns : List Nd) (to : Int) (e : zio) : List Nd := ns.modify e.1 fun x => if e.2 then { x with other := to } else { x with next := to }
def zhe (ns : List Nd) (to : Int) (es : List zio) : List Nd := es.foldl (fun ns e => zjb ns to e) ns
structure Bd where
 nodes : List Nd
 step : Nat
mutual
def St.one : St -> Nat -> Bd -> Bd × List zio
 | .mk a _ _ _ _ f g _, at_, b =>
  if a = 3 then
   let x := zgp f { nodes := b.nodes ++ [⟨3, b.step, -1, -1⟩], step := b.step + 1 } [(at_, false)]
   let y := zgp g x.1 [(at_, true)]
   (y.1, x.2 ++ y.2)
  else if a = 4 then
   let x := zgp f { nodes := zjb (b.nodes ++ [⟨4, b.step, -1, -1⟩, ⟨5, b.step, -1, -1⟩]) (at_ + 1 : Nat) (at_, false), step := b.step + 1 } [(at_ + 1, false)]
   ({ x.1 with nodes := zhe x.1.nodes (at_ + 1 : Nat) x.2 }, [(at_ + 1, true)])
  else ({ nodes := b.nodes ++ [⟨2, b.step, -1, -1⟩], step := b.step + 1 }, [(at_, false)])
def zgp : List St -> Bd -> List zio -> Bd × List zio
 | [], b, ins => (b, ins)
 | s :: r, b, ins =>
  let x := s.one b.nodes.length { b with nodes := zhe b.nodes b.nodes.length ins }
  zgp r x.1 x.2
end
mutual
def St.plainB : St -> Bool
 | .mk a _ _ _ _ f g _ => (if a = 3 then true else if a = 4 then g.isEmpty else f.isEmpty && g.isEmpty) && zeW f && zeW g
def zeW : List St -> Bool
 | [] => true
 | s :: r => s.plainB && zeW r
end
structure Nums (ns : List Nd) (a n : Nat) : Prop where
 range : ∀ x ∈ ns, (a : Int) <= x.at_ /\ x.at_ < (a + n : Nat)
 ord : ns.Pairwise fun x y => x.at_ <= y.at_
 all : ∀ k, k < n -> ∃ x ∈ ns, x.at_ = (a + k : Nat)
theorem Nums.nil (a : Nat) : Nums [] a 0 := ⟨fun x h => by simp at h, List.Pairwise.nil, fun k h => by omega⟩
theorem Nums.append {ns ms : List Nd} {a n b m : Nat} (h : Nums ns a n) (h' : Nums ms b m) (hb : b = a + n) : Nums (ns ++ ms) a (n + m) := by
 subst hb
 refine ⟨fun x hx => ?_, ?_, fun k hk => ?_⟩
 ·
  rcases znj.1 hx with hx | hx
  . have := h.range x hx; omega
  . have := h'.range x hx; omega
 ·
  rw [List.pairwise_append]
  refine ⟨h.ord, h'.ord, fun x hx y hy => ?_⟩
  have := h.range x hx
  have := h'.range y hy
  omega
 ·
  by_cases hk2 : k < n
  ·
   obtain ⟨x, hx, e⟩ := h.all k hk2
   exact ⟨x, List.mem_append_left _ hx, e⟩
  ·
   obtain ⟨x, hx, e⟩ := h'.all (k - n) (by omega)
   exact ⟨x, List.mem_append_right _ hx, by rw [e]; omega⟩
theorem Nums.cons {ns : List Nd} {a n : Nat} {x : Nd} (h : Nums ns (a + 1) n) (hx : x.at_ = a) : Nums (x :: ns) a (n + 1) := by
 refine ⟨fun y hy => ?_, ?_, fun k hk => ?_⟩
 ·
  rcases zng.1 hy with rfl | hy
  . omega
  . have := h.range y hy; omega
 ·
  rw [List.pairwise_cons]
  exact ⟨fun y hy => by have := h.range y hy; omega, h.ord⟩
 ·
  by_cases hk2 : k = 0
  . subst hk2; exact ⟨x, zn4 .., hx⟩
  ·
   obtain ⟨y, hy, e⟩ := h.all (k - 1) (by omega)
   exact ⟨y, zn3 _ hy, by rw [e]; omega⟩
theorem zmz {ns : List Nd} {a n : Nat} {x : Nd} (h : Nums ns a n) (hn : 0 < n) (hx : x.at_ = a) : Nums (x :: ns) a n := by
 refine ⟨fun y hy => ?_, ?_, fun k hk => ?_⟩
 ·
  rcases zng.1 hy with rfl | hy
  . omega
  . exact h.range y hy
 ·
  rw [List.pairwise_cons]
  exact ⟨fun y hy => by have := h.range y hy; omega, h.ord⟩
 ·
  obtain ⟨y, hy, e⟩ := h.all k hk
  exact ⟨y, zn3 _ hy, e⟩
structure Item where
 i : Nat
 o : Oper
 d : Nat
 R : World -> Value -> World -> Prop
def jz (ops : Array Oper) (L3 : Array Bool) : Nat -> List Nat -> Array Bool -> Bool
 | 0, is, listed => is.isEmpty && (listed == L3)
 | k + 1, is, listed => !(Region.ready .any ops listed).isEmpty && (Region.ready .any ops listed).all (fun j => is.contains j && jz ops L3 k (is.filter (fun x => x != j)) (listed.setIfInBounds j true))
def zhE (R : World -> Value -> World -> Prop) (v : Value) (R' : World -> Value -> World -> Prop) (u : Value) : Prop :=
 (∃ a a' c c', R a v a' /\ R' c u c' /\ Ext a' c) \/ (∃ a a' c c', R a v a' /\ R' c u c' /\ Ext c' a)
theorem qA {α : Type} {f : α -> Nat} : ∀ {l : List α}, (l.map f).Nodup -> ∀ {x y : α}, x ∈ l -> y ∈ l -> f x = f y -> x = y
 | [], _, _, _, hx, _, _ => by simp at hx
 | z :: r, h, x, y, hx, hy, e => by
  rw [List.map_cons, List.nodup_cons] at h
  rcases zng.1 hx with h1 | h1
  ·
   rcases zng.1 hy with h2 | h2
   . rw [h1, h2]
   . exact absurd (List.mem_map.2 ⟨y, h2, by rw [<- e, h1]⟩) h.1
  ·
   rcases zng.1 hy with h2 | h2
   . exact absurd (List.mem_map.2 ⟨x, h1, by rw [e, h2]⟩) h.1
   . exact qA h.2 h1 h2 e
theorem zcd {env : Env} {val : Nat -> Value} : ∀ (I : List Item) (m : Nat) (v : Value), get (I.map (fun x => (x.d, val x.d)) ++ env) m = some v -> (∃ x ∈ I, x.d = m /\ v = val m) \/ get env m = some v
 | [], m, v, h => .inr h
 | x :: r, m, v, h => by
  rw [List.map_cons, List.cons_append] at h
  simp only [GL.get] at h
  cases hb : Nat.beq x.d m with
  | true =>
   rw [hb] at h
   have e := zn7 hb
   exact .inl ⟨x, zn4 .., e, by rw [<- e]; exact (Option.some.inj h).symm⟩
  | false =>
   rw [hb] at h
   rcases zcd r m v h with ⟨y, hy, h1, h2⟩ | h1
   . exact .inl ⟨y, zn3 _ hy, h1, h2⟩
   . exact .inr h1
section
variable {P : Program} {n : Nat} {ops : Array Oper} {Q : Exit -> Act -> World -> Prop} {S : World -> Prop} {L : List Nat} {env : Env} {w : World} {fuel : Nat} {listed : Array Bool}
theorem zeX {i d : Nat} {o : Oper} {R : Value -> World -> Prop} {K : Act -> World -> Prop} {Q' : Exit -> Act -> World -> Prop} {a : Act} (hi : ops[i]? = some o) (hg : o.guard = none) (hd : o.dst = some d) (ha : Ok n env a) (hm : Does P o env w R)
  (h : ∀ v w', R v w' -> K (a.put (some d) v) w') : wpOp P ops Q' i K a w := by
 refine za2 hi hg ?_
 unfold Oper.wp
 rcases hm with ⟨v, w', h1, h2⟩ | ⟨f, args, h1, h2⟩
 ·
  rw [h1 n a ha, Oper.upon_value, hd]
  exact h v w' h2
 ·
  rw [h1 n a ha, Oper.upon_enter]
  refine h2.mono ?_
  rintro e w' ⟨v, rfl, hR⟩
  simp only [hd]
  exact h v w' hR
theorem zmA (I : List Item) {L3 : Array Bool} (hI : ∀ x ∈ I, ops[x.i]? = some x.o /\ x.o.guard = none /\ x.o.dst = some x.d /\ Nat.blt x.d n = true /\ get env x.d = none)
  (hnd : (I.map (·.d)).Nodup) (hni : (I.map (·.i)).Nodup) (hr : jz ops L3 I.length (I.map (·.i)) listed = true)
  (hS : ∀ w', Ext w w' -> S w') (hR : ∀ x ∈ I, ∀ a v a', x.R a v a' -> Ext a a') (hm : ∀ x ∈ I, ∀ w', Ext w w' -> Does P x.o env w' (x.R w'))
  (h : ∀ (val : Nat -> Value) w', Ext w w' -> (∀ x ∈ I, zj9 w x.R (val x.d) w') -> (∀ x ∈ I, ∀ y ∈ I, x.d ≠ y.d -> zhE x.R (val x.d) y.R (val y.d)) -> WD P n ops Q S L fuel L3 (I.map (fun x => (x.d, val x.d)) ++ env) w') :
  WD P n ops Q S L (fuel + I.length) listed env w := by
 have key : ∀ (k : Nat) (J : List Item) (listed : Array Bool) (env' : Env) (w' : World) (val : Nat -> Value), (∀ x ∈ J, x ∈ I) -> jz ops L3 k (J.map (·.i)) listed = true -> Ext w w' -> Sub env env' ->
   (∀ x ∈ I, x ∉ J -> get env' x.d = some (val x.d) /\ zj9 w x.R (val x.d) w') -> (∀ x ∈ I, x ∉ J -> ∀ y ∈ I, y ∉ J -> x.d ≠ y.d -> zhE x.R (val x.d) y.R (val y.d)) ->
   WD P n ops Q S L (fuel + k) listed env' w' := by
  intro k
  induction k with
  | zero =>
   intro J listed env' w' val hJ ho hE hsub hdone hap
   rw [jz, Bool.and_eq_true, List.isEmpty_iff, List.map_eq_nil_iff] at ho
   obtain ⟨rfl, ho⟩ := ho
   have e : listed = L3 := by simpa using ho
   rw [e]
   refine (h val w' hE (fun x hx => (hdone x hx (by simp)).2) (fun x hx y hy hne => hap x hx (by simp) y hy (by simp) hne)).sub ?_
   intro m v hv
   rcases zcd I m v hv with ⟨x, hx, e1, e2⟩ | h1
   . rw [<- e1, (hdone x hx (by simp)).1, e2, e1]
   . exact hsub m v h1
  | succ k ih =>
   intro J listed env' w' val hJ ho hE hsub hdone hap a ha
   rw [jz, Bool.and_eq_true, List.all_eq_true] at ho
   refine ⟨fun h0 => (by rw [h0] at ho; simp at ho), fun j hj => ?_⟩
   have h1 := ho.2 j hj
   rw [Bool.and_eq_true] at h1
   obtain ⟨x, hx, rfl⟩ : ∃ x ∈ J, x.i = j := by simpa using h1.1
   have hxI := hJ x hx
   obtain ⟨q1, q2, q3, q4, q5⟩ := hI x hxI
   refine zeX q1 q2 q3 ha ((hm x hxI w' hE).sub hsub) (fun v w2 hv => ?_)
   have k2 := hR x hxI _ _ _ hv
   refine ⟨fun _ _ => hS _ (hE.ext k2), ?_⟩
   have hne : ∀ y ∈ I, y ∉ J -> y.d ≠ x.d := fun y hy hyJ e => hyJ (by rw [qA hnd hy hxI e]; exact hx)
   have hmem : ∀ z ∈ I, z ∉ J.filter (fun y => y.i != x.i) -> z = x \/ z ∉ J := by
    intro z hz hz2
    by_cases hzJ : z ∈ J
    ·
     left
     by_cases e : z.i = x.i
     . exact qA hni hz hxI e
     . exact absurd (List.mem_filter.2 ⟨hzJ, by simpa using e⟩) hz2
    . exact .inr hzJ
   refine ih (J.filter (fun y => y.i != x.i)) (listed.setIfInBounds x.i true) ((x.d, v) :: env') w2 (fun m => if m = x.d then v else val m) (fun z hz => hJ z (List.mem_filter.1 hz).1) ?_ (hE.ext k2) ?_ ?_ ?_ _ (ha.put q4)
   ·
    have := h1.2
    rw [List.filter_map] at this
    exact this
   ·
    intro m u hu
    simp only [GL.get]
    cases hb : Nat.beq x.d m with
    | true =>
     have e := zn7 hb
     rw [<- e, q5] at hu
     cases hu
    | false => exact hsub m u hu
   ·
    intro z hz hz2
    rcases hmem z hz hz2 with rfl | hzJ
    ·
     refine ⟨by simp [GL.get, Nat.beq_refl], ?_⟩
     simp only [if_true]
     exact ⟨w', w2, hE, hv, Keep.refl _ _⟩
    ·
     have hzd := hne z hz hzJ
     simp only [hzd, if_false]
     obtain ⟨g1, a1, a2, g2, g3, g4⟩ := hdone z hz hzJ
     refine ⟨?_, a1, a2, g2, g3, g4.ext k2⟩
     simp only [GL.get]
     cases hb : Nat.beq x.d z.d with
     | true => exact absurd (zn7 hb).symm hzd
     | false => exact g1
   ·
    intro z hz hz2 y hy hy2 hzy
    rcases hmem z hz hz2 with rfl | hzJ <;> rcases hmem y hy hy2 with rfl | hyJ
    . exact absurd O hzy
    ·
     have hyd := hne y hy hyJ
     simp only [hyd, if_false, if_true]
     obtain ⟨_, a1, a2, g2, g3, g4⟩ := hdone y hy hyJ
     exact .inr ⟨_, _, _, _, hv, g3, g4⟩
    ·
     have hzd := hne z hz hzJ
     simp only [hzd, if_false, if_true]
     obtain ⟨_, a1, a2, g2, g3, g4⟩ := hdone z hz hzJ
     exact .inl ⟨_, _, _, _, g3, hv, g4⟩
    ·
     simp only [hne z hz hzJ, hne y hy hyJ, if_false]
     exact hap z hz hzJ y hy hyJ hzy
 refine key I.length I listed env w (fun _ => undef) (fun x hx => hx) hr (Keep.refl _ _) (Sub.refl _) (fun x hx h => absurd hx h) (fun x hx h => absurd hx h)
end
end Go.GL
namespace Go.Proofs.YtbkhagigkglgoaaGreatDoor
open Go.GL
theorem zce (l : List St) : ∀ (v : Value) (D : Nat -> Prop) (w : World) (left : Int), SlR 10 RSt D w v l -> -10 <= left -> left <= 1000000 -> Calls Tryz.prog 93 #[v, .int .i64 left] w (Ret fun r w' => (∃ m : Int, r = .int .i64 m /\ ((zw l : Int) <= left -> m = left - zw l) /\ (¬ (zw l : Int) <= left -> m < 0 /\ min left (-1) <= m)) /\ Ext w w') := by
 induction l using zkS with
 | h l ih =>
 intro v D w left hl h1 h2
 have hmx := hl.max
 obtain ⟨ao, cap, rfl⟩ := hl.form
 refine zlr Tryz.func93 O Tryz.ntmps93 O (Gs 12 O (G.loop (σ := Nat × Int) (fun ⟨i, x⟩ => [(0, .slice ao l.length cap), (1, .int .i64 x), (5, .int .i64 i)]) (fun ⟨i, x⟩ => fun w' => i <= l.length /\ ((zw (l.take i) : Int) <= left -> x = left - zw (l.take i)) /\ (¬ (zw (l.take i) : Int) <= left -> x < 0 /\ min left (-1) <= x) /\ Ext w w') (fun ⟨i, x⟩ => l.length - i) ((0, left)) (zkZ O) (⟨znf _, fun _ => by simp [zw], fun h => by simp [zw] at h; omega, Keep.refl _ _⟩) ?_))
 rintro ⟨i, x⟩ w1 ⟨hi, hy, hn, hL1⟩
 show G _ _ _ _ _ [(0, .slice ao l.length cap), (1, .int .i64 x), (5, .int .i64 i)] _
 replace hl := Tr1 hL1 hl
 have hend : (i = l.length \/ x < 0) -> ((zw l : Int) <= left -> x = left - zw l) /\ (¬ (zw l : Int) <= left -> x < 0 /\ min left (-1) <= x) := by
  intro h
  have hle : zw (l.take i) <= zw l := by
   have := xH (l.take i) (l.drop i)
   rw [List.take_append_drop] at this
   omega
  rcases h with h | h
  ·
   rw [h, zn5] at hy hn
   exact ⟨hy, hn⟩
  ·
   constructor
   . intro h3; have := hy (by omega); omega
   ·
    intro h3
    by_cases h4 : (zw (l.take i) : Int) <= left
    . have := hy h4; omega
    . exact hn h4
 refine Gs 8 O (zlb 10 O (fun hlt => ?_) (fun hlt => ?_))
 ·
  refine Gs 5 O (zjn O (fun hx0 => ?_) (fun hx0 => ?_))
  ·
   obtain ⟨s, he_s, hm_s⟩ := gE_ l (i) (by omega)
   obtain ⟨b_s, o_s, c_s, ha_s, _, hc_s, hR_s⟩ := hl.at he_s
   have h1_s := RSt.one hR_s
   obtain ⟨v1_s, v2_s, v3_s, v4_s, rfl, hk_s, ht_s, hs_s, hb_s⟩ := hR_s.get
   obtain ⟨a1_s, n1_s, rfl⟩ := hk_s.form
   obtain ⟨a2_s, n2_s, rfl⟩ := ht_s.form
   obtain ⟨a3_s, n3_s, rfl⟩ := hs_s.form
   obtain ⟨a4_s, n4_s, rfl⟩ := hb_s.form
   have hlt_s : b_s < _ := zn2 _ _ (hc_s 0 _ rfl)
   have hsp := zeh he_s
   have hss := zd4 he_s
   have hbe := s.bulk_eq
   have hyes : (zw (l.take i) : Int) <= left /\ x = left - zw (l.take i) := by
    by_cases h4 : (zw (l.take i) : Int) <= left
    . exact ⟨h4, hy h4⟩
    . have := hn h4; omega
   have hbm := hb_s.max
   refine Gs 8 O (zlg O O (zk6 tR54 ts134 O O ha_s (by omega)) (Gs 1 O (zlm O tg132 ts132 (hc_s.sub 4 3) O (Ga 2 O (by omega) (G.call O Tryz.call94 (zap s.term _ D _ (x - 1) (RTm.put hk_s) (by omega) (by omega)) ?_)))))
   rintro _ wz1 ⟨⟨m1, rfl, hm1, hm2⟩, hz1⟩
   obtain ⟨hl, hL1, hc_s, hk_s, ht_s, hs_s, hb_s⟩ := Tr7 hz1 hl hL1 hc_s hk_s ht_s hs_s hb_s
   refine Gs 9 O (zlg O O (zk6 tR54 ts134 O O ha_s (by omega)) (Gs 1 O (zlk O tg31 (hc_s 9 _ O) (Gs 4 O (zjn O (fun hb => ?_) (fun hb => ?_))))))
   ·
    refine Gs 12 O (zjH Tryz.results93 O ⟨_, rfl, ⟨-1, rfl, fun h3 => ?_, fun h3 => by omega⟩, hL1⟩)
    by_cases h5 : (s.term.nodes : Int) <= x - 1
    . have := hm1 h5; omega
    . omega
   ·
    have h5 : (s.term.nodes : Int) <= x - 1 := by
     by_cases h5 : (s.term.nodes : Int) <= x - 1
     . exact h5
     . have := hm2 h5; omega
    have hm := hm1 h5
    refine Gs 2 O (Dw (fun q => Ext wz1 q) [] (fun wd2 hD _ => ?_))
    refine Ds [0, 1] (by kernel_rfl) O (zkt 2 O (by kernel_rfl) O O O (fun w1 => zk6 tR54 ts134 O O ha_s (by omega)) (Ds [3] (by kernel_rfl) O (WD.take 4 O (by kernel_rfl) O O O hD (fun w1 hw1 => R.load tg54 O (hw1.cells hc_s (fun h => h) 8 _ O)) (Ds [5, 6] (by kernel_rfl) O (zkt 7 O (by kernel_rfl) O O O (fun w1 => zk6 tR54 ts134 O O ha_s (by omega)) (Ds [8] (by kernel_rfl) O (WD.take 9 O (by kernel_rfl) O O O hD (fun w1 hw1 => R.load tg54 O (hw1.cells hc_s (fun h => h) 7 _ O)) ?_)))))))
    refine Ds [10, 11, 12] (by kernel_rfl) O (zkt 13 O (by kernel_rfl) O O O (fun w1 => zk6 tR54 ts134 O O ha_s (by omega)) (Ds [14] (by kernel_rfl) O (WD.take 15 O (by kernel_rfl) O O O hD (fun w1 hw1 => R.load tg31 O (hw1.cells hc_s (fun h => h) 9 _ O)) (Da [16, 17] (by kernel_rfl) O (by omega) (WD.call 18 O (by kernel_rfl) O O O (F.call (vs := [_, _]) Tryz.call93 O) ((ih s hm_s).1 _ D _ (m1 - s.bounds.length) (ht_s.ext zf hD) (by omega) (by omega)) ?_)))))
    rintro _ wz3 ⟨⟨m2, rfl, h6, h7⟩, hz3⟩
    replace hD := hD.ext hz3
    refine ⟨fun _ => hD, ?_⟩
    refine WD.call 19 O (by kernel_rfl) O O O (F.call (vs := [_, _]) Tryz.call93 O) ((ih s hm_s).2 _ D _ m2 (hs_s.ext zf hD) (by by_cases h : (zw s.thn : Int) <= m1 - s.bounds.length <;> first | (have := h6 h; omega) | (have := h7 h; omega)) (by by_cases h : (zw s.thn : Int) <= m1 - s.bounds.length <;> first | (have := h6 h; omega) | (have := h7 h; omega))) ?_
    rintro _ wz4 ⟨⟨m3, rfl, h8, h9⟩, hz4⟩
    replace hD := hD.ext hz4
    refine ⟨fun _ => hD, ?_⟩
    refine Ds [20] (by kernel_rfl) O (G.done (by kernel_rfl) ?_ _)
    obtain ⟨hl, hL1, hc_s, hk_s, ht_s, hs_s, hb_s⟩ := Tr7 hD hl hL1 hc_s hk_s ht_s hs_s hb_s
    refine Ga 7 O (by omega) (zjy ((i + 1, m3)) (zkZ O) (⟨by omega, ?_, ?_, hL1⟩) (by first | omega | (dsimp only; omega)))
    ·
     intro h3
     rw [hsp] at h3 ⊢
     have := h6 (by omega)
     rw [h8 (by omega)]; omega
    ·
     intro h3
     rw [hsp] at h3
     by_cases h : (zw s.thn : Int) <= m1 - s.bounds.length
     ·
      have := h6 h
      by_cases h' : (zw s.els : Int) <= m2
      . have := h8 h'; omega
      . have := h9 h'; omega
     ·
      have := h7 h
      by_cases h' : (zw s.els : Int) <= m2
      . omega
      . have := h9 h'; omega
  . refine Gs 12 O (zjH Tryz.results93 O ⟨_, rfl, ⟨x, rfl, hend (.inr (by omega))⟩, hL1⟩)
 . refine Gs 18 O (zjH Tryz.results93 O ⟨_, rfl, ⟨x, rfl, hend (.inl (by omega))⟩, hL1⟩)
theorem zdK (f : Fl) (a b : Int) (v1 v2 v3 : Value) (D : Nat -> Prop) (w : World) (h : RFl D w f v1 v2 v3) (hb : 0 <= b /\ b <= 1000000) (ha : a <= 1000) : Calls Tryz.prog 62 #[.agg #[v1, v2, v3], .int .i64 a, .int .i64 b] w (Ret fun r w' => r = .bool (decide ((f.vars.length : Int) <= a /\ (f.hatches.length : Int) <= a /\ ((zw f.body + zG f.hatches : Nat) : Int) <= b)) /\ Ext w w') := by
 obtain ⟨hv, hh, hbd⟩ := h
 obtain ⟨a1, n1, rfl⟩ := hv.form
 obtain ⟨a2, n2, rfl⟩ := hh.form
 obtain ⟨a3, n3, rfl⟩ := hbd.form
 have hmx := hh.max
 have hE := Keep.refl (fun _ => False) w
 refine zls Tryz.func62 O Tryz.ntmps62 O (Gs 2 O (zkf O O (M.box O O) ?_))
 rintro _ w_g ⟨g, rfl, hg_g, hs_g, hB_g, hk_g⟩
 have hge_g : _ <= g := zn6 hE.size (Nat.le_of_eq hg_g.symm)
 obtain ⟨hE, hh, hbd⟩ := Tr3 hk_g hE hh hbd
 refine Gs 7 O (zlk O tg52 (hB_g.cells 0 _ O) (Gs 4 O (zlb 15 O (fun h1 => ?_) (fun h1 => ?_))))
 . refine Gs 16 O (zjH Tryz.results62 O ⟨_, rfl, by rw [znd (by omega)], hE⟩)
 ·
  refine Gs 1 O (zlk O tg53 (hB_g.cells 1 _ O) (Gs 6 O (zjn O (fun h2 => ?_) (fun h2 => ?_))))
  . refine Gs 7 O (zjH Tryz.results62 O ⟨_, rfl, by rw [znd (by omega)], hE⟩)
  ·
   refine Gs 5 O (zlk O tg54 (hB_g.cells 2 _ O) (Gs 1 O (G.call O Tryz.call93 (zce f.body _ D _ b hbd (by omega) (by omega)) ?_)))
   rintro _ wz1 ⟨⟨m, rfl, hm1, hm2⟩, hz1⟩
   obtain ⟨hE, hh, hbd, hB_g⟩ := Tr4 hz1 hE hh hbd hB_g
   refine Gs 7 O (zlk O tg53 (hB_g.cells 1 _ O) (Gs 5 O (G.loop (σ := Nat × Int) (fun ⟨i, x⟩ => [(7, .int .i64 x), (27, .slice a2 f.hatches.length n2), (28, .int .i64 f.hatches.length), (29, .int .i64 i)]) (fun ⟨i, x⟩ => fun w' => i <= f.hatches.length /\ (((zw f.body + zG (f.hatches.take i) : Nat) : Int) <= b -> x = b - (zw f.body + zG (f.hatches.take i) : Nat)) /\ (¬ ((zw f.body + zG (f.hatches.take i) : Nat) : Int) <= b -> x < 0 /\ -1 - (i : Int) <= x) /\ Ext wz1 w') (fun ⟨i, x⟩ => f.hatches.length - i) ((0, m)) (zkZ O) (⟨znf _, fun h => by simp [zG] at h ⊢; omega, fun h => by simp [zG] at h ⊢; omega, Keep.refl _ _⟩) ?_)))
   rintro ⟨i, x⟩ w1 ⟨hi, hy, hn, hL1⟩
   show G _ _ _ _ _ [(7, .int .i64 x), (27, .slice a2 f.hatches.length n2), (28, .int .i64 f.hatches.length), (29, .int .i64 i)] _
   obtain ⟨hE, hh, hbd, hB_g⟩ := Tr4 hL1 hE hh hbd hB_g
   refine Gs 6 O (zjn O (fun hlt => ?_) (fun hlt => ?_))
   ·
    obtain ⟨e, he_e, hm_e⟩ := gE_ f.hatches (i) (by omega)
    obtain ⟨b_e, o_e, c_e, ha_e, _, hc_e, hR_e⟩ := hh.at he_e
    have h1_e := RHt.one hR_e
    obtain ⟨v1_e, rfl, hk_e⟩ := hR_e
    obtain ⟨a1_e, n1_e, rfl⟩ := hk_e.form
    have hlt_e : b_e < _ := zn2 _ _ (hc_e 0 _ rfl)
    have hsp := ja he_e
    refine Gs 6 O (zlg O O (zk6 tR53 ts137 O O ha_e (by omega)) (zlm O tg137 ts137 hc_e O (zkf O O (M.alloc (cs := _) tz137 O) ?_)))
    rintro _ wa2 ⟨c, rfl, hg_c, hs_c, hB_c, hk_c⟩
    refine zki O (zkj ts137 O O O O h1_e hB_c (by simp)) ?_
    rintro w_c ⟨_, hB_c, hkk_c⟩
    replace hk_c := hk_c.trans hkk_c (fun q hq h => by have h : q = c := h; omega)
    have hn_g_c : g ≠ c := by have := hB_g.lt; omega
    have hge_c : _ <= c := zn6 hE.size (Nat.le_of_eq hg_c.symm)
    obtain ⟨hE, hh, hbd, hB_g, hL1, hc_e, hk_e⟩ := Tr7 hk_c hE hh hbd hB_g hL1 hc_e hk_e
    refine Gs 4 O (zlm O tg132 ts132 (hB_c.cells.sub 3 3) O (Gs 1 O (G.call O Tryz.call94 (zap e.term _ D _ x (RTm.put hk_e) (by by_cases h4 : ((zw f.body + zG (f.hatches.take i) : Nat) : Int) <= b <;> first | (have := hy h4; omega) | (have := hn h4; omega)) (by by_cases h4 : ((zw f.body + zG (f.hatches.take i) : Nat) : Int) <= b <;> first | (have := hy h4; omega) | (have := hn h4; omega))) ?_)))
    rintro _ wz3 ⟨⟨m2, rfl, h6, h7⟩, hz3⟩
    obtain ⟨hE, hh, hbd, hB_g, hL1, hc_e, hk_e⟩ := Tr7 hz3 hE hh hbd hB_g hL1 hc_e hk_e
    replace hB_c := Tr1 hz3 hB_c
    refine Ga 8 O (by omega) (zjy ((i + 1, m2)) (zkZ O) (⟨by omega, ?_, ?_, hL1⟩) (by first | omega | (dsimp only; omega)))
    ·
     intro h3
     rw [hsp] at h3 ⊢
     have := hy (by omega)
     rw [h6 (by omega)]; omega
    ·
     intro h3
     rw [hsp] at h3
     by_cases h4 : ((zw f.body + zG (f.hatches.take i) : Nat) : Int) <= b
     ·
      have := hy h4
      have := h7 (by omega)
      omega
     ·
      have := hn h4
      have := h7 (by omega)
      omega
   ·
    have : i = f.hatches.length := by omega
    subst this
    rw [zn5] at hy hn
    refine Gs 13 O (zjH Tryz.results62 O ⟨_, rfl, ?_, hE⟩)
    congr 1
    by_cases h4 : ((zw f.body + zG f.hatches : Nat) : Int) <= b
    . rw [znc (by have := hy h4; omega), znc (by omega)]
    . rw [znd (by have := hn h4; omega), znd (by omega)]
def zp (op : Int) : Int := if op = 0 \/ op = 24 then 0 else if op = 6 \/ op = 7 then 1 else if 8 <= op /\ op <= 22 then 2 else if op = 23 then 3 else if op = 25 then -2 else -1
theorem zei (op : Int) (w : World) : Calls Tryz.prog 143 #[.int .i64 op] w (Ret fun r w' => r = .int .i64 (zp op) /\ Ext w w') := by
 refine zlq Tryz.func143 O Tryz.ntmps143 O (Gs 19 O (zjn O (fun k0 => ?_) (fun k0 => ?_)))
 . refine Gs 11 O (zjH tr143 O ⟨_, rfl, by unfold zp; repeat (first | rw [znb (by omega)] | rw [zna (by omega)]), Keep.refl _ _⟩)
 ·
  refine Gs 5 O (zjn O (fun k24 => ?_) (fun k24 => ?_))
  . refine Gs 8 O (zjH tr143 O ⟨_, rfl, by unfold zp; repeat (first | rw [znb (by omega)] | rw [zna (by omega)]), Keep.refl _ _⟩)
  ·
   refine Gs 7 O (zjn O (fun k6 => ?_) (fun k6 => ?_))
   . refine Gs 11 O (zjH tr143 O ⟨_, rfl, by unfold zp; repeat (first | rw [znb (by omega)] | rw [zna (by omega)]), Keep.refl _ _⟩)
   ·
    refine Gs 5 O (zjn O (fun k7 => ?_) (fun k7 => ?_))
    . refine Gs 8 O (zjH tr143 O ⟨_, rfl, by unfold zp; repeat (first | rw [znb (by omega)] | rw [zna (by omega)]), Keep.refl _ _⟩)
    ·
     refine Gs 7 O (zjn O (fun k8 => ?_) (fun k8 => ?_))
     . refine Gs 11 O (zjH tr143 O ⟨_, rfl, by unfold zp; repeat (first | rw [znb (by omega)] | rw [zna (by omega)]), Keep.refl _ _⟩)
     ·
      refine Gs 6 O (zjn O (fun k9 => ?_) (fun k9 => ?_))
      . refine Gs 11 O (zjH tr143 O ⟨_, rfl, by unfold zp; repeat (first | rw [znb (by omega)] | rw [zna (by omega)]), Keep.refl _ _⟩)
      ·
       refine Gs 6 O (zjn O (fun k10 => ?_) (fun k10 => ?_))
       . refine Gs 11 O (zjH tr143 O ⟨_, rfl, by unfold zp; repeat (first | rw [znb (by omega)] | rw [zna (by omega)]), Keep.refl _ _⟩)
       ·
        refine Gs 6 O (zjn O (fun k11 => ?_) (fun k11 => ?_))
        . refine Gs 11 O (zjH tr143 O ⟨_, rfl, by unfold zp; repeat (first | rw [znb (by omega)] | rw [zna (by omega)]), Keep.refl _ _⟩)
        ·
         refine Gs 6 O (zjn O (fun k12 => ?_) (fun k12 => ?_))
         . refine Gs 11 O (zjH tr143 O ⟨_, rfl, by unfold zp; repeat (first | rw [znb (by omega)] | rw [zna (by omega)]), Keep.refl _ _⟩)
         ·
          refine Gs 6 O (zjn O (fun k13 => ?_) (fun k13 => ?_))
          . refine Gs 11 O (zjH tr143 O ⟨_, rfl, by unfold zp; repeat (first | rw [znb (by omega)] | rw [zna (by omega)]), Keep.refl _ _⟩)
          ·
           refine Gs 6 O (zjn O (fun k14 => ?_) (fun k14 => ?_))
           . refine Gs 11 O (zjH tr143 O ⟨_, rfl, by unfold zp; repeat (first | rw [znb (by omega)] | rw [zna (by omega)]), Keep.refl _ _⟩)
           ·
            refine Gs 6 O (zjn O (fun k15 => ?_) (fun k15 => ?_))
            . refine Gs 11 O (zjH tr143 O ⟨_, rfl, by unfold zp; repeat (first | rw [znb (by omega)] | rw [zna (by omega)]), Keep.refl _ _⟩)
            ·
             refine Gs 6 O (zjn O (fun k16 => ?_) (fun k16 => ?_))
             . refine Gs 11 O (zjH tr143 O ⟨_, rfl, by unfold zp; repeat (first | rw [znb (by omega)] | rw [zna (by omega)]), Keep.refl _ _⟩)
             ·
              refine Gs 6 O (zjn O (fun k17 => ?_) (fun k17 => ?_))
              . refine Gs 11 O (zjH tr143 O ⟨_, rfl, by unfold zp; repeat (first | rw [znb (by omega)] | rw [zna (by omega)]), Keep.refl _ _⟩)
              ·
               refine Gs 6 O (zjn O (fun k18 => ?_) (fun k18 => ?_))
               . refine Gs 11 O (zjH tr143 O ⟨_, rfl, by unfold zp; repeat (first | rw [znb (by omega)] | rw [zna (by omega)]), Keep.refl _ _⟩)
               ·
                refine Gs 6 O (zjn O (fun k19 => ?_) (fun k19 => ?_))
                . refine Gs 11 O (zjH tr143 O ⟨_, rfl, by unfold zp; repeat (first | rw [znb (by omega)] | rw [zna (by omega)]), Keep.refl _ _⟩)
                ·
                 refine Gs 6 O (zjn O (fun k20 => ?_) (fun k20 => ?_))
                 . refine Gs 11 O (zjH tr143 O ⟨_, rfl, by unfold zp; repeat (first | rw [znb (by omega)] | rw [zna (by omega)]), Keep.refl _ _⟩)
                 ·
                  refine Gs 6 O (zjn O (fun k21 => ?_) (fun k21 => ?_))
                  . refine Gs 11 O (zjH tr143 O ⟨_, rfl, by unfold zp; repeat (first | rw [znb (by omega)] | rw [zna (by omega)]), Keep.refl _ _⟩)
                  ·
                   refine Gs 5 O (zjn O (fun k22 => ?_) (fun k22 => ?_))
                   . refine Gs 8 O (zjH tr143 O ⟨_, rfl, by unfold zp; repeat (first | rw [znb (by omega)] | rw [zna (by omega)]), Keep.refl _ _⟩)
                   ·
                    refine Gs 6 O (zjn O (fun k23 => ?_) (fun k23 => ?_))
                    . refine Gs 8 O (zjH tr143 O ⟨_, rfl, by unfold zp; repeat (first | rw [znb (by omega)] | rw [zna (by omega)]), Keep.refl _ _⟩)
                    ·
                     refine Gs 6 O (zjn O (fun k25 => ?_) (fun k25 => ?_))
                     . refine Gs 8 O (zjH tr143 O ⟨_, rfl, by unfold zp; repeat (first | rw [znb (by omega)] | rw [zna (by omega)]), Keep.refl _ _⟩)
                     . refine Gs 9 O (zjH tr143 O ⟨_, rfl, by unfold zp; repeat (first | rw [znb (by omega)] | rw [zna (by omega)]), Keep.refl _ _⟩)
theorem zd6 (op : Int) (w : World) : Calls Tryz.prog 211 #[.int .i64 op] w (Ret fun r w' => (∃ a b : Int, r = .tuple #[.int .i64 a, .int .i64 b] /\ (a < 0 ↔ zp op = -1) /\ (0 <= zp op -> a = zp op /\ b = zp op) /\ (zp op = -2 -> a = 2 /\ b = 33)) /\ Ext w w') := by
 refine zlq Tryz.func211 O Tryz.ntmps211 O (Gs 13 O (zlb 7 O (fun h1 => ?_) (fun h1 => ?_)))
 ·
  refine Gs 16 O ?_
  have e : zp op = 0 := by unfold zp; rw [znb (by omega)]
  refine zjK tr211 O O ⟨_, rfl, ⟨0, 0, rfl, by rw [e]; omega, fun _ => by rw [e]; exact ⟨rfl, rfl⟩, fun h => by rw [e] at h; omega⟩, Keep.refl _ _⟩
 ·
  refine Gs 6 O (zjn O (fun h2 => ?_) (fun h2 => ?_))
  ·
   refine Gs 9 O ?_
   have e : zp op = 0 := by unfold zp; rw [znb (by omega)]
   refine zjK tr211 O O ⟨_, rfl, ⟨0, 0, rfl, by rw [e]; omega, fun _ => by rw [e]; exact ⟨rfl, rfl⟩, fun h => by rw [e] at h; omega⟩, Keep.refl _ _⟩
  ·
   refine Gs 5 O (zlb 14 O (fun h3 => ?_) (fun h3 => ?_))
   ·
    refine Gs 16 O ?_
    have e : zp op = 1 := by unfold zp; rw [zna (by omega), znb (by omega)]
    refine zjK tr211 O O ⟨_, rfl, ⟨1, 1, rfl, by rw [e]; omega, fun _ => by rw [e]; exact ⟨rfl, rfl⟩, fun h => by rw [e] at h; omega⟩, Keep.refl _ _⟩
   ·
    refine Gs 6 O (zjn O (fun h4 => ?_) (fun h4 => ?_))
    ·
     refine Gs 9 O ?_
     have e : zp op = 1 := by unfold zp; rw [zna (by omega), znb (by omega)]
     refine zjK tr211 O O ⟨_, rfl, ⟨1, 1, rfl, by rw [e]; omega, fun _ => by rw [e]; exact ⟨rfl, rfl⟩, fun h => by rw [e] at h; omega⟩, Keep.refl _ _⟩
    ·
     refine Gs 1 O (zjB (σ := Bool) (fun q => [(0, .int .i64 op), (18, .bool q)]) (fun q => fun w' => (q = true ↔ 8 <= op /\ op <= 22) /\ w' = w) ?_ ?_)
     ·
      refine Gs 4 O (zlb 21 O (fun h5 => ?_) (fun h5 => ?_))
      . refine Gs 5 O (zjD (decide (op <= 22)) (zkZ O) (⟨by simp; omega, rfl⟩))
      . refine Gs 5 O (zjD (false) (Sub.cons O (Sub.cons (by first | rfl | (show some (Value.bool false) = some (Value.bool _); simp [*])) Sub.nil)) (⟨by simp; omega, rfl⟩))
     ·
      rintro q w1 ⟨hq, hw1⟩
      subst hw1
      refine Gs 1 O (G.bool O (fun h6 => ?_) (fun h6 => ?_))
      ·
       have h7 := hq.1 h6
       refine Gs 9 O ?_
       have e : zp op = 2 := by unfold zp; rw [zna (by omega), zna (by omega), znb (by omega)]
       refine zjK tr211 O O ⟨_, rfl, ⟨2, 2, rfl, by rw [e]; omega, fun _ => by rw [e]; exact ⟨rfl, rfl⟩, fun h => by rw [e] at h; omega⟩, Keep.refl _ _⟩
      ·
       have h7 : ¬ (8 <= op /\ op <= 22) := fun h => by rw [hq.2 h] at h6; cases h6
       refine Gs 7 O (zjn O (fun h8 => ?_) (fun h8 => ?_))
       ·
        refine Gs 9 O ?_
        have e : zp op = 3 := by unfold zp; rw [zna (by omega), zna (by omega), zna (by omega), znb (by omega)]
        refine zjK tr211 O O ⟨_, rfl, ⟨3, 3, rfl, by rw [e]; omega, fun _ => by rw [e]; exact ⟨rfl, rfl⟩, fun h => by rw [e] at h; omega⟩, Keep.refl _ _⟩
       ·
        refine Gs 7 O (zjn O (fun h9 => ?_) (fun h9 => ?_))
        ·
         refine Gs 9 O ?_
         have e : zp op = -2 := by unfold zp; rw [zna (by omega), zna (by omega), zna (by omega), zna (by omega), znb (by omega)]
         refine zjK tr211 O O ⟨_, rfl, ⟨2, 33, rfl, by rw [e]; omega, fun h => by rw [e] at h; omega, fun _ => ⟨rfl, rfl⟩⟩, Keep.refl _ _⟩
        ·
         refine Gs 10 O ?_
         have e : zp op = -1 := by unfold zp; rw [zna (by omega), zna (by omega), zna (by omega), zna (by omega), zna (by omega)]
         refine zjK tr211 O O ⟨_, rfl, ⟨-1, -1, rfl, by rw [e]; omega, fun h => by rw [e] at h; omega, fun h => by rw [e] at h; omega⟩, Keep.refl _ _⟩
@[irreducible] def xf (n : Int) : Bool := decide (97 <= n /\ n <= 122)
@[irreducible] def yH (n : Int) : Bool := decide (48 <= n /\ n <= 57 \/ n = 46 \/ n = 95)
def okB (i : Nat) (n : Int) : Bool := xf n || (decide (i ≠ 0) && yH n)
@[irreducible] def zaq (s : ByteArray) : Bool := decide (1 <= s.size /\ s.size <= 40 /\ ∀ (i : Nat) (h : i < s.size), okB i (s[i].toNat : Int) = true)
theorem kC (s : ByteArray) (w : World) : Calls Tryz.prog 78 #[.string s] w (Ret fun r w' => r = .bool (zaq s) /\ Ext w w') := by
 refine zlq Tryz.func78 O Tryz.ntmps78 O (Gs 12 O (zlb 10 O (fun h1 => ?_) (fun h1 => ?_)))
 . refine Gs 14 O (zjH tr78 O ⟨_, rfl, by rw [zaq, znd (fun h => by omega)], Keep.refl _ _⟩)
 ·
  refine Gs 6 O (zjn O (fun h2 => ?_) (fun h2 => ?_))
  . refine Gs 7 O (zjH tr78 O ⟨_, rfl, by rw [zaq, znd (fun h => by omega)], Keep.refl _ _⟩)
  ·
   refine Gs 9 O (G.loop (σ := Nat) (fun i => [(0, .string s), (3, .int .i64 i)]) (fun i => fun w' => i <= s.size /\ (∀ (j : Nat) (h : j < s.size), j < i -> okB j (s[j].toNat : Int) = true) /\ w' = w) (fun i => s.size - i) (0) (zkZ O) (⟨znf _, fun j _ h => absurd h (Nat.not_lt_zero _), rfl⟩) ?_)
   rintro i w1 ⟨hi, hall, hw1⟩
   subst hw1
   refine Gs 9 O (zjn O (fun hlt => ?_) (fun hlt => ?_))
   ·
    have hlt' : i < s.size := by omega
    refine Gs 8 O (zlg O O (zkN tu9 O O i O hlt') ?_)
    obtain ⟨n, hn⟩ : ∃ n : Int, n = (s[i].toNat : Int) := ⟨_, rfl⟩
    rw [<- hn]
    refine Gs 4 O (zjB (σ := Bool) (fun q => [(0, .string s), (3, .int .i64 i), (4, .int .u8 n), (5, .bool q)]) (fun q => fun w' => q = xf n /\ w' = w1) ?_ ?_)
    ·
     refine Gs 4 O (zlb 26 O (fun a => ?_) (fun a => ?_))
     . refine Gs 5 O (zjD (decide (n <= 122)) (zkZ O) (⟨by unfold xf; congr 1; simp; omega, rfl⟩))
     . refine Gs 5 O (zjD (false) (Sub.cons O (Sub.cons O (Sub.cons O (Sub.cons (by first | rfl | (show some (Value.bool false) = some (Value.bool _); simp [*])) Sub.nil)))) (⟨by unfold xf; rw [znd (by omega)], rfl⟩))
    rintro q w2 ⟨hq, hw2⟩
    subst hq
    refine Gs 2 O (zjB (σ := Bool) (fun q => [(0, .string s), (3, .int .i64 i), (5, .bool (xf n)), (6, .bool q)]) (fun q => fun w' => q = yH n /\ w' = w2) ?_ ?_)
    ·
     refine Gs 4 O (zlb 32 O (fun a => ?_) (fun a => ?_))
     ·
      refine Gs 4 O (zlb 36 O (fun b => ?_) (fun b => ?_))
      . refine Gs 9 O (zjD (true) (Sub.cons O (Sub.cons O (Sub.cons O (Sub.cons (by first | rfl | (show some (Value.bool true) = some (Value.bool _); simp [*])) Sub.nil)))) (⟨by unfold yH; rw [znc (by omega)], rfl⟩))
      ·
       refine Gs 4 O (zlb 40 O (fun c => ?_) (fun c => ?_))
       . refine Gs 5 O (zjD (true) (Sub.cons O (Sub.cons O (Sub.cons O (Sub.cons (by first | rfl | (show some (Value.bool true) = some (Value.bool _); simp [*])) Sub.nil)))) (⟨by unfold yH; rw [znc (by omega)], rfl⟩))
       . refine Gs 5 O (zjD (decide (n = 95)) (zkZ O) (⟨by unfold yH; congr 1; simp; omega, rfl⟩))
     ·
      refine Gs 8 O (zlb 40 O (fun c => ?_) (fun c => ?_))
      . refine Gs 5 O (zjD (true) (Sub.cons O (Sub.cons O (Sub.cons O (Sub.cons (by first | rfl | (show some (Value.bool true) = some (Value.bool _); simp [*])) Sub.nil)))) (⟨by unfold yH; rw [znc (by omega)], rfl⟩))
      . refine Gs 5 O (zjD (decide (n = 95)) (zkZ O) (⟨by unfold yH; congr 1; simp; omega, rfl⟩))
    rintro q w3 ⟨hq, hw3⟩
    subst hq
    have hstep : okB i n = true -> ∀ (j : Nat) (h : j < s.size), j < i + 1 -> okB j (s[j].toNat : Int) = true := by
     intro h0 j h h1
     by_cases e : j = i
     . subst e; rw [<- hn]; exact h0
     . exact hall j h (by omega)
    have hbad : okB i n = false -> zaq s = false := by
     intro h0
     rw [zaq, znd]
     rintro ⟨_, _, h3⟩
     have := h3 i hlt'
     rw [<- hn, h0] at this
     cases this
    have hw : w3 = w1 := by rw [hw3, hw2]
    refine Gs 4 O (zlg O O (zkJ O (by first | exact za | rfl)) (Gs 1 O (zle 46 O (fun l => ?_) (fun l => ?_))))
    ·
     have l' : xf n = false := by simpa using l
     refine Gs 3 O (zlb 49 O (fun z => ?_) (fun z => ?_))
     . refine Gs 18 O (zjH tr78 O ⟨_, rfl, by rw [hbad (by unfold okB; rw [l', znd (by omega)]; rfl)], by rw [hw]; exact Keep.refl _ _⟩)
     ·
      have z' : decide (i ≠ 0) = true := znc (by omega)
      refine Gs 1 O (zlg O O (zkJ O (by first | exact za | rfl)) (Gs 4 O (G.bool O (fun o => ?_) (fun o => ?_))))
      ·
       have o' : yH n = false := by simpa using o
       refine Gs 11 O (zjH tr78 O ⟨_, rfl, by rw [hbad (by unfold okB; rw [l', o']; simp)], by rw [hw]; exact Keep.refl _ _⟩)
      ·
       have o' : yH n = true := by simpa using o
       refine Ga 8 O (by omega) (zjy (i + 1) (zkZ O) (⟨by omega, hstep (by unfold okB; rw [o', z']; simp), hw⟩) (by first | omega | (dsimp only; omega)))
    ·
     have l' : xf n = true := by simpa using l
     refine Ga 18 O (by omega) (zjy (i + 1) (zkZ O) (⟨by omega, hstep (by unfold okB; rw [l']; rfl), hw⟩) (by first | omega | (dsimp only; omega)))
   . refine Gs 11 O (zjH tr78 O ⟨_, rfl, by rw [zaq, znc ⟨by omega, by omega, fun j h => hall j h (by omega)⟩], Keep.refl _ _⟩)
theorem jA (s : ByteArray) (w : World) : Calls Tryz.prog 182 #[.string s] w (Ret fun r w' => r = .bool (zaq s) /\ Ext w w') := by
 refine zlq Tryz.func182 O Tryz.ntmps182 O (Gs 11 O (zlb 8 O (fun h1 => ?_) (fun h1 => ?_)))
 ·
  have h1' : s.size = 0 := by
   have := congrArg List.length h1
   rw [ByteArray.toList_eq] at this
   simpa using this
  refine Gs 14 O (zjH tr182 O ⟨_, rfl, by rw [zaq, znd (fun h => by omega)], Keep.refl _ _⟩)
 ·
  have h1' : s.size ≠ 0 := by
   intro h
   apply h1
   have : s.toList.length = 0 := by rw [ByteArray.toList_eq]; simpa using h
   rw [List.eq_nil_of_length_eq_zero this, ByteArray.toList_eq]
  refine Gs 6 O (zjn O (fun h2 => ?_) (fun h2 => ?_))
  . refine Gs 7 O (zjH tr182 O ⟨_, rfl, by rw [zaq, znd (fun h => by omega)], Keep.refl _ _⟩)
  ·
   refine Gs 11 O (G.loop (σ := Nat) (fun i => [(0, .string s), (14, .int .i64 s.size), (15, .int .i64 i)]) (fun i => fun w' => i <= s.size /\ (∀ (j : Nat) (h : j < s.size), j < i -> okB j (s[j].toNat : Int) = true) /\ w' = w) (fun i => s.size - i) (0) (zkZ O) (⟨znf _, fun j _ h => absurd h (Nat.not_lt_zero _), rfl⟩) ?_)
   rintro i w1 ⟨hi, hall, hw1⟩
   subst hw1
   refine Gs 6 O (zjn O (fun hlt => ?_) (fun hlt => ?_))
   ·
    have hlt' : i < s.size := by omega
    refine Gs 14 O (zlg O O (zkN tu9 O O i O hlt') ?_)
    obtain ⟨n, hn⟩ : ∃ n : Int, n = (s[i].toNat : Int) := ⟨_, rfl⟩
    rw [<- hn]
    refine Gs 4 O (zjB (σ := Bool) (fun q => [(0, .string s), (14, .int .i64 s.size), (15, .int .i64 i), (3, .int .i64 i), (4, .int .u8 n), (5, .bool q)]) (fun q => fun w' => q = xf n /\ w' = w1) ?_ ?_)
    ·
     refine Gs 4 O (zlb 23 O (fun a => ?_) (fun a => ?_))
     . refine Gs 5 O (zjD (decide (n <= 122)) (zkZ O) (⟨by unfold xf; congr 1; simp; omega, rfl⟩))
     . refine Gs 5 O (zjD (false) (Sub.cons O (Sub.cons O (Sub.cons O (Sub.cons O (Sub.cons O (Sub.cons (by first | rfl | (show some (Value.bool false) = some (Value.bool _); simp [*])) Sub.nil)))))) (⟨by unfold xf; rw [znd (by omega)], rfl⟩))
    rintro q w3 ⟨hq, hw⟩
    subst hq
    have hstep : okB i n = true -> ∀ (j : Nat) (h : j < s.size), j < i + 1 -> okB j (s[j].toNat : Int) = true := by
     intro h0 j h h1
     by_cases e : j = i
     . subst e; rw [<- hn]; exact h0
     . exact hall j h (by omega)
    have hbad : okB i n = false -> zaq s = false := by
     intro h0
     rw [zaq, znd]
     rintro ⟨_, _, h3⟩
     have := h3 i hlt'
     rw [<- hn, h0] at this
     cases this
    refine Gs 4 O (zlg O O (zkJ O (by first | exact za | rfl)) (Gs 1 O (zle 29 O (fun l => ?_) (fun l => ?_))))
    ·
     have l' : xf n = false := by simpa using l
     refine Gs 3 O (zlb 32 O (fun z => ?_) (fun z => ?_))
     . refine Gs 30 O (zjH tr182 O ⟨_, rfl, by rw [hbad (by unfold okB; rw [l', znd (by omega)]; rfl)], by rw [hw]; exact Keep.refl _ _⟩)
     ·
      have z' : decide (i ≠ 0) = true := znc (by omega)
      have fin : (yH n = false -> False) -> okB i n = true := fun h => by
       unfold okB; rw [z']
       cases ho : yH n
       . exact (h ho).elim
       . simp
      have bad : yH n = false -> zaq s = false := fun h => hbad (by unfold okB; rw [l', h]; simp)
      refine Gs 3 O (zlb 35 O (fun a => ?_) (fun a => ?_))
      ·
       refine Gs 8 O (zlb 43 O (fun b => ?_) (fun b => ?_))
       ·
        refine Gs 7 O (zjn O (fun c => ?_) (fun c => ?_))
        ·
         have ho : yH n = false := by unfold yH; exact znd (by omega)
         refine Gs 11 O (zjH tr182 O ⟨_, rfl, by rw [bad ho], by rw [hw]; exact Keep.refl _ _⟩)
        . refine Ga 7 O (by omega) (zjy (i + 1) (zkZ O) (⟨by omega, hstep (fin (fun h => by unfold yH at h; have := of_decide_eq_false h; omega)), hw⟩) (by first | omega | (dsimp only; omega)))
       . refine Ga 15 O (by omega) (zjy (i + 1) (zkZ O) (⟨by omega, hstep (fin (fun h => by unfold yH at h; have := of_decide_eq_false h; omega)), hw⟩) (by first | omega | (dsimp only; omega)))
      ·
       refine Gs 4 O (zlb 39 O (fun b0 => ?_) (fun b0 => ?_))
       ·
        refine Gs 4 O (zlb 43 O (fun b => ?_) (fun b => ?_))
        ·
         refine Gs 7 O (zjn O (fun c => ?_) (fun c => ?_))
         ·
          have ho : yH n = false := by unfold yH; exact znd (by omega)
          refine Gs 11 O (zjH tr182 O ⟨_, rfl, by rw [bad ho], by rw [hw]; exact Keep.refl _ _⟩)
         . refine Ga 7 O (by omega) (zjy (i + 1) (zkZ O) (⟨by omega, hstep (fin (fun h => by unfold yH at h; have := of_decide_eq_false h; omega)), hw⟩) (by first | omega | (dsimp only; omega)))
        . refine Ga 15 O (by omega) (zjy (i + 1) (zkZ O) (⟨by omega, hstep (fin (fun h => by unfold yH at h; have := of_decide_eq_false h; omega)), hw⟩) (by first | omega | (dsimp only; omega)))
       . refine Ga 19 O (by omega) (zjy (i + 1) (zkZ O) (⟨by omega, hstep (fin (fun h => by unfold yH at h; have := of_decide_eq_false h; omega)), hw⟩) (by first | omega | (dsimp only; omega)))
    ·
     have l' : xf n = true := by simpa using l
     refine Ga 29 O (by omega) (zjy (i + 1) (zkZ O) (⟨by omega, hstep (by unfold okB; rw [l']; rfl), hw⟩) (by first | omega | (dsimp only; omega)))
   . refine Gs 11 O (zjH tr182 O ⟨_, rfl, by rw [zaq, znc ⟨by omega, by omega, fun j h => hall j h (by omega)⟩], Keep.refl _ _⟩)
@[irreducible] def zaV (low high : Int) : Bool := decide (low <= high /\ -1048576 <= low /\ high <= 1048576)
theorem jB (a b : Int) (w : World) : Calls Tryz.prog 79 #[.int .i64 a, .int .i64 b] w (Ret fun r w' => r = .bool (zaV a b) /\ Ext w w') := by
 refine zlr Tryz.func79 O Tryz.ntmps79 O (Gs 11 O (zlb 8 O (fun h1 => ?_) (fun h1 => ?_)))
 ·
  refine Gs 4 O (zlb 12 O (fun h2 => ?_) (fun h2 => ?_))
  . refine Gs 7 O (zjH Tryz.results79 O ⟨_, rfl, by unfold zaV; congr 2; simp; omega, Keep.refl _ _⟩)
  . refine Gs 7 O (zjH Tryz.results79 O ⟨_, rfl, by rw [zaV, znd (by omega)], Keep.refl _ _⟩)
 . refine Gs 11 O (zjH Tryz.results79 O ⟨_, rfl, by rw [zaV, znd (by omega)], Keep.refl _ _⟩)
theorem qU (a b : Int) (w : World) : Calls Tryz.prog 183 #[.int .i64 a, .int .i64 b] w (Ret fun r w' => r = .bool (zaV a b) /\ Ext w w') := by
 refine zlr Tryz.func183 O Tryz.ntmps183 O (Gs 11 O (zlb 8 O (fun h1 => ?_) (fun h1 => ?_)))
 ·
  refine Gs 4 O (zlb 12 O (fun h2 => ?_) (fun h2 => ?_))
  . refine Gs 7 O (zjH Tryz.results183 O ⟨_, rfl, by unfold zaV; congr 2; simp; omega, Keep.refl _ _⟩)
  . refine Gs 7 O (zjH Tryz.results183 O ⟨_, rfl, by rw [zaV, znd (by omega)], Keep.refl _ _⟩)
 . refine Gs 11 O (zjH Tryz.results183 O ⟨_, rfl, by rw [zaV, znd (by omega)], Keep.refl _ _⟩)
def yE (op : Int) (n : Nat) : Bool := if 0 <= zp op then decide ((n : Int) = zp op) else decide (zp op = -2 /\ 2 <= n /\ n <= 33)
def jX (vs : List Vr) (n : Int) : Bool := match vs[n.toNat]? with
 | some v => decide (v.kind = 0)
 | none => false
def xP (vs : List Vr) (inputs : Bool) (op n : Int) : Bool := if op = 24 then decide (0 <= n /\ n < vs.length) && !(inputs && jX vs n) else decide (op = 0 \/ n = 0)
mutual
def zx (vs : List Vr) (inputs : Bool) : Tm -> Bool
 | .mk op n ks => yE op ks.length && xP vs inputs op n && zZ vs inputs ks
def zZ (vs : List Vr) (inputs : Bool) : List Tm -> Bool
 | [] => true
 | k :: r => zx vs inputs k && zZ vs inputs r
end
section
variable {vs : List Vr} {inp : Bool}
theorem yN (t : Tm) : zx vs inp t = (yE t.op t.kids.length && xP vs inp t.op t.n && zZ vs inp t.kids) := by cases t; rw [zx]; rfl
theorem qV (a b : List Tm) : zZ vs inp (a ++ b) = (zZ vs inp a && zZ vs inp b) := by
 induction a with
 | nil => simp [zZ]
 | cons x r ih => simp [zZ, ih, Bool.and_assoc]
theorem kD {l : List Tm} {i : Nat} {x : Tm} (h : l[i]? = some x) : zZ vs inp (l.take (i + 1)) = (zZ vs inp (l.take i) && zx vs inp x) := by rw [zg h, qV]; simp [zZ]
theorem yd {l : List Tm} {x : Tm} (h : zZ vs inp l = true) (hx : x ∈ l) : zx vs inp x = true := by
 obtain ⟨i, hi⟩ := List.mem_iff_getElem?.1 hx
 rw [yR hi, qV] at h
 simp [zZ] at h
 exact h.2.1
theorem zar {l : List Tm} {x : Tm} (hx : x ∈ l) (h : zx vs inp x = false) : zZ vs inp l = false := by
 cases h1 : zZ vs inp l with
 | false => rfl
 | true => rw [yd h1 hx] at h; cases h
theorem yl {op : Int} {n : Nat} (h : zp op = -1 \/ (0 <= zp op /\ (n : Int) ≠ zp op) \/ (zp op = -2 /\ (n < 2 \/ 33 < n))) : yE op n = false := by
 unfold yE
 split
 . exact znd (by omega)
 . exact znd (by omega)
theorem xY {op : Int} {n : Nat} (h : (0 <= zp op /\ (n : Int) = zp op) \/ (zp op = -2 /\ 2 <= n /\ n <= 33)) : yE op n = true := by
 unfold yE
 split
 . exact znc (by omega)
 . exact znc (by omega)
theorem qK (op : Int) : zp op = 0 \/ zp op = 1 \/ zp op = 2 \/ zp op = 3 \/ zp op = -2 \/ zp op = -1 := by
 unfold zp; (repeat' split); all_goals omega
theorem zb3 {n : Int} (h : 0 <= n /\ n < vs.length) {v : Vr} (hv : vs[n.toNat]? = some v) : xP vs inp 24 n = !(inp && decide (v.kind = 0)) := by
 unfold xP jX
 rw [znb rfl, znc h, hv, Bool.true_and]
theorem zb4 {n : Int} (h : ¬ (0 <= n /\ n < vs.length)) : xP vs inp 24 n = false := by
 unfold xP
 rw [znb rfl, znd h]; rfl
theorem jb {op n : Int} (h : op ≠ 24) : xP vs inp op n = decide (op = 0 \/ n = 0) := by
 unfold xP
 rw [zna h]
end
theorem zcf (vs : List Vr) (inp : Bool) (vv : Value) (Dv : Nat -> Prop) (t : Tm) : ∀ (cs : List Value) (D : Nat -> Prop) (w : World), SlR 5 RVr Dv w vv vs -> RTm D w t cs -> Calls Tryz.prog 109 #[vv, .agg cs.toArray, .bool inp] w (Ret fun r w' => r = .bool (zx vs inp t) /\ Ext w w') := by
 induction t using zkQ with
 | h t ih =>
 intro cs D w hvs ht
 obtain ⟨v, rfl, hk⟩ := ht.get
 have hmx := hk.max
 obtain ⟨ao, cap, rfl⟩ := hk.form
 obtain ⟨av, nv, rfl⟩ := hvs.form
 have hfe := yN (vs := vs) (inp := inp) t
 have hkv := qK t.op
 have hE := Keep.refl (fun _ => False) w
 refine zls Tryz.func109 O Tryz.ntmps109 O (Gs 2 O (zkf O O (M.box O O) ?_))
 rintro _ w_b ⟨b, rfl, hg_b, hs_b, hB_b, hk_b⟩
 have hge_b : _ <= b := zn6 hE.size (Nat.le_of_eq hg_b.symm)
 obtain ⟨hE, hvs, hk⟩ := Tr3 hk_b hE hvs hk
 refine Gs 6 O (zlk O tg129 (hB_b.cells 0 _ O) (G.call O Tryz.call143 (zei t.op _) ?_))
 rintro _ wz1 ⟨rfl, hz1⟩
 obtain ⟨hE, hvs, hk, hB_b⟩ := Tr4 hz1 hE hvs hk hB_b
 refine Gs 5 O (zjB (σ := Bool) (fun q => [(0, .slice av vs.length nv), (2, .bool inp), (4, .pointer (some ⟨b, 0, none⟩)), (40, .bool q)]) (fun q => fun w' => q = (!yE t.op t.kids.length) /\ w' = wz1) ?_ ?_)
 ·
  refine Gs 4 O (zlb 14 O (fun h1 => ?_) (fun h1 => ?_))
  . refine Gs 27 O (zjD (true) (Sub.cons O (Sub.cons O (Sub.cons O (Sub.cons (by first | rfl | (show some (Value.bool true) = some (Value.bool _); simp [*])) Sub.nil)))) (⟨by rw [yl (.inl h1)]; rfl, rfl⟩))
  ·
   refine Gs 3 O (zlb 17 O (fun h2 => ?_) (fun h2 => ?_))
   ·
    refine Gs 1 O (zlk O tg130 (hB_b.cells 2 _ O) (Gs 6 O (zlb 25 O (fun h3 => ?_) (fun h3 => ?_))))
    . refine Gs 16 O (zjD (true) (Sub.cons O (Sub.cons O (Sub.cons O (Sub.cons (by first | rfl | (show some (Value.bool true) = some (Value.bool _); simp [*])) Sub.nil)))) (⟨by rw [yl (.inr (.inl ⟨by omega, h3⟩))]; rfl, rfl⟩))
    ·
     refine Gs 3 O (zlb 28 O (fun h4 => ?_) (fun h4 => ?_))
     . exact absurd h4 (by omega)
     . refine Gs 13 O (zjD (false) (Sub.cons O (Sub.cons O (Sub.cons O (Sub.cons (by first | rfl | (show some (Value.bool false) = some (Value.bool _); simp [*])) Sub.nil)))) (⟨by rw [xY (.inl ⟨by omega, by omega⟩)]; rfl, rfl⟩))
   ·
    refine Gs 11 O (zlb 28 O (fun h4 => ?_) (fun h4 => ?_))
    ·
     refine Gs 1 O (zlk O tg130 (hB_b.cells 2 _ O) (Gs 3 O (zlb 33 O (fun h5 => ?_) (fun h5 => ?_))))
     . refine Gs 8 O (zjD (true) (Sub.cons O (Sub.cons O (Sub.cons O (Sub.cons (by first | rfl | (show some (Value.bool true) = some (Value.bool _); simp [*])) Sub.nil)))) (⟨by rw [yl (.inr (.inr ⟨h4, by omega⟩))]; rfl, rfl⟩))
     ·
      refine Gs 1 O (zlk O tg130 (hB_b.cells 2 _ O) (Gs 6 O (zjD (decide ((33 : Int) < (t.kids.length : Int))) (zkZ O) (⟨?_, rfl⟩))))
      by_cases h6 : (33 : Int) < (t.kids.length : Int)
      . rw [yl (.inr (.inr ⟨h4, by omega⟩)), znc h6]; rfl
      . rw [xY (.inr ⟨h4, by omega, by omega⟩), znd h6]; rfl
    . exact absurd h4 (by omega)
 rintro q w2 ⟨hq, hw2⟩
 subst hw2
 refine Gs 1 O (G.bool O (fun hq1 => ?_) (fun hq1 => ?_))
 ·
  have hf : yE t.op t.kids.length = false := by rw [hq1] at hq; simpa using hq.symm
  refine Gs 7 O (zjH tr109 O ⟨_, rfl, by rw [hfe, hf]; rfl, hE⟩)
 ·
  have hf : yE t.op t.kids.length = true := by rw [hq1] at hq; simpa using hq.symm
  rw [hf, Bool.true_and] at hfe
  refine Gs 6 O (zlk O tg129 (hB_b.cells 0 _ O) (Gs 3 O (zjB (σ := Unit) (fun u => [(0, .slice av vs.length nv), (2, .bool inp), (4, .pointer (some ⟨b, 0, none⟩))]) (fun u => fun w' => xP vs inp t.op t.n = true /\ w' = w2) ?_ ?_)))
  ·
   refine zjn O (fun h24 => ?_) (fun h24 => ?_)
   ·
    have hrn : ¬ (0 <= t.n /\ t.n < vs.length) -> zx vs inp t = false := fun h => by rw [hfe, h24, zb4 h]; rfl
    refine Gs 3 O (zlk O tg3 (hB_b.cells 1 _ O) (Gs 2 O (zlb 47 O (fun n0 => ?_) (fun n0 => ?_))))
    . refine Gs 29 O (zjH tr109 O ⟨_, rfl, by rw [hrn (by omega)], hE⟩)
    ·
     refine Gs 1 O (zlk O tg3 (hB_b.cells 1 _ O) (Gs 5 O (zlb 54 O (fun n1 => ?_) (fun n1 => ?_))))
     . refine Gs 22 O (zjH tr109 O ⟨_, rfl, by rw [hrn (by omega)], hE⟩)
     ·
      obtain ⟨x, he_x, hm_x⟩ := gE_ vs (t.n.toNat) (by omega)
      obtain ⟨b_x, o_x, c_x, ha_x, _, hc_x, hR_x⟩ := hvs.at he_x
      have h1_x := RVr.one hR_x
      obtain rfl := hR_x
      have hlt_x : b_x < _ := zn2 _ _ (hc_x 0 _ rfl)
      have hrf := zb3 (vs := vs) (inp := inp) (n := t.n) ⟨by omega, by omega⟩ he_x
      refine Gs 2 O (zle 56 O (fun hi => ?_) (fun hi => ?_))
      ·
       refine Gs 2 O (zlk O tg3 (hB_b.cells 1 _ O) (zlg O O (zk6 tR52 ts120 O O ha_x (by omega)) (Gs 1 O (zlk O tg89 (hc_x 1 _ O) (Gs 5 O (zjn O (fun hk0 => ?_) (fun hk0 => ?_)))))))
       . refine Gs 8 O (zjH tr109 O ⟨_, rfl, by rw [hfe, h24, hrf, hi, znc hk0]; rfl, hE⟩)
       . refine Gs 1 O (zjD (()) (zkZ O) (⟨by rw [h24, hrf, hi, znd hk0]; rfl, rfl⟩))
      . refine Gs 13 O (zjD (()) (zkZ O) (⟨by rw [h24, hrf, hi]; rfl, rfl⟩))
   ·
    have hrf := jb (vs := vs) (inp := inp) (n := t.n) h24
    refine Gs 3 O (zlk O tg129 (hB_b.cells 0 _ O) (Gs 2 O (zlb 69 O (fun o0 => ?_) (fun o0 => ?_))))
    ·
     refine Gs 1 O (zlk O tg3 (hB_b.cells 1 _ O) (Gs 4 O (zjn O (fun n0 => ?_) (fun n0 => ?_))))
     . refine Gs 8 O (zjH tr109 O ⟨_, rfl, by rw [hfe, hrf, znd (by omega)]; rfl, hE⟩)
     . refine Gs 1 O (zjD (()) (zkZ O) (⟨by rw [hrf, znc (by omega)], rfl⟩))
    . refine Gs 8 O (zjD (()) (zkZ O) (⟨by rw [hrf, znc (by omega)], rfl⟩))
  rintro u w3 ⟨hrf, hw3⟩
  subst hw3
  rw [hrf, Bool.true_and] at hfe
  refine Gs 8 O (G.loop (σ := Nat) (fun i => [(0, .slice av vs.length nv), (2, .bool inp), (4, .pointer (some ⟨b, 0, none⟩)), (8, .int .i64 i)]) (fun i => fun w' => i <= t.kids.length /\ zZ vs inp (t.kids.take i) = true /\ Ext w3 w') (fun i => t.kids.length - i) (0) (zkZ O) (⟨znf _, by simp [zZ], Keep.refl _ _⟩) ?_)
  rintro i w4 ⟨hi, hall, hL1⟩
  obtain ⟨hE, hvs, hk, hB_b⟩ := Tr4 hL1 hE hvs hk hB_b
  refine Gs 5 O (zlk O tg130 (hB_b.cells 2 _ O) (Gs 4 O (zjn O (fun hlt => ?_) (fun hlt => ?_))))
  ·
   obtain ⟨k, he_k, hm_k⟩ := gE_ t.kids (i) (by omega)
   obtain ⟨b_k, o_k, c_k, ha_k, _, hc_k, hR_k⟩ := hk.at he_k
   have h1_k := RTm.one hR_k
   obtain ⟨v1_k, rfl, hk_k⟩ := hR_k.get
   obtain ⟨a1_k, n1_k, rfl⟩ := hk_k.form
   have hlt_k : b_k < _ := zn2 _ _ (hc_k 0 _ rfl)
   refine Gs 8 O (zlk O tg130 (hB_b.cells 2 _ O) (Gs 1 O (zlg O O (zk6 tR130 ts132 O O ha_k (by omega)) (zlm O tg132 ts132 hc_k O (Gs 1 O (G.call O Tryz.call109 (ih k hm_k _ D _ hvs (RTm.put hk_k)) ?_))))))
   rintro _ wz2 ⟨rfl, hz2⟩
   obtain ⟨hE, hvs, hk, hB_b, hL1, hc_k, hk_k⟩ := Tr7 hz2 hE hvs hk hB_b hL1 hc_k hk_k
   refine zlg O O (zkJ O (by first | exact za | rfl)) (Gs 2 O (G.bool O (fun hb => ?_) (fun hb => ?_)))
   ·
    have hb' : zx vs inp k = false := by simpa using hb
    refine Gs 11 O (zjH tr109 O ⟨_, rfl, by rw [hfe, zar hm_k hb'], hE⟩)
   ·
    have hb' : zx vs inp k = true := by simpa using hb
    refine Ga 8 O (by omega) (zjy (i + 1) (zkZ O) (⟨by omega, by rw [kD he_k, hall, hb']; rfl, hL1⟩) (by first | omega | (dsimp only; omega)))
  ·
   have : i = t.kids.length := by omega
   subst this
   rw [zn5] at hall
   refine Gs 11 O (zjH tr109 O ⟨_, rfl, by rw [hfe, hall], hE⟩)
theorem zbr (vs : List Vr) (inp : Bool) (vv : Value) (Dv : Nat -> Prop) (t : Tm) : ∀ (cs : List Value) (D : Nat -> Prop) (w : World), SlR 5 RVr Dv w vv vs -> RTm D w t cs -> Calls Tryz.prog 198 #[vv, .agg cs.toArray, .bool inp] w (Ret fun r w' => r = .bool (zx vs inp t) /\ Ext w w') := by
 induction t using zkQ with
 | h t ih =>
 intro cs D w hvs ht
 have hcs1 := ht.one
 obtain ⟨v, rfl, hk⟩ := ht.get
 have hmx := hk.max
 obtain ⟨ao, cap, rfl⟩ := hk.form
 obtain ⟨av, nv, rfl⟩ := hvs.form
 have hfe := yN (vs := vs) (inp := inp) t
 have hkv := qK t.op
 have hE := Keep.refl (fun _ => False) w
 refine zls Tryz.func198 O Tryz.ntmps198 O (Gs 2 O (zkf O O (M.box O O) ?_))
 rintro _ w_b ⟨b, rfl, hg_b, hs_b, hB_b, hk_b⟩
 have hge_b : _ <= b := zn6 hE.size (Nat.le_of_eq hg_b.symm)
 obtain ⟨hE, hvs, hk⟩ := Tr3 hk_b hE hvs hk
 refine Gs 6 O (zlk O tg129 (hB_b.cells 0 _ O) (G.call O Tryz.call211 (zd6 t.op _) ?_))
 rintro _ wz1 ⟨⟨la, mo, rfl, hk1, hk2, hk3⟩, hz1⟩
 obtain ⟨hE, hvs, hk, hB_b⟩ := Tr4 hz1 hE hvs hk hB_b
 refine Gs 9 O (zjB (σ := Bool) (fun q => [(0, .slice av vs.length nv), (2, .bool inp), (4, .pointer (some ⟨b, 0, none⟩)), (32, .bool q)]) (fun q => fun w' => q = (!yE t.op t.kids.length) /\ w' = wz1) ?_ ?_)
 ·
  refine Gs 4 O (zlb 19 O (fun h1 => ?_) (fun h1 => ?_))
  . refine Gs 14 O (zjD (true) (Sub.cons O (Sub.cons O (Sub.cons O (Sub.cons (by first | rfl | (show some (Value.bool true) = some (Value.bool _); simp [*])) Sub.nil)))) (⟨by rw [yl (.inl (hk1.1 h1))]; rfl, rfl⟩))
  ·
   have h1' : zp t.op ≠ -1 := fun h => h1 (hk1.2 h)
   refine Gs 1 O (zlk O tg130 (hB_b.cells 2 _ O) (Gs 5 O (zlb 26 O (fun h2 => ?_) (fun h2 => ?_))))
   ·
    refine Gs 7 O (zjD (true) (Sub.cons O (Sub.cons O (Sub.cons O (Sub.cons (by first | rfl | (show some (Value.bool true) = some (Value.bool _); simp [*])) Sub.nil)))) (⟨?_, rfl⟩))
    rcases (show 0 <= zp t.op \/ zp t.op = -2 by omega) with h | h
    ·
     have := hk2 h
     rw [yl (.inr (.inl ⟨h, by omega⟩))]; rfl
    ·
     have := hk3 h
     rw [yl (.inr (.inr ⟨h, by omega⟩))]; rfl
   ·
    refine Gs 1 O (zlk O tg130 (hB_b.cells 2 _ O) (Gs 5 O (zjD (decide (mo < (t.kids.length : Int))) (zkZ O) (⟨?_, rfl⟩))))
    rcases (show 0 <= zp t.op \/ zp t.op = -2 by omega) with h | h
    ·
     have := hk2 h
     by_cases h3 : mo < (t.kids.length : Int)
     . rw [yl (.inr (.inl ⟨h, by omega⟩)), znc h3]; rfl
     . rw [xY (.inl ⟨h, by omega⟩), znd h3]; rfl
    ·
     have := hk3 h
     by_cases h3 : mo < (t.kids.length : Int)
     . rw [yl (.inr (.inr ⟨h, by omega⟩)), znc h3]; rfl
     . rw [xY (.inr ⟨h, by omega, by omega⟩), znd h3]; rfl
 rintro q w2 ⟨hq, hw2⟩
 subst hw2
 refine Gs 1 O (G.bool O (fun hq1 => ?_) (fun hq1 => ?_))
 ·
  have hf : yE t.op t.kids.length = false := by rw [hq1] at hq; simpa using hq.symm
  refine Gs 7 O (zjH tr198 O ⟨_, rfl, by rw [hfe, hf]; rfl, hE⟩)
 ·
  have hf : yE t.op t.kids.length = true := by rw [hq1] at hq; simpa using hq.symm
  rw [hf, Bool.true_and] at hfe
  refine Gs 6 O (zlk O tg129 (hB_b.cells 0 _ O) (Gs 2 O (zjB (σ := Unit) (fun u => [(0, .slice av vs.length nv), (2, .bool inp), (4, .pointer (some ⟨b, 0, none⟩))]) (fun u => fun w' => xP vs inp t.op t.n = true /\ w' = w2) ?_ ?_)))
  ·
   refine Gs 7 O (zjn O (fun h0 => ?_) (fun h0 => ?_))
   ·
    have hrf := jb (vs := vs) (inp := inp) (n := t.n) (show t.op ≠ 24 by omega)
    refine Gs 2 O (zjD (()) (zkZ O) (⟨by rw [hrf, znc (by omega)], rfl⟩))
   ·
    refine Gs 6 O (zjn O (fun h24 => ?_) (fun h24 => ?_))
    ·
     have hrn : ¬ (0 <= t.n /\ t.n < vs.length) -> zx vs inp t = false := fun h => by rw [hfe, h24, zb4 h]; rfl
     refine Gs 3 O (zlk O tg3 (hB_b.cells 1 _ O) (Gs 2 O (zlb 45 O (fun n0 => ?_) (fun n0 => ?_))))
     . refine Gs 30 O (zjH tr198 O ⟨_, rfl, by rw [hrn (by omega)], hE⟩)
     ·
      refine Gs 1 O (zlk O tg3 (hB_b.cells 1 _ O) (Gs 5 O (zlb 52 O (fun n1 => ?_) (fun n1 => ?_))))
      . refine Gs 23 O (zjH tr198 O ⟨_, rfl, by rw [hrn (by omega)], hE⟩)
      ·
       obtain ⟨x, he_x, hm_x⟩ := gE_ vs (t.n.toNat) (by omega)
       obtain ⟨b_x, o_x, c_x, ha_x, _, hc_x, hR_x⟩ := hvs.at he_x
       have h1_x := RVr.one hR_x
       obtain rfl := hR_x
       have hlt_x : b_x < _ := zn2 _ _ (hc_x 0 _ rfl)
       have hrf := zb3 (vs := vs) (inp := inp) (n := t.n) ⟨by omega, by omega⟩ he_x
       refine Gs 2 O (zle 54 O (fun hi => ?_) (fun hi => ?_))
       ·
        refine Gs 2 O (zlk O tg3 (hB_b.cells 1 _ O) (zlg O O (zk6 tR52 ts120 O O ha_x (by omega)) (Gs 1 O (zlk O tg89 (hc_x 1 _ O) (Gs 5 O (zjn O (fun hk0 => ?_) (fun hk0 => ?_)))))))
        . refine Gs 9 O (zjH tr198 O ⟨_, rfl, by rw [hfe, h24, hrf, hi, znc hk0]; rfl, hE⟩)
        . refine Gs 2 O (zjD (()) (zkZ O) (⟨by rw [h24, hrf, hi, znd hk0]; rfl, rfl⟩))
       . refine Gs 14 O (zjD (()) (zkZ O) (⟨by rw [h24, hrf, hi]; rfl, rfl⟩))
    ·
     have hrf := jb (vs := vs) (inp := inp) (n := t.n) h24
     refine Gs 3 O (zlk O tg3 (hB_b.cells 1 _ O) (Gs 3 O (zjn O (fun n0 => ?_) (fun n0 => ?_))))
     . refine Gs 9 O (zjH tr198 O ⟨_, rfl, by rw [hfe, hrf, znd (by omega)]; rfl, hE⟩)
     . refine Gs 2 O (zjD (()) (zkZ O) (⟨by rw [hrf, znc (by omega)], rfl⟩))
  rintro u w3 ⟨hrf, hw3⟩
  subst hw3
  rw [hrf, Bool.true_and] at hfe
  refine Gs 5 O (zlk O tg130 (hB_b.cells 2 _ O) (Gs 5 O (G.loop (σ := Nat) (fun i => [(0, .slice av vs.length nv), (2, .bool inp), (65, .slice ao t.kids.length cap), (66, .int .i64 t.kids.length), (67, .int .i64 i)]) (fun i => fun w' => i <= t.kids.length /\ zZ vs inp (t.kids.take i) = true /\ Ext w3 w') (fun i => t.kids.length - i) (0) (zkZ O) (⟨znf _, by simp [zZ], Keep.refl _ _⟩) ?_)))
  rintro i w4 ⟨hi, hall, hL1⟩
  obtain ⟨hE, hvs, hk, hB_b⟩ := Tr4 hL1 hE hvs hk hB_b
  refine Gs 6 O (zjn O (fun hlt => ?_) (fun hlt => ?_))
  ·
   obtain ⟨k, he_k, hm_k⟩ := gE_ t.kids (i) (by omega)
   obtain ⟨b_k, o_k, c_k, ha_k, _, hc_k, hR_k⟩ := hk.at he_k
   have h1_k := RTm.one hR_k
   obtain ⟨v1_k, rfl, hk_k⟩ := hR_k.get
   obtain ⟨a1_k, n1_k, rfl⟩ := hk_k.form
   have hlt_k : b_k < _ := zn2 _ _ (hc_k 0 _ rfl)
   refine Gs 6 O (zlg O O (zk6 tR130 ts132 O O ha_k (by omega)) (zlm O tg132 ts132 hc_k O (zkf O O (M.alloc (cs := _) tz132 O) ?_)))
   rintro _ wa2 ⟨c, rfl, hg_c, hs_c, hB_c, hk_c⟩
   refine zki O (zkj ts132 O O O O h1_k hB_c (by simp)) ?_
   rintro w_c ⟨_, hB_c, hkk_c⟩
   replace hk_c := hk_c.trans hkk_c (fun q hq h => by have h : q = c := h; omega)
   have hn_b_c : b ≠ c := by have := hB_b.lt; omega
   have hge_c : _ <= c := zn6 hE.size (Nat.le_of_eq hg_c.symm)
   obtain ⟨hE, hvs, hk, hB_b, hL1, hc_k, hk_k⟩ := Tr7 hk_c hE hvs hk hB_b hL1 hc_k hk_k
   refine Gs 5 O (zlm O tg132 ts132 hB_c.cells O (Gs 1 O (G.call O Tryz.call198 (ih k hm_k _ D _ hvs (RTm.put hk_k)) ?_)))
   rintro _ wz3 ⟨rfl, hz3⟩
   obtain ⟨hE, hvs, hk, hB_b, hL1, hc_k, hk_k⟩ := Tr7 hz3 hE hvs hk hB_b hL1 hc_k hk_k
   replace hB_c := Tr1 hz3 hB_c
   refine zlg O O (zkJ O (by first | exact za | rfl)) (Gs 2 O (G.bool O (fun hb => ?_) (fun hb => ?_)))
   ·
    have hb' : zx vs inp k = false := by simpa using hb
    refine Gs 11 O (zjH tr198 O ⟨_, rfl, by rw [hfe, zar hm_k hb'], hE⟩)
   ·
    have hb' : zx vs inp k = true := by simpa using hb
    refine Ga 7 O (by omega) (zjy (i + 1) (zkZ O) (⟨by omega, by rw [kD he_k, hall, hb']; rfl, hL1⟩) (by first | omega | (dsimp only; omega)))
  ·
   have : i = t.kids.length := by omega
   subst this
   rw [zn5] at hall
   refine Gs 11 O (zjH tr198 O ⟨_, rfl, by rw [hfe, hall], hE⟩)
open Go.GL
abbrev Rg := Int × Int
def okR (r : Rg) : Bool := decide (-1048576 <= r.1 /\ r.2 <= 1048576)
def yg (r : Rg) : Prop := -1048576 <= r.1 /\ r.1 <= r.2 /\ r.2 <= 1048576
def yP (x : Rg) (l : List Rg) : Rg := l.foldl (fun o r => (min o.1 r.1, max o.2 r.2)) x
def xm (a b : Rg) : Rg := yP (a.1 * b.1, a.1 * b.1) [(a.1 * b.2, a.1 * b.2), (a.2 * b.1, a.2 * b.1), (a.2 * b.2, a.2 * b.2)]
theorem jY {x : Rg} {l : List Rg} {i : Nat} {r : Rg} (h : l[i]? = some r) : yP x (l.take (i + 1)) = (min (yP x (l.take i)).1 r.1, max (yP x (l.take i)).2 r.2) := by
 rw [zg h]; simp [yP]
theorem kE {x y : Int} (hx : -1048576 <= x /\ x <= 1048576) (hy : -1048576 <= y /\ y <= 1048576) : -1099511627776 <= x * y /\ x * y <= 1099511627776 := by
 have h1 := Int.natAbs_mul x y
 have h2 : x.natAbs * y.natAbs <= 1048576 * 1048576 := Nat.mul_le_mul (by omega) (by omega)
 omega
theorem zeY (a b : Rg) (w : World) : Calls Tryz.prog 217 #[.agg #[.int .i64 a.1, .int .i64 a.2], .agg #[.int .i64 b.1, .int .i64 b.2]] w (Ret fun r w' => r = .agg #[.int .i64 (min a.1 b.1), .int .i64 (max a.2 b.2)] /\ Ext w w') := by
 have hE := Keep.refl (fun _ => False) w
 refine zlr Tryz.func217 O Tryz.ntmps217 O (Gs 2 O (zkf O O (M.box O O) ?_))
 rintro _ w_x ⟨x, rfl, hg_x, hs_x, hB_x, hk_x⟩
 have hge_x : _ <= x := zn6 hE.size (Nat.le_of_eq hg_x.symm)
 replace hE := Tr1 hk_x hE
 refine zkf O O (M.box O O) ?_
 rintro _ w_y ⟨y, rfl, hg_y, hs_y, hB_y, hk_y⟩
 have hn_x_y : x ≠ y := by have := hB_x.lt; omega
 have hge_y : _ <= y := zn6 hE.size (Nat.le_of_eq hg_y.symm)
 obtain ⟨hE, hB_x⟩ := Tr2 hk_y hE hB_x
 refine zkf O O (M.alloc (cs := _) tz255 O) ?_
 rintro _ w_r ⟨r, rfl, hg_r, hs_r, hB_r, hk_r⟩
 have hn_x_r : x ≠ r := by have := hB_x.lt; omega
 have hn_y_r : y ≠ r := by have := hB_y.lt; omega
 have hge_r : _ <= r := zn6 hE.size (Nat.le_of_eq hg_r.symm)
 obtain ⟨hE, hB_x, hB_y⟩ := Tr3 hk_r hE hB_x hB_y
 refine Gs 5 O (zlk O tg3 (hB_x.cells 0 _ O) (Gs 1 O (zlk O tg3 (hB_y.cells 0 _ O) (Gs 2 O (zlk O tg3 (hB_x.cells 1 _ O) (Gs 1 O (zlk O tg3 (hB_y.cells 1 _ O) (Gs 1 O (zlg O O (R.build (v := .agg #[.int .i64 (min a.1 b.1), .int .i64 (max a.2 b.2)]) [(0, _), (1, _)] O (fun _ => by kernel_rfl)) (zki O (zkj ts255 O O O O (by simp [Value.oneCell']) hB_r (by simp)) ?_))))))))))
 rintro wf ⟨_, hBf, hkf⟩
 refine Gs 3 O (zjP Tryz.results217 O (zr tg255 ts255 O hBf.cells) ?_)
 exact ⟨_, rfl, rfl, hE.trans hkf (fun q hq h => by have h : q = r := h; omega)⟩
theorem zbs (a b : Int) (w : World) (ha : -1048576 <= a /\ a <= 1048576) (hb : -1048576 <= b /\ b <= 1048576) : Calls Tryz.prog 216 #[.int .i64 a, .int .i64 b] w (Ret fun r w' => r = .int .i64 (a * b) /\ Ext w w') := by
 have := kE ha hb
 refine zlr Tryz.func216 O Tryz.ntmps216 O (Ga 14 O (by omega) (zjH Tryz.results216 O ⟨_, rfl, rfl, Keep.refl _ _⟩))
theorem zej (a b : Rg) (w : World) (ha : yg a) (hb : yg b) : Calls Tryz.prog 215 #[.agg #[.int .i64 a.1, .int .i64 a.2], .agg #[.int .i64 b.1, .int .i64 b.2], .func (.func 216) #[] #[]] w (Ret fun r w' => r = .agg #[.int .i64 (xm a b).1, .int .i64 (xm a b).2] /\ Ext w w') := by
 unfold yg at ha hb
 have hE := Keep.refl (fun _ => False) w
 refine zls Tryz.func215 O Tryz.ntmps215 O (Gs 2 O (zkf O O (M.box O O) ?_))
 rintro _ w_x ⟨x, rfl, hg_x, hs_x, hB_x, hk_x⟩
 have hge_x : _ <= x := zn6 hE.size (Nat.le_of_eq hg_x.symm)
 replace hE := Tr1 hk_x hE
 refine zkf O O (M.box O O) ?_
 rintro _ w_y ⟨y, rfl, hg_y, hs_y, hB_y, hk_y⟩
 have hn_x_y : x ≠ y := by have := hB_x.lt; omega
 have hge_y : _ <= y := zn6 hE.size (Nat.le_of_eq hg_y.symm)
 obtain ⟨hE, hB_x⟩ := Tr2 hk_y hE hB_x
 refine zkf O O (M.alloc (cs := _) tz255 O) ?_
 rintro _ w_r ⟨r, rfl, hg_r, hs_r, hB_r, hk_r⟩
 have hn_x_r : x ≠ r := by have := hB_x.lt; omega
 have hn_y_r : y ≠ r := by have := hB_y.lt; omega
 have hge_r : _ <= r := zn6 hE.size (Nat.le_of_eq hg_r.symm)
 obtain ⟨hE, hB_x, hB_y⟩ := Tr3 hk_r hE hB_x hB_y
 refine Gs 6 O (zlk O tg3 (hB_x.cells 0 _ O) (Gs 1 O (zlk O tg3 (hB_y.cells 0 _ O) (zkc O Tryz.call216 (zbs a.1 b.1 _ (by omega) (by omega)) ?_))))
 rintro _ wz1 ⟨rfl, hz1⟩
 obtain ⟨hE, hB_x, hB_y, hB_r⟩ := Tr4 hz1 hE hB_x hB_y hB_r
 refine Gs 7 O (zlg O O (R.build (v := .agg #[.int .i64 (a.1 * b.1), .int .i64 (a.1 * b.1)]) [(0, _), (1, _)] O (fun _ => by kernel_rfl)) (zkf O O (M.alloc (cs := _) tz255 O) ?_))
 rintro _ wa2 ⟨o, rfl, hg_o, hs_o, hB_o, hk_o⟩
 refine zki O (zkj ts255 O O O O (by simp [Value.oneCell']) hB_o (by simp)) ?_
 rintro w_o ⟨_, hB_o, hkk_o⟩
 replace hk_o := hk_o.trans hkk_o (fun q hq h => by have h : q = o := h; omega)
 have hn_x_o : x ≠ o := by have := hB_x.lt; omega
 have hn_y_o : y ≠ o := by have := hB_y.lt; omega
 have hn_r_o : r ≠ o := by have := hB_r.lt; omega
 have hge_o : _ <= o := zn6 hE.size (Nat.le_of_eq hg_o.symm)
 obtain ⟨hE, hB_x, hB_y, hB_r⟩ := Tr4 hk_o hE hB_x hB_y hB_r
 refine Gs 4 O (Dw (fun q => Ext w_o q) [] (fun wd3 hD _ => ?_))
 refine Ds [0, 1] (by kernel_rfl) O (WD.take 2 O (by kernel_rfl) O O O hD (fun w1 hw1 => R.load tg3 O ((hw1.blk hB_x (fun h => h)).cells 0 _ O)) (Ds [3] (by kernel_rfl) O (WD.take 4 O (by kernel_rfl) O O O hD (fun w1 hw1 => R.load tg3 O ((hw1.blk hB_y (fun h => h)).cells 1 _ O)) (Ds [6, 7] (by kernel_rfl) O (WD.take 8 O (by kernel_rfl) O O O hD (fun w1 hw1 => R.load tg3 O ((hw1.blk hB_x (fun h => h)).cells 1 _ O)) (Ds [9] (by kernel_rfl) O (WD.take 10 O (by kernel_rfl) O O O hD (fun w1 hw1 => R.load tg3 O ((hw1.blk hB_y (fun h => h)).cells 0 _ O)) ?_)))))))
 refine Ds [12, 13] (by kernel_rfl) O (WD.take 14 O (by kernel_rfl) O O O hD (fun w1 hw1 => R.load tg3 O ((hw1.blk hB_x (fun h => h)).cells 1 _ O)) (Ds [15] (by kernel_rfl) O (WD.take 16 O (by kernel_rfl) O O O hD (fun w1 hw1 => R.load tg3 O ((hw1.blk hB_y (fun h => h)).cells 1 _ O)) (Ds [20] (by kernel_rfl) O (WD.call 5 O (by kernel_rfl) O O O (zkb (vs := [_, _]) Tryz.call216 O O) (zbs a.1 b.2 _ (by omega) (by omega)) ?_)))))
 rintro _ wz4 ⟨rfl, hz4⟩
 replace hD := hD.ext hz4
 refine ⟨fun _ => hD, ?_⟩
 refine WD.call 11 O (by kernel_rfl) O O O (zkb (vs := [_, _]) Tryz.call216 O O) (zbs a.2 b.1 _ (by omega) (by omega)) ?_
 rintro _ wz5 ⟨rfl, hz5⟩
 replace hD := hD.ext hz5
 refine ⟨fun _ => hD, ?_⟩
 refine WD.call 17 O (by kernel_rfl) O O O (zkb (vs := [_, _]) Tryz.call216 O O) (zbs a.2 b.2 _ (by omega) (by omega)) ?_
 rintro _ wz6 ⟨rfl, hz6⟩
 replace hD := hD.ext hz6
 refine ⟨fun _ => hD, ?_⟩
 refine zke 18 O (by kernel_rfl) O O O (M.buildSlice (cs := [.int .i64 (a.1 * b.2), .int .i64 (a.2 * b.1), .int .i64 (a.2 * b.2)]) [(0, _), (1, _), (2, _)] tR31 ts3 tz3 (by decide) O (by kernel_rfl)) ?_
 rintro _ ws ⟨s, rfl, hg_s, hs_s, hB_s, hk_s⟩
 have hEs := hD.ext hk_s
 have hso : s ≠ o := by have := hB_o.lt; have := hD.size; omega
 refine ⟨fun _ => hEs, ?_⟩
 refine Ds [19] (by kernel_rfl) O (G.done (by kernel_rfl) ?_ _)
 obtain ⟨hE, hB_x, hB_y, hB_r, hB_o⟩ := Tr5 hEs hE hB_x hB_y hB_r hB_o
 obtain ⟨es, hes⟩ : ∃ es : List Int, es = [a.1 * b.2, a.2 * b.1, a.2 * b.2] := ⟨_, rfl⟩
 have hel : es.length = 3 := by rw [hes]; rfl
 have hBs : Blk ws s (es.map (.int .i64)) 3 := by rw [hes]; exact hB_s
 have hp := kE (x := a.1) (y := b.1) (by omega) (by omega)
 refine Gs 2 O (G.loop (σ := Nat) (fun k => [(6, .pointer (some ⟨r, 0, none⟩)), (8, .pointer (some ⟨o, 0, none⟩)), (38, .slice (some ⟨s, 0, none⟩) 3 3), (39, .int .i64 3), (40, .int .i64 k)]) (fun k => fun w' => k <= 3 /\ Blk w' o [.int .i64 (yP (a.1 * b.1, a.1 * b.1) ((es.map (fun x => (x, x))).take k)).1, .int .i64 (yP (a.1 * b.1, a.1 * b.1) ((es.map (fun x => (x, x))).take k)).2] 255 /\ Keep (fun q => q = o) ws w') (fun k => 3 - k) (0) (zkZ O) (⟨znf _, hB_o, Keep.refl _ _⟩) ?_)
 rintro k w1 ⟨hk, hB_o, hk1⟩
 refine Gs 6 O (zjn O (fun hlt => ?_) (fun hlt => ?_))
 ·
  obtain ⟨x, hx⟩ : ∃ x, es[k]? = some x := ⟨_, zn0 (by omega)⟩
  refine Ga 7 O (by omega) (zlk O tg3 ((hk1.blk hBs hso).cells.el1 k O (by rw [znh, hx]; rfl)) ?_)
  refine Gs 4 O (zlm O tg255 ts255 hB_o.cells O (Gs 2 O (zlg O O (R.build (v := .agg #[.int .i64 x, .int .i64 x]) [(0, _), (1, _)] O (fun _ => by kernel_rfl)) (G.call O Tryz.call217 (zeY (yP (a.1 * b.1, a.1 * b.1) ((es.map (fun x => (x, x))).take k)) (x, x) w1) ?_))))
  rintro _ w2 ⟨rfl, hk2⟩
  refine zki O (zkj ts255 O O O O (by simp [Value.oneCell']) (hk2.blk hB_o (fun h => h)) (by simp)) ?_
  rintro w3 ⟨_, hB3, hk3⟩
  refine Ga 7 O (by omega) (zjy (k + 1) (zkZ O) (⟨by omega, ?_, (hk1.ext hk2).trans hk3 (fun _ _ h => h)⟩) (by first | omega | (dsimp only; omega)))
  rw [jY (show (es.map (fun x => (x, x)))[k]? = some (x, x) by rw [znh, hx]; rfl)]
  exact hB3
 ·
  have hk3 : k = 3 := by omega
  subst hk3
  have hr1 := hk1.blk hB_r hn_r_o
  have e : yP (a.1 * b.1, a.1 * b.1) ((es.map (fun x => (x, x))).take 3) = xm a b := by rw [hes]; rfl
  rw [e] at hB_o
  refine Gs 7 O (zlm O tg255 ts255 hB_o.cells O (zki O (zkj ts255 O O O O (by simp [Value.oneCell']) hr1 (by simp)) ?_))
  rintro wf ⟨_, hBf, hkf⟩
  refine Gs 3 O (zjP Tryz.results215 O (zr tg255 ts255 O hBf.cells) ?_)
  exact ⟨_, rfl, rfl, (hE.trans hk1 (fun q hq h => by have h : q = o := h; omega)).trans hkf (fun q hq h => by have h : q = r := h; omega)⟩
def at2 (l : List Rg) (i : Nat) : Rg := l[i]?.getD (0, 0)
theorem zY {l : List Rg} {i : Nat} {x : Rg} (h : l[i]? = some x) : at2 l i = x := by simp [at2, h]
def vat (vs : List Vr) (n : Int) : Rg := match vs[n.toNat]? with
 | some v => (v.low, v.high)
 | none => (0, 0)
theorem zeZ {vs : List Vr} {n : Int} {v : Vr} (h : vs[n.toNat]? = some v) : vat vs n = (v.low, v.high) := by simp [vat, h]
def zi (vs : List Vr) (op n : Int) (l : List Rg) : Rg :=
 if op = 0 then (n, n)
 else if op = 24 then vat vs n
 else if op = 6 then (-(at2 l 0).2, -(at2 l 0).1)
 else if op = 8 then ((at2 l 0).1 + (at2 l 1).1, (at2 l 0).2 + (at2 l 1).2)
 else if op = 9 then ((at2 l 0).1 - (at2 l 1).2, (at2 l 0).2 - (at2 l 1).1)
 else if op = 10 then xm (at2 l 0) (at2 l 1)
 else if op = 11 then (if 0 <= (at2 l 0).1 /\ 0 <= (at2 l 1).1 then 0 else -(max (at2 l 0).2 (-(at2 l 0).1)), max (at2 l 0).2 (-(at2 l 0).1))
 else if op = 12 then (if (at2 l 1).1 < 0 then min ((at2 l 1).1 + 1) 0 else 0, if 0 < (at2 l 1).2 then max ((at2 l 1).2 - 1) 0 else 0)
 else if op = 21 then (min (at2 l 0).1 (at2 l 1).1, min (at2 l 0).2 (at2 l 1).2)
 else if op = 22 then (max (at2 l 0).1 (at2 l 1).1, max (at2 l 0).2 (at2 l 1).2)
 else if op = 23 \/ op = 25 then yP (at2 l 1) (l.drop 2)
 else (0, 1)
structure NodeOk (vs : List Vr) (op n : Int) (l : List Rg) : Prop where
 k0 : op = 0 \/ op = 24 -> l.length = 0
 k1 : op = 6 \/ op = 7 -> l.length = 1
 k2 : 8 <= op /\ op <= 22 -> l.length = 2
 k3 : op = 23 \/ op = 25 -> 2 <= l.length /\ l.length <= 33
 good : ∀ r ∈ l, yg r
 var : op = 24 -> 0 <= n /\ n < vs.length
 vars : ∀ v ∈ vs, yg (v.low, v.high)
theorem qB {vs : List Vr} {inp : Bool} {op n : Int} {l : List Rg} {k : Nat} (hl : l.length = k) (h1 : yE op k = true) (h2 : xP vs inp op n = true) (hg : ∀ r ∈ l, yg r) (hv : ∀ v ∈ vs, yg (v.low, v.high)) : NodeOk vs op n l := by
 have h3 : (0 <= zp op -> (l.length : Int) = zp op) /\ (¬ 0 <= zp op -> 2 <= l.length /\ l.length <= 33) := by
  unfold yE at h1
  rw [hl]
  constructor
  . intro h; rw [znb h] at h1; exact of_decide_eq_true h1
  . intro h; rw [zna h] at h1; exact (of_decide_eq_true h1).2
 unfold zp at h3
 refine ⟨fun h => ?_, fun h => ?_, fun h => ?_, fun h => ?_, hg, fun h => ?_, hv⟩
 . rw [znb h] at h3; have := h3.1 (by omega); omega
 . rw [zna (by omega), znb h] at h3; have := h3.1 (by omega); omega
 . rw [zna (by omega), zna (by omega), znb h] at h3; have := h3.1 (by omega); omega
 ·
  rcases h with h | h
  . rw [zna (by omega), zna (by omega), zna (by omega), znb h] at h3; have := h3.1 (by omega); omega
  . rw [zna (by omega), zna (by omega), zna (by omega), zna (by omega), znb h] at h3; exact h3.2 (by omega)
 ·
  unfold xP at h2
  rw [znb h, Bool.and_eq_true] at h2
  exact of_decide_eq_true h2.1
theorem zhF (vs : List Vr) (t : Tm) (ks : List Rg) (vv kv : Value) (cs : List Value) (Dv D Dk : Nat -> Prop) (w : World) (hvs : SlR 5 RVr Dv w vv vs) (ht : RTm D w t cs) (hks : SlR 2 zeM Dk w kv ks) (hn : NodeOk vs t.op t.n ks) : Calls Tryz.prog 212 #[vv, .agg cs.toArray, kv] w (Ret fun r w' => r = .agg #[.int .i64 (zi vs t.op t.n ks).1, .int .i64 (zi vs t.op t.n ks).2] /\ Ext w w') := by
 obtain ⟨v, rfl, hk⟩ := ht.get
 obtain ⟨av, nv, rfl⟩ := hvs.form
 obtain ⟨ak, nk, rfl⟩ := hks.form
 have hmx := hks.max
 have hE := Keep.refl (fun _ => False) w
 refine zls Tryz.func212 O Tryz.ntmps212 O (Gs 2 O (zkf O O (M.box O O) ?_))
 rintro _ w_b ⟨b, rfl, hg_b, hs_b, hB_b, hk_b⟩
 have hge_b : _ <= b := zn6 hE.size (Nat.le_of_eq hg_b.symm)
 obtain ⟨hE, hvs, hks⟩ := Tr3 hk_b hE hvs hks
 refine zkf O O (M.alloc (cs := _) tz255 O) ?_
 rintro _ w_r ⟨r, rfl, hg_r, hs_r, hB_r, hk_r⟩
 have hn_b_r : b ≠ r := by have := hB_b.lt; omega
 have hge_r : _ <= r := zn6 hE.size (Nat.le_of_eq hg_r.symm)
 obtain ⟨hE, hvs, hks, hB_b⟩ := Tr4 hk_r hE hvs hks hB_b
 refine Gs 6 O (zlk O tg129 (hB_b.cells 0 _ O) (Gs 9 O (zjn O (fun h0 => ?_) (fun h0 => ?_))))
 ·
  have e : zi vs t.op t.n ks = (t.n, t.n) := by rw [zi, znb h0]
  refine Gs 3 O (zlk O tg3 (hB_b.cells 1 _ O) (Gs 1 O (zlk O tg3 (hB_b.cells 1 _ O) (zlg O O (R.build (v := .agg #[.int .i64 t.n, .int .i64 t.n]) [(0, _), (1, _)] O (fun _ => by kernel_rfl)) (zki O (zkj ts255 O O O O (by simp [Value.oneCell']) hB_r (by simp)) ?_)))))
  rintro wf ⟨_, hBf, hkf⟩
  refine Gs 5 O (zjP tr212 O (zr tg255 ts255 O hBf.cells) ?_)
  exact ⟨_, rfl, by rw [e] <;> rfl, hE.trans hkf (fun q hq h => by have h : q = r := h; omega)⟩
 ·
  refine Gs 6 O (zjn O (fun h24 => ?_) (fun h24 => ?_))
  ·
   have hv := hn.var h24
   obtain ⟨x, he_x, hm_x⟩ := gE_ vs (t.n.toNat) (by omega)
   obtain ⟨b_x, o_x, c_x, ha_x, _, hc_x, hR_x⟩ := hvs.at he_x
   have h1_x := RVr.one hR_x
   obtain rfl := hR_x
   have hlt_x : b_x < _ := zn2 _ _ (hc_x 0 _ rfl)
   have e : zi vs t.op t.n ks = (x.low, x.high) := by rw [zi, zna h0, znb h24, zeZ he_x]
   refine Gs 1 O (Dw (fun q => Ext w_r q) [13] (fun wd1 hD _ => ?_))
   refine Ds [0, 1] (by kernel_rfl) O (WD.take 2 O (by kernel_rfl) O O O hD (fun w1 hw1 => R.load tg3 O ((hw1.blk hB_b (fun h => h)).cells 1 _ O)) (zkt 3 O (by kernel_rfl) O O O (fun w1 => zk6 tR52 ts120 O O ha_x (by omega)) (Ds [4] (by kernel_rfl) O (WD.take 5 O (by kernel_rfl) O O O hD (fun w1 hw1 => R.load tg3 O ((hw1.cells hc_x (fun h => h)) 2 _ O)) (Ds [6, 7] (by kernel_rfl) O (WD.take 8 O (by kernel_rfl) O O O hD (fun w1 hw1 => R.load tg3 O ((hw1.blk hB_b (fun h => h)).cells 1 _ O)) ?_))))))
   refine zkt 9 O (by kernel_rfl) O O O (fun w1 => zk6 tR52 ts120 O O ha_x (by omega)) (Ds [10] (by kernel_rfl) O (WD.take 11 O (by kernel_rfl) O O O hD (fun w1 hw1 => R.load tg3 O ((hw1.cells hc_x (fun h => h)) 3 _ O)) (zkt 12 O (by kernel_rfl) O O O (fun w1 => R.build (v := .agg #[.int .i64 x.low, .int .i64 x.high]) [(0, _), (1, _)] O (fun _ => by kernel_rfl)) (zkh 13 O (by kernel_rfl) O O (zkj ts255 O O O O (by simp [Value.oneCell']) (hD.blk hB_r (fun h => h)) (by simp)) ?_))))
   rintro wf ⟨_, hBf, hkf⟩
   refine ⟨fun h => absurd (by simp) h, ?_⟩
   refine G.done (by kernel_rfl) ?_ _
   refine Gs 4 O (zjP tr212 O (zr tg255 ts255 O hBf.cells) ?_)
   exact ⟨_, rfl, by rw [e] <;> rfl, (hE.ext hD).trans hkf (fun q hq h => by have h : q = r := h; omega)⟩
  ·
   refine Gs 6 O (zjn O (fun h6 => ?_) (fun h6 => ?_))
   ·
    have hl := hn.k1 (.inl h6)
    obtain ⟨x, he_x, hm_x⟩ := gE_ ks (0) (by omega)
    obtain ⟨b_x, o_x, c_x, ha_x, _, hc_x, hR_x⟩ := hks.at he_x
    obtain rfl := hR_x
    have hlt_x : b_x < _ := zn2 _ _ (hc_x 0 _ rfl)
    have hgx := hn.good x hm_x
    unfold yg at hgx
    have e : zi vs t.op t.n ks = (-x.2, -x.1) := by rw [zi, zna h0, zna h24, znb h6, zY he_x]
    refine Gs 1 O (Dw (fun q => Ext w_r q) [11] (fun wd2 hD _ => ?_))
    refine Ds [0] (by kernel_rfl) O (zkt 1 O (by kernel_rfl) O O O (fun w1 => zk6 tR262 ts255 O O ha_x (by omega)) (Ds [2] (by kernel_rfl) O (WD.take 3 O (by kernel_rfl) O O O hD (fun w1 hw1 => R.load tg3 O ((hw1.cells hc_x (fun h => h)) 1 _ O)) (Da [4, 5] (by kernel_rfl) O (by omega) (zkt 6 O (by kernel_rfl) O O O (fun w1 => zk6 tR262 ts255 O O ha_x (by omega)) (Ds [7] (by kernel_rfl) O (WD.take 8 O (by kernel_rfl) O O O hD (fun w1 hw1 => R.load tg3 O ((hw1.cells hc_x (fun h => h)) 0 _ O)) ?_)))))))
    refine Da [9] (by kernel_rfl) O (by omega) (zkt 10 O (by kernel_rfl) O O O (fun w1 => R.build (v := .agg #[.int .i64 (-x.2), .int .i64 (-x.1)]) [(0, _), (1, _)] O (fun _ => by kernel_rfl)) (zkh 11 O (by kernel_rfl) O O (zkj ts255 O O O O (by simp [Value.oneCell']) (hD.blk hB_r (fun h => h)) (by simp)) ?_))
    rintro wf ⟨_, hBf, hkf⟩
    refine ⟨fun h => absurd (by simp) h, ?_⟩
    refine G.done (by kernel_rfl) ?_ _
    refine Gs 4 O (zjP tr212 O (zr tg255 ts255 O hBf.cells) ?_)
    exact ⟨_, rfl, by rw [e] <;> rfl, (hE.ext hD).trans hkf (fun q hq h => by have h : q = r := h; omega)⟩
   ·
    refine Gs 6 O (zjn O (fun h8 => ?_) (fun h8 => ?_))
    ·
     have hl := hn.k2 (by omega)
     obtain ⟨x, he_x, hm_x⟩ := gE_ ks (0) (by omega)
     obtain ⟨b_x, o_x, c_x, ha_x, _, hc_x, hR_x⟩ := hks.at he_x
     obtain rfl := hR_x
     have hlt_x : b_x < _ := zn2 _ _ (hc_x 0 _ rfl)
     obtain ⟨y, he_y, hm_y⟩ := gE_ ks (1) (by omega)
     obtain ⟨b_y, o_y, c_y, ha_y, _, hc_y, hR_y⟩ := hks.at he_y
     obtain rfl := hR_y
     have hlt_y : b_y < _ := zn2 _ _ (hc_y 0 _ rfl)
     have hgx := hn.good x hm_x
     have hgy := hn.good y hm_y
     unfold yg at hgx hgy
     have e : zi vs t.op t.n ks = (x.1 + y.1, x.2 + y.2) := by rw [zi, zna h0, zna h24, zna h6, znb h8, zY he_x, zY he_y]
     refine Gs 1 O (Dw (fun q => Ext w_r q) [19] (fun wd3 hD _ => ?_))
     refine Ds [0] (by kernel_rfl) O (zkt 1 O (by kernel_rfl) O O O (fun w1 => zk6 tR262 ts255 O O ha_x (by omega)) (Ds [2] (by kernel_rfl) O (WD.take 3 O (by kernel_rfl) O O O hD (fun w1 hw1 => R.load tg3 O ((hw1.cells hc_x (fun h => h)) 0 _ O)) (Ds [4] (by kernel_rfl) O (zkt 5 O (by kernel_rfl) O O O (fun w1 => zk6 tR262 ts255 O O ha_y (by omega)) (Ds [6] (by kernel_rfl) O (WD.take 7 O (by kernel_rfl) O O O hD (fun w1 hw1 => R.load tg3 O ((hw1.cells hc_y (fun h => h)) 0 _ O)) ?_)))))))
     refine Da [8, 9] (by kernel_rfl) O (by omega) (zkt 10 O (by kernel_rfl) O O O (fun w1 => zk6 tR262 ts255 O O ha_x (by omega)) (Ds [11] (by kernel_rfl) O (WD.take 12 O (by kernel_rfl) O O O hD (fun w1 hw1 => R.load tg3 O ((hw1.cells hc_x (fun h => h)) 1 _ O)) (Ds [13] (by kernel_rfl) O (zkt 14 O (by kernel_rfl) O O O (fun w1 => zk6 tR262 ts255 O O ha_y (by omega)) (Ds [15] (by kernel_rfl) O (WD.take 16 O (by kernel_rfl) O O O hD (fun w1 hw1 => R.load tg3 O ((hw1.cells hc_y (fun h => h)) 1 _ O)) ?_)))))))
     refine Da [17] (by kernel_rfl) O (by omega) (zkt 18 O (by kernel_rfl) O O O (fun w1 => R.build (v := .agg #[.int .i64 (x.1 + y.1), .int .i64 (x.2 + y.2)]) [(0, _), (1, _)] O (fun _ => by kernel_rfl)) (zkh 19 O (by kernel_rfl) O O (zkj ts255 O O O O (by simp [Value.oneCell']) (hD.blk hB_r (fun h => h)) (by simp)) ?_))
     rintro wf ⟨_, hBf, hkf⟩
     refine ⟨fun h => absurd (by simp) h, ?_⟩
     refine G.done (by kernel_rfl) ?_ _
     refine Gs 4 O (zjP tr212 O (zr tg255 ts255 O hBf.cells) ?_)
     exact ⟨_, rfl, by rw [e] <;> rfl, (hE.ext hD).trans hkf (fun q hq h => by have h : q = r := h; omega)⟩
    ·
     refine Gs 6 O (zjn O (fun h9 => ?_) (fun h9 => ?_))
     ·
      have hl := hn.k2 (by omega)
      obtain ⟨x, he_x, hm_x⟩ := gE_ ks (0) (by omega)
      obtain ⟨b_x, o_x, c_x, ha_x, _, hc_x, hR_x⟩ := hks.at he_x
      obtain rfl := hR_x
      have hlt_x : b_x < _ := zn2 _ _ (hc_x 0 _ rfl)
      obtain ⟨y, he_y, hm_y⟩ := gE_ ks (1) (by omega)
      obtain ⟨b_y, o_y, c_y, ha_y, _, hc_y, hR_y⟩ := hks.at he_y
      obtain rfl := hR_y
      have hlt_y : b_y < _ := zn2 _ _ (hc_y 0 _ rfl)
      have hgx := hn.good x hm_x
      have hgy := hn.good y hm_y
      unfold yg at hgx hgy
      have e : zi vs t.op t.n ks = (x.1 - y.2, x.2 - y.1) := by rw [zi, zna h0, zna h24, zna h6, zna h8, znb h9, zY he_x, zY he_y]
      refine Gs 1 O (Dw (fun q => Ext w_r q) [19] (fun wd4 hD _ => ?_))
      refine Ds [0] (by kernel_rfl) O (zkt 1 O (by kernel_rfl) O O O (fun w1 => zk6 tR262 ts255 O O ha_x (by omega)) (Ds [2] (by kernel_rfl) O (WD.take 3 O (by kernel_rfl) O O O hD (fun w1 hw1 => R.load tg3 O ((hw1.cells hc_x (fun h => h)) 0 _ O)) (Ds [4] (by kernel_rfl) O (zkt 5 O (by kernel_rfl) O O O (fun w1 => zk6 tR262 ts255 O O ha_y (by omega)) (Ds [6] (by kernel_rfl) O (WD.take 7 O (by kernel_rfl) O O O hD (fun w1 hw1 => R.load tg3 O ((hw1.cells hc_y (fun h => h)) 1 _ O)) ?_)))))))
      refine Da [8, 9] (by kernel_rfl) O (by omega) (zkt 10 O (by kernel_rfl) O O O (fun w1 => zk6 tR262 ts255 O O ha_x (by omega)) (Ds [11] (by kernel_rfl) O (WD.take 12 O (by kernel_rfl) O O O hD (fun w1 hw1 => R.load tg3 O ((hw1.cells hc_x (fun h => h)) 1 _ O)) (Ds [13] (by kernel_rfl) O (zkt 14 O (by kernel_rfl) O O O (fun w1 => zk6 tR262 ts255 O O ha_y (by omega)) (Ds [15] (by kernel_rfl) O (WD.take 16 O (by kernel_rfl) O O O hD (fun w1 hw1 => R.load tg3 O ((hw1.cells hc_y (fun h => h)) 0 _ O)) ?_)))))))
      refine Da [17] (by kernel_rfl) O (by omega) (zkt 18 O (by kernel_rfl) O O O (fun w1 => R.build (v := .agg #[.int .i64 (x.1 - y.2), .int .i64 (x.2 - y.1)]) [(0, _), (1, _)] O (fun _ => by kernel_rfl)) (zkh 19 O (by kernel_rfl) O O (zkj ts255 O O O O (by simp [Value.oneCell']) (hD.blk hB_r (fun h => h)) (by simp)) ?_))
      rintro wf ⟨_, hBf, hkf⟩
      refine ⟨fun h => absurd (by simp) h, ?_⟩
      refine G.done (by kernel_rfl) ?_ _
      refine Gs 4 O (zjP tr212 O (zr tg255 ts255 O hBf.cells) ?_)
      exact ⟨_, rfl, by rw [e] <;> rfl, (hE.ext hD).trans hkf (fun q hq h => by have h : q = r := h; omega)⟩
     ·
      refine Gs 6 O (zjn O (fun h10 => ?_) (fun h10 => ?_))
      ·
       have hl := hn.k2 (by omega)
       obtain ⟨x, he_x, hm_x⟩ := gE_ ks (0) (by omega)
       obtain ⟨b_x, o_x, c_x, ha_x, _, hc_x, hR_x⟩ := hks.at he_x
       obtain rfl := hR_x
       have hlt_x : b_x < _ := zn2 _ _ (hc_x 0 _ rfl)
       obtain ⟨y, he_y, hm_y⟩ := gE_ ks (1) (by omega)
       obtain ⟨b_y, o_y, c_y, ha_y, _, hc_y, hR_y⟩ := hks.at he_y
       obtain rfl := hR_y
       have hlt_y : b_y < _ := zn2 _ _ (hc_y 0 _ rfl)
       have e : zi vs t.op t.n ks = xm x y := by rw [zi, zna h0, zna h24, zna h6, zna h8, zna h9, znb h10, zY he_x, zY he_y]
       refine Gs 1 O (Dw (fun q => Ext w_r q) [7] (fun wd5 hD _ => ?_))
       refine Ds [0] (by kernel_rfl) O (zkt 1 O (by kernel_rfl) O O O (fun w1 => zk6 tR262 ts255 O O ha_x (by omega)) (WD.take 2 O (by kernel_rfl) O O O hD (fun w1 hw1 => zk8 tg255 ts255 O (by rfl) (hw1.cells hc_x (fun h => h))) (Ds [3] (by kernel_rfl) O (zkt 4 O (by kernel_rfl) O O O (fun w1 => zk6 tR262 ts255 O O ha_y (by omega)) (WD.take 5 O (by kernel_rfl) O O O hD (fun w1 hw1 => zk8 tg255 ts255 O (by rfl) (hw1.cells hc_y (fun h => h))) ?_)))))
       refine WD.call 6 O (by kernel_rfl) O O O (F.call (vs := [_, _, _]) Tryz.call215 O) (zej x y _ (hn.good x hm_x) (hn.good y hm_y)) ?_
       rintro _ wz6 ⟨rfl, hz6⟩
       replace hD := hD.ext hz6
       refine ⟨fun _ => hD, ?_⟩
       refine zkh 7 O (by kernel_rfl) O O (zkj ts255 O O O O (by simp [Value.oneCell']) (hD.blk hB_r (fun h => h)) (by simp)) ?_
       rintro wf ⟨_, hBf, hkf⟩
       refine ⟨fun h => absurd (by simp) h, ?_⟩
       refine G.done (by kernel_rfl) ?_ _
       refine Gs 4 O (zjP tr212 O (zr tg255 ts255 O hBf.cells) ?_)
       exact ⟨_, rfl, by rw [e] <;> rfl, (hE.ext hD).trans hkf (fun q hq h => by have h : q = r := h; omega)⟩
      ·
       refine Gs 6 O (zjn O (fun h11 => ?_) (fun h11 => ?_))
       ·
        have hl := hn.k2 (by omega)
        obtain ⟨x, he_x, hm_x⟩ := gE_ ks (0) (by omega)
        obtain ⟨b_x, o_x, c_x, ha_x, _, hc_x, hR_x⟩ := hks.at he_x
        obtain rfl := hR_x
        have hlt_x : b_x < _ := zn2 _ _ (hc_x 0 _ rfl)
        obtain ⟨y, he_y, hm_y⟩ := gE_ ks (1) (by omega)
        obtain ⟨b_y, o_y, c_y, ha_y, _, hc_y, hR_y⟩ := hks.at he_y
        obtain rfl := hR_y
        have hlt_y : b_y < _ := zn2 _ _ (hc_y 0 _ rfl)
        have hgx := hn.good x hm_x
        have hgy := hn.good y hm_y
        unfold yg at hgx hgy
        have e : zi vs t.op t.n ks = (if 0 <= x.1 /\ 0 <= y.1 then 0 else -(max x.2 (-x.1)), max x.2 (-x.1)) := by rw [zi, zna h0, zna h24, zna h6, zna h8, zna h9, zna h10, znb h11, zY he_x, zY he_y]
        have hmx2 : 0 <= max x.2 (-x.1) /\ max x.2 (-x.1) <= 1048576 := by omega
        refine Gs 1 O (Dw (fun q => Ext w_r q) [] (fun wd7 hD _ => ?_))
        refine Ds [0] (by kernel_rfl) O (zkt 1 O (by kernel_rfl) O O O (fun w1 => zk6 tR262 ts255 O O ha_x (by omega)) (Ds [2] (by kernel_rfl) O (WD.take 3 O (by kernel_rfl) O O O hD (fun w1 hw1 => R.load tg3 O ((hw1.cells hc_x (fun h => h)) 1 _ O)) (Ds [4] (by kernel_rfl) O (zkt 5 O (by kernel_rfl) O O O (fun w1 => zk6 tR262 ts255 O O ha_x (by omega)) (Ds [6] (by kernel_rfl) O (WD.take 7 O (by kernel_rfl) O O O hD (fun w1 hw1 => R.load tg3 O ((hw1.cells hc_x (fun h => h)) 0 _ O)) ?_)))))))
        refine Da [8, 9, 10] (by kernel_rfl) O (by omega) (G.done (by kernel_rfl) ?_ _)
        obtain ⟨hE, hvs, hks, hB_b, hB_r, hc_x, hc_y⟩ := Tr7 hD hE hvs hks hB_b hB_r hc_x hc_y
        refine Gs 5 O (zlg O O (zk6 tR262 ts255 O O ha_x (by omega)) (Gs 1 O (zlk O tg3 (hc_x 0 _ O) (Gs 2 O (zlb 117 O (fun p0 => ?_) (fun p0 => ?_))))))
        ·
         refine Gs 1 O (zlg O O (zk6 tR262 ts255 O O ha_y (by omega)) (Gs 1 O (zlk O tg3 (hc_y 0 _ O) (Gs 4 O (zjn O (fun p1 => ?_) (fun p1 => ?_))))))
         ·
          refine Gs 3 O (zlg O O (R.build (v := .agg #[.int .i64 0, .int .i64 (max x.2 (-x.1))]) [(0, _), (1, _)] O (fun _ => by kernel_rfl)) (zki O (zkj ts255 O O O O (by simp [Value.oneCell']) hB_r (by simp)) ?_))
          rintro wf ⟨_, hBf, hkf⟩
          refine Gs 6 O (zjP tr212 O (zr tg255 ts255 O hBf.cells) ?_)
          exact ⟨_, rfl, by rw [e, znb ⟨p0, p1⟩] <;> rfl, hE.trans hkf (fun q hq h => by have h : q = r := h; omega)⟩
         ·
          refine Ga 7 O (by omega) (zlg O O (R.build (v := .agg #[.int .i64 (-(max x.2 (-x.1))), .int .i64 (max x.2 (-x.1))]) [(0, _), (1, _)] O (fun _ => by kernel_rfl)) (zki O (zkj ts255 O O O O (by simp [Value.oneCell']) hB_r (by simp)) ?_))
          rintro wf ⟨_, hBf, hkf⟩
          refine Gs 5 O (zjP tr212 O (zr tg255 ts255 O hBf.cells) ?_)
          exact ⟨_, rfl, by rw [e, zna (fun h => p1 h.2)] <;> rfl, hE.trans hkf (fun q hq h => by have h : q = r := h; omega)⟩
        ·
         refine Ga 16 O (by omega) (zlg O O (R.build (v := .agg #[.int .i64 (-(max x.2 (-x.1))), .int .i64 (max x.2 (-x.1))]) [(0, _), (1, _)] O (fun _ => by kernel_rfl)) (zki O (zkj ts255 O O O O (by simp [Value.oneCell']) hB_r (by simp)) ?_))
         rintro wf ⟨_, hBf, hkf⟩
         refine Gs 5 O (zjP tr212 O (zr tg255 ts255 O hBf.cells) ?_)
         exact ⟨_, rfl, by rw [e, zna (fun h => p0 h.1)] <;> rfl, hE.trans hkf (fun q hq h => by have h : q = r := h; omega)⟩
       ·
        refine Gs 6 O (zjn O (fun h12 => ?_) (fun h12 => ?_))
        ·
         have hl := hn.k2 (by omega)
         obtain ⟨y, he_y, hm_y⟩ := gE_ ks (1) (by omega)
         obtain ⟨b_y, o_y, c_y, ha_y, _, hc_y, hR_y⟩ := hks.at he_y
         obtain rfl := hR_y
         have hlt_y : b_y < _ := zn2 _ _ (hc_y 0 _ rfl)
         have hgy := hn.good y hm_y
         unfold yg at hgy
         have e : zi vs t.op t.n ks = (if y.1 < 0 then min (y.1 + 1) 0 else 0, if 0 < y.2 then max (y.2 - 1) 0 else 0) := by rw [zi, zna h0, zna h24, zna h6, zna h8, zna h9, zna h10, zna h11, znb h12, zY he_y]
         refine Gs 2 O (zlg O O (R.build (v := .agg #[.int .i64 0, .int .i64 0]) [] O (fun _ => by kernel_rfl)) (zkf O O (M.alloc (cs := _) tz255 O) ?_))
         rintro _ wa8 ⟨o, rfl, hg_o, hs_o, hB_o, hk_o⟩
         refine zki O (zkj ts255 O O O O (by simp [Value.oneCell']) hB_o (by simp)) ?_
         rintro w_o ⟨_, hB_o, hkk_o⟩
         replace hk_o := hk_o.trans hkk_o (fun q hq h => by have h : q = o := h; omega)
         have hn_b_o : b ≠ o := by have := hB_b.lt; omega
         have hn_r_o : r ≠ o := by have := hB_r.lt; omega
         have hge_o : _ <= o := zn6 hE.size (Nat.le_of_eq hg_o.symm)
         obtain ⟨hE, hvs, hks, hB_b, hB_r, hc_y⟩ := Tr6 hk_o hE hvs hks hB_b hB_r hc_y
         refine Gs 6 O (zlg O O (zk6 tR262 ts255 O O ha_y (by omega)) (Gs 1 O (zlk O tg3 (hc_y 0 _ O) (Gs 3 O (zjn O (fun p0 => ?_) (fun p0 => ?_))))))
         ·
          refine Gs 2 O (zlg O O (zk6 tR262 ts255 O O ha_y (by omega)) (Gs 1 O (zlk O tg3 (hc_y 0 _ O) (Ga 3 O (by omega) (zki O (M.store ts3 O O O O hB_o (by simp)) ?_)))))
          rintro ws9 ⟨_, hB_o, hs9⟩
          replace hE := hE.trans hs9 (fun q hq h => by have h : q = o := h; omega)
          replace hB_b := hs9.blk hB_b hn_b_o
          replace hB_r := hs9.blk hB_r hn_r_o
          replace hc_y := hs9.cells hc_y (show b_y ≠ o by omega)
          refine Gs 6 O (zlg O O (zk6 tR262 ts255 O O ha_y (by omega)) (Gs 1 O (zlk O tg3 (hc_y 1 _ O) (Gs 3 O (zjn O (fun p1 => ?_) (fun p1 => ?_))))))
          ·
           refine Gs 2 O (zlg O O (zk6 tR262 ts255 O O ha_y (by omega)) (Gs 1 O (zlk O tg3 (hc_y 1 _ O) (Ga 3 O (by omega) (zki O (M.store ts3 O O O O hB_o (by simp)) ?_)))))
           rintro ws10 ⟨_, hB_o, hs10⟩
           replace hE := hE.trans hs10 (fun q hq h => by have h : q = o := h; omega)
           replace hB_b := hs10.blk hB_b hn_b_o
           replace hB_r := hs10.blk hB_r hn_r_o
           replace hc_y := hs10.cells hc_y (show b_y ≠ o by omega)
           refine Gs 4 O (zlm O tg255 ts255 hB_o.cells O (zki O (zkj ts255 O O O O (by simp [Value.oneCell']) hB_r (by simp)) ?_))
           rintro wf ⟨_, hBf, hkf⟩
           refine Gs 5 O (zjP tr212 O (zr tg255 ts255 O hBf.cells) ?_)
           exact ⟨_, rfl, by rw [e, znb p0, znb p1] <;> rfl, hE.trans hkf (fun q hq h => by have h : q = r := h; omega)⟩
          ·
           refine Gs 4 O (zlm O tg255 ts255 hB_o.cells O (zki O (zkj ts255 O O O O (by simp [Value.oneCell']) hB_r (by simp)) ?_))
           rintro wf ⟨_, hBf, hkf⟩
           refine Gs 5 O (zjP tr212 O (zr tg255 ts255 O hBf.cells) ?_)
           exact ⟨_, rfl, by rw [e, znb p0, zna p1] <;> rfl, hE.trans hkf (fun q hq h => by have h : q = r := h; omega)⟩
         ·
          refine Gs 6 O (zlg O O (zk6 tR262 ts255 O O ha_y (by omega)) (Gs 1 O (zlk O tg3 (hc_y 1 _ O) (Gs 3 O (zjn O (fun p1 => ?_) (fun p1 => ?_))))))
          ·
           refine Gs 2 O (zlg O O (zk6 tR262 ts255 O O ha_y (by omega)) (Gs 1 O (zlk O tg3 (hc_y 1 _ O) (Ga 3 O (by omega) (zki O (M.store ts3 O O O O hB_o (by simp)) ?_)))))
           rintro ws11 ⟨_, hB_o, hs11⟩
           replace hE := hE.trans hs11 (fun q hq h => by have h : q = o := h; omega)
           replace hB_b := hs11.blk hB_b hn_b_o
           replace hB_r := hs11.blk hB_r hn_r_o
           replace hc_y := hs11.cells hc_y (show b_y ≠ o by omega)
           refine Gs 4 O (zlm O tg255 ts255 hB_o.cells O (zki O (zkj ts255 O O O O (by simp [Value.oneCell']) hB_r (by simp)) ?_))
           rintro wf ⟨_, hBf, hkf⟩
           refine Gs 5 O (zjP tr212 O (zr tg255 ts255 O hBf.cells) ?_)
           exact ⟨_, rfl, by rw [e, zna p0, znb p1] <;> rfl, hE.trans hkf (fun q hq h => by have h : q = r := h; omega)⟩
          ·
           refine Gs 4 O (zlm O tg255 ts255 hB_o.cells O (zki O (zkj ts255 O O O O (by simp [Value.oneCell']) hB_r (by simp)) ?_))
           rintro wf ⟨_, hBf, hkf⟩
           refine Gs 5 O (zjP tr212 O (zr tg255 ts255 O hBf.cells) ?_)
           exact ⟨_, rfl, by rw [e, zna p0, zna p1] <;> rfl, hE.trans hkf (fun q hq h => by have h : q = r := h; omega)⟩
        ·
         refine Gs 6 O (zjn O (fun h21 => ?_) (fun h21 => ?_))
         ·
          have hl := hn.k2 (by omega)
          obtain ⟨x, he_x, hm_x⟩ := gE_ ks (0) (by omega)
          obtain ⟨b_x, o_x, c_x, ha_x, _, hc_x, hR_x⟩ := hks.at he_x
          obtain rfl := hR_x
          have hlt_x : b_x < _ := zn2 _ _ (hc_x 0 _ rfl)
          obtain ⟨y, he_y, hm_y⟩ := gE_ ks (1) (by omega)
          obtain ⟨b_y, o_y, c_y, ha_y, _, hc_y, hR_y⟩ := hks.at he_y
          obtain rfl := hR_y
          have hlt_y : b_y < _ := zn2 _ _ (hc_y 0 _ rfl)
          have e : zi vs t.op t.n ks = (min x.1 y.1, min x.2 y.2) := by rw [zi, zna h0, zna h24, zna h6, zna h8, zna h9, zna h10, zna h11, zna h12, znb h21, zY he_x, zY he_y]
          refine Gs 1 O (Dw (fun q => Ext w_r q) [19] (fun wd12 hD _ => ?_))
          refine Ds [0] (by kernel_rfl) O (zkt 1 O (by kernel_rfl) O O O (fun w1 => zk6 tR262 ts255 O O ha_x (by omega)) (Ds [2] (by kernel_rfl) O (WD.take 3 O (by kernel_rfl) O O O hD (fun w1 hw1 => R.load tg3 O ((hw1.cells hc_x (fun h => h)) 0 _ O)) (Ds [4] (by kernel_rfl) O (zkt 5 O (by kernel_rfl) O O O (fun w1 => zk6 tR262 ts255 O O ha_y (by omega)) (Ds [6] (by kernel_rfl) O (WD.take 7 O (by kernel_rfl) O O O hD (fun w1 hw1 => R.load tg3 O ((hw1.cells hc_y (fun h => h)) 0 _ O)) ?_)))))))
          refine Ds [8, 9] (by kernel_rfl) O (zkt 10 O (by kernel_rfl) O O O (fun w1 => zk6 tR262 ts255 O O ha_x (by omega)) (Ds [11] (by kernel_rfl) O (WD.take 12 O (by kernel_rfl) O O O hD (fun w1 hw1 => R.load tg3 O ((hw1.cells hc_x (fun h => h)) 1 _ O)) (Ds [13] (by kernel_rfl) O (zkt 14 O (by kernel_rfl) O O O (fun w1 => zk6 tR262 ts255 O O ha_y (by omega)) (Ds [15] (by kernel_rfl) O (WD.take 16 O (by kernel_rfl) O O O hD (fun w1 hw1 => R.load tg3 O ((hw1.cells hc_y (fun h => h)) 1 _ O)) ?_)))))))
          refine Ds [17] (by kernel_rfl) O (zkt 18 O (by kernel_rfl) O O O (fun w1 => R.build (v := .agg #[.int .i64 (min x.1 y.1), .int .i64 (min x.2 y.2)]) [(0, _), (1, _)] O (fun _ => by kernel_rfl)) (zkh 19 O (by kernel_rfl) O O (zkj ts255 O O O O (by simp [Value.oneCell']) (hD.blk hB_r (fun h => h)) (by simp)) ?_))
          rintro wf ⟨_, hBf, hkf⟩
          refine ⟨fun h => absurd (by simp) h, ?_⟩
          refine G.done (by kernel_rfl) ?_ _
          refine Gs 4 O (zjP tr212 O (zr tg255 ts255 O hBf.cells) ?_)
          exact ⟨_, rfl, by rw [e] <;> rfl, (hE.ext hD).trans hkf (fun q hq h => by have h : q = r := h; omega)⟩
         ·
          refine Gs 6 O (zjn O (fun h22 => ?_) (fun h22 => ?_))
          ·
           have hl := hn.k2 (by omega)
           obtain ⟨x, he_x, hm_x⟩ := gE_ ks (0) (by omega)
           obtain ⟨b_x, o_x, c_x, ha_x, _, hc_x, hR_x⟩ := hks.at he_x
           obtain rfl := hR_x
           have hlt_x : b_x < _ := zn2 _ _ (hc_x 0 _ rfl)
           obtain ⟨y, he_y, hm_y⟩ := gE_ ks (1) (by omega)
           obtain ⟨b_y, o_y, c_y, ha_y, _, hc_y, hR_y⟩ := hks.at he_y
           obtain rfl := hR_y
           have hlt_y : b_y < _ := zn2 _ _ (hc_y 0 _ rfl)
           have e : zi vs t.op t.n ks = (max x.1 y.1, max x.2 y.2) := by rw [zi, zna h0, zna h24, zna h6, zna h8, zna h9, zna h10, zna h11, zna h12, zna h21, znb h22, zY he_x, zY he_y]
           refine Gs 1 O (Dw (fun q => Ext w_r q) [19] (fun wd13 hD _ => ?_))
           refine Ds [0] (by kernel_rfl) O (zkt 1 O (by kernel_rfl) O O O (fun w1 => zk6 tR262 ts255 O O ha_x (by omega)) (Ds [2] (by kernel_rfl) O (WD.take 3 O (by kernel_rfl) O O O hD (fun w1 hw1 => R.load tg3 O ((hw1.cells hc_x (fun h => h)) 0 _ O)) (Ds [4] (by kernel_rfl) O (zkt 5 O (by kernel_rfl) O O O (fun w1 => zk6 tR262 ts255 O O ha_y (by omega)) (Ds [6] (by kernel_rfl) O (WD.take 7 O (by kernel_rfl) O O O hD (fun w1 hw1 => R.load tg3 O ((hw1.cells hc_y (fun h => h)) 0 _ O)) ?_)))))))
           refine Ds [8, 9] (by kernel_rfl) O (zkt 10 O (by kernel_rfl) O O O (fun w1 => zk6 tR262 ts255 O O ha_x (by omega)) (Ds [11] (by kernel_rfl) O (WD.take 12 O (by kernel_rfl) O O O hD (fun w1 hw1 => R.load tg3 O ((hw1.cells hc_x (fun h => h)) 1 _ O)) (Ds [13] (by kernel_rfl) O (zkt 14 O (by kernel_rfl) O O O (fun w1 => zk6 tR262 ts255 O O ha_y (by omega)) (Ds [15] (by kernel_rfl) O (WD.take 16 O (by kernel_rfl) O O O hD (fun w1 hw1 => R.load tg3 O ((hw1.cells hc_y (fun h => h)) 1 _ O)) ?_)))))))
           refine Ds [17] (by kernel_rfl) O (zkt 18 O (by kernel_rfl) O O O (fun w1 => R.build (v := .agg #[.int .i64 (max x.1 y.1), .int .i64 (max x.2 y.2)]) [(0, _), (1, _)] O (fun _ => by kernel_rfl)) (zkh 19 O (by kernel_rfl) O O (zkj ts255 O O O O (by simp [Value.oneCell']) (hD.blk hB_r (fun h => h)) (by simp)) ?_))
           rintro wf ⟨_, hBf, hkf⟩
           refine ⟨fun h => absurd (by simp) h, ?_⟩
           refine G.done (by kernel_rfl) ?_ _
           refine Gs 4 O (zjP tr212 O (zr tg255 ts255 O hBf.cells) ?_)
           exact ⟨_, rfl, by rw [e] <;> rfl, (hE.ext hD).trans hkf (fun q hq h => by have h : q = r := h; omega)⟩
          ·
           have hbase : ¬ (t.op = 23 \/ t.op = 25) -> zi vs t.op t.n ks = (0, 1) := fun h => by rw [zi, zna h0, zna h24, zna h6, zna h8, zna h9, zna h10, zna h11, zna h12, zna h21, zna h22, zna h]
           refine Gs 7 O (zjB (σ := Bool) (fun p => [(2, .slice ak ks.length nk), (6, .pointer (some ⟨r, 0, none⟩)), (200, .bool p)]) (fun p => fun w' => (p = true ↔ t.op = 23 \/ t.op = 25) /\ w' = w_r) ?_ ?_)
           ·
            refine zjn O (fun h23 => ?_) (fun h23 => ?_)
            . refine Gs 1 O (zjD (decide (t.op = 23)) (Sub.cons O (Sub.cons O (Sub.cons (by first | rfl | (show some (Value.bool true) = some (Value.bool _); simp [*])) Sub.nil))) (⟨by simp [h23], rfl⟩))
            . refine Gs 4 O (zjD (decide (t.op = 25)) (zkZ O) (⟨by simp [h23], rfl⟩))
           rintro p w2 ⟨hp, hw2⟩
           subst hw2
           refine Gs 1 O (G.bool O (fun p1 => ?_) (fun p1 => ?_))
           ·
            have hl := hn.k3 (hp.1 p1)
            obtain ⟨y, he_y, hm_y⟩ := gE_ ks (1) (by omega)
            obtain ⟨b_y, o_y, c_y, ha_y, _, hc_y, hR_y⟩ := hks.at he_y
            obtain rfl := hR_y
            have hlt_y : b_y < _ := zn2 _ _ (hc_y 0 _ rfl)
            have e : zi vs t.op t.n ks = yP y (ks.drop 2) := by rw [zi, zna h0, zna h24, zna h6, zna h8, zna h9, zna h10, zna h11, zna h12, zna h21, zna h22, znb (hp.1 p1), zY he_y]
            have hdr := hks.drop 2 (by omega)
            have hdl : (ks.drop 2).length = ks.length - 2 := List.length_drop
            refine Gs 3 O (zlg O O (zk6 tR262 ts255 O O ha_y (by omega)) (zlm O tg255 ts255 hc_y O (zkf O O (M.alloc (cs := _) tz255 O) ?_)))
            rintro _ wa14 ⟨o, rfl, hg_o, hs_o, hB_o, hk_o⟩
            refine zki O (zkj ts255 O O O O (by simp [Value.oneCell']) hB_o (by simp)) ?_
            rintro w_o ⟨_, hB_o, hkk_o⟩
            replace hk_o := hk_o.trans hkk_o (fun q hq h => by have h : q = o := h; omega)
            have hn_b_o : b ≠ o := by have := hB_b.lt; omega
            have hn_r_o : r ≠ o := by have := hB_r.lt; omega
            have hge_o : _ <= o := zn6 hE.size (Nat.le_of_eq hg_o.symm)
            obtain ⟨hE, hvs, hks, hB_b, hB_r, hc_y⟩ := Tr6 hk_o hE hvs hks hB_b hB_r hc_y
            refine Gs 6 O (zlg O O (zk9 tR262 ts255 O O (by omega)) (Gs 5 O (G.loop (σ := Nat) (fun k => [(6, .pointer (some ⟨r, 0, none⟩)), (9, .pointer (some ⟨o, 0, none⟩)), (207, .slice (if nk = 2 then ak else ak.map (·.add (2 * 2))) (ks.length - 2) (nk - 2)), (208, .int .i64 (ks.length - 2 : Nat)), (209, .int .i64 k)]) (fun k => fun w' => k <= ks.length - 2 /\ Blk w' o [.int .i64 (yP y ((ks.drop 2).take k)).1, .int .i64 (yP y ((ks.drop 2).take k)).2] 255 /\ Keep (fun q => q = o) w_o w') (fun k => ks.length - 2 - k) (0) (zkZ O) (⟨znf _, hB_o, Keep.refl _ _⟩) ?_)))
            rintro k w1 ⟨hk, hB_o, hk1⟩
            refine Gs 6 O (zjn O (fun hlt => ?_) (fun hlt => ?_))
            ·
             obtain ⟨z, he_z, hm_z⟩ := gE_ (ks.drop 2) (k) (by omega)
             obtain ⟨b_z, o_z, c_z, ha_z, _, hc_z, hR_z⟩ := hdr.at he_z
             obtain rfl := hR_z
             have hlt_z : b_z < _ := zn2 _ _ (hc_z 0 _ rfl)
             replace hc_z := hk1.cells (hk_o.cells hc_z (fun h => h)) (show b_z ≠ o by omega)
             refine Gs 6 O (zlg O O (zk6 tR262 ts255 O O ha_z (by omega)) (zlm O tg255 ts255 hc_z O (zkf O O (M.alloc (cs := _) tz255 O) ?_)))
             rintro _ wa ⟨c, rfl, hg_c, hs_c, hB_c, hk_c⟩
             refine zki O (zkj ts255 O O O O (by simp [Value.oneCell']) hB_c (by simp)) ?_
             rintro w3 ⟨_, hB_c, hk3⟩
             have hk13 : Ext w1 w3 := hk_c.trans hk3 (fun q hq h => by have h : q = c := h; omega)
             replace hB_o := hk13.blk hB_o (fun h => h)
             refine Gs 3 O (zlm O tg255 ts255 hB_o.cells O (zlm O tg255 ts255 hB_c.cells O (G.call O Tryz.call217 (zeY (yP y ((ks.drop 2).take k)) z w3) ?_)))
             rintro _ w4 ⟨rfl, hk4⟩
             refine zki O (zkj ts255 O O O O (by simp [Value.oneCell']) (hk4.blk hB_o (fun h => h)) (by simp)) ?_
             rintro w5 ⟨_, hB5, hk5⟩
             refine Ga 7 O (by omega) (zjy (k + 1) (zkZ O) (⟨by omega, ?_, (hk1.ext (hk13.ext hk4)).trans hk5 (fun _ _ h => h)⟩) (by first | omega | (dsimp only; omega)))
             rw [jY he_z]
             exact hB5
            ·
             have hkk : k = ks.length - 2 := by omega
             have hr1 := hk1.blk hB_r hn_r_o
             rw [hkk, <- hdl, zn5, <- e] at hB_o
             refine Gs 7 O (zlm O tg255 ts255 hB_o.cells O (zki O (zkj ts255 O O O O (by simp [Value.oneCell']) hr1 (by simp)) ?_))
             rintro wf ⟨_, hBf, hkf⟩
             refine Gs 5 O (zjP tr212 O (zr tg255 ts255 O hBf.cells) ?_)
             exact ⟨_, rfl, rfl, (hE.trans hk1 (fun q hq h => by have h : q = o := h; omega)).trans hkf (fun q hq h => by have h : q = r := h; omega)⟩
           ·
            have e := hbase (fun h => by rw [hp.2 h] at p1; cases p1)
            refine Gs 5 O (zlg O O (R.build (v := .agg #[.int .i64 0, .int .i64 1]) [(0, _), (1, _)] O (fun _ => by kernel_rfl)) (zki O (zkj ts255 O O O O (by simp [Value.oneCell']) hB_r (by simp)) ?_))
            rintro wf ⟨_, hBf, hkf⟩
            refine Gs 3 O (zjP tr212 O (zr tg255 ts255 O hBf.cells) ?_)
            exact ⟨_, rfl, by rw [e] <;> rfl, hE.trans hkf (fun q hq h => by have h : q = r := h; omega)⟩
end Go.Proofs.YtbkhagigkglgoaaGreatDoor
namespace Go.GL.Gr
def okE (n : Int) (e : Int × Int) : Bool := decide (0 <= e.1 /\ e.1 < n) && decide (0 <= e.2 /\ e.2 < n)
def check (n : Int) (es : List (Int × Int)) : Int := if n < 0 then 1 else if 4096 < n \/ 1048576 < es.length then 4 else if es.all (okE n) then 0 else 3
end Go.GL.Gr
namespace Go.Proofs.YtbkhagigkglgoaaGreatDoor
open Go.GL
def zif (e : Int × Int) : List Value := [.int .i64 e.1, .int .i64 e.2]
theorem zgq (e : Int × Int) : (zif e).length = 2 := rfl
theorem zgr (e : Int × Int) : ∀ u ∈ zif e, u.oneCell' = true := by simp [zif, Value.oneCell']
end Go.Proofs.YtbkhagigkglgoaaGreatDoor
