/-
  Contracts and the mathematics that the proof needs. Nothing here is a claim.
-/
import Derived.Test.YtaenledoagbddaaGreatDoorKU1
namespace Go.GL
def zhi (env : Env) : List Nat -> Option Env
 | [] => some []
 | k :: r => match get env k with
  | some v => (match zhi env r with
   | some l => some ((k, v) :: l)
   | none => none)
  | none => none
def zcg (H : Hp) : List Nat -> Option Hp
 | [] => some []
 | k :: r => match zi H k with
  | some v => (match zcg H r with
   | some l => some ((k, v) :: l)
   | none => none)
  | none => none
def zhj (A : Tgs) : List Nat -> Option Tgs
 | [] => some []
 | k :: r => match tgt A k with
  | some v => (match zhj A r with
   | some l => some ((k, some v) :: l)
   | none => none)
  | none => none
theorem zbv {H : Hp} : ∀ {ks : List Nat} {H' : Hp}, zcg H ks = some H' -> Has H' H
 | [], H', h => by cases h; exact Has.nil
 | k :: r, H', h => by
  unfold zcg at h
  split at h
  ·
   rename_i v hv; split at h
   . rename_i l hl; cases h; exact Has.cons hv (zbv hl)
   . cases h
  . cases h
section
variable {P : Program} {T : Tab} {Z : Szs} {n : Nat} {Q : Exit -> Act -> World -> Prop} {ks : List Fr} {pos : Pos} {env : Env} {A : Tgs} {H : Hp} {Bs : zH} {ops : Array Oper} {v : Value}
theorem zm0 (k j : Nat) {w : World} {b o : Nat} {c : Value} {cs : List Value} (hn : (zi H k).isNone = true) (hp : Bs[j]? = some (w, fun _ => False)) (hc : Cells w b o (c :: cs)) (h : V P n Q ks pos env A ((k, .fro b o (c :: cs)) :: H) Bs) : V P n Q ks pos env A H Bs :=
 V.fro k (by simpa using hn) (zne hp) (znf _ _ (hc 0 c rfl)) (fun h => h) hc h
theorem zm1 (k j : Nat) {w : World} {S : Nat -> Prop} {b o : Nat} {c : Value} {cs : List Value} (hn : (zi H k).isNone = true) (hp : Bs[j]? = some (w, S)) (hS : ¬ S b) (hc : Cells w b o (c :: cs)) (h : V P n Q ks pos env A ((k, .fro b o (c :: cs)) :: H) Bs) : V P n Q ks pos env A H Bs :=
 V.fro k (by simpa using hn) (zne hp) (znf _ _ (hc 0 c rfl)) hS hc h
theorem V.dat {α : Type} {kk : Nat} {R : Rel α} [Dt R] {D : Nat -> Prop} {l : List α} (k j : Nat) {w0 : World} {S : Nat -> Prop} (hn : (zi H k).isNone = true) (hp : Bs[j]? = some (w0, S)) (hk : Nat.blt 0 kk = true) (hd : SlR kk R D w0 v l) (hS : ∀ b, D b -> b < w0.heap.size -> ¬ S b)
  (h : V P n Q ks pos env A ((k, .dat (fun b => D b /\ b < w0.heap.size) (fun w => SlR kk R (fun b => D b /\ b < w0.heap.size) w v l)) :: H) Bs) : V P n Q ks pos env A H Bs :=
 fun hA w' hI => h (hA.new (by simpa using hn)) w' (by
  have h1 := hI.dat k (p := (w0, S)) (zne hp) (show 0 < kk by simpa [Nat.blt_eq] using hk) hd hS
  exact h1)
theorem zm2 (k : Nat) {e e' : HE} (hg : zi H k = some e) (he : e = e') (h : V P n Q ks pos env A (hset H k e') Bs) : V P n Q ks pos env A H Bs := by
 subst he
 intro hA w hI
 have hh : ∀ (H : Hp), zi H k = some e -> hset H k e = H := by
  intro H
  induction H with
  | nil => intro h; cases h
  | cons x r ih =>
   obtain ⟨k', e'⟩ := x
   intro h
   simp only [zi] at h
   simp only [hset]
   cases hb : Nat.beq k' k with
   | true => rw [hb] at h; cases h; rfl
   | false => rw [hb] at h; simp only [cond_false]; rw [ih h]
 rw [hh H hg] at h
 exact h hA w hI
theorem zm3 {σ : Type} (es hs ts : List Nat) {E1 : Env} {H1 : Hp} {A1 : Tgs} (_hp : (zhi env es, zcg H hs, zhj A ts) = (some E1, some H1, some A1)) (env' : Env -> σ -> Env) (H' : Hp -> σ -> Hp) (I : σ -> Prop) (μ : σ -> Nat) {c : Code} (s₀ : σ) (h₀ : Sub (env' E1 s₀) env) (hH : Has (H' H1 s₀) H) (hu : ∀ s, xP ((H' H1 s).map (·.1)) = true)
  (hA' : ∀ s, A1.map (fun p => zcf (env' E1 s) p.1) = A1.map (fun p => qP (H' H1 s) p.2)) (hA2 : ∀ s, A1.all (fun p => (qP (H' H1 s) p.2).isSome) = true) (hI : I s₀)
  (h : ∀ s, I s -> V P n Q (.k (zh8 n (env' E1) (fun s w => I s /\ VI Bs (H' H1 s) w) μ (μ s)) :: ks) (.c c) (env' E1 s) A1 (H' H1 s) Bs) : V P n Q ks (.c (.loop c)) env A H Bs :=
 V.loop (env' E1) A1 (H' H1) I μ s₀ h₀ hH hu (fun s => ⟨hA' s, hA2 s⟩) hI h
theorem zm4 {σ : Type} (es hs ts : List Nat) {E1 : Env} {H1 : Hp} {A1 : Tgs} (_hp : (zhi env es, zcg H hs, zhj A ts) = (some E1, some H1, some A1)) (env' : Env -> σ -> Env) (H' : Hp -> σ -> Hp) (I : σ -> Prop) {c : Code}
  (hA' : ∀ s, A1.map (fun p => zcf (env' E1 s) p.1) = A1.map (fun p => qP (H' H1 s) p.2)) (hA2 : ∀ s, A1.all (fun p => (qP (H' H1 s) p.2).isSome) = true)
  (h : V P n Q (.k (zh9 n (env' E1) (fun s w => I s /\ VI Bs (H' H1 s) w)) :: ks) (.c c) env A H Bs) (hk : ∀ s, I s -> V P n Q ks (.e .normal) (env' E1 s) A1 (H' H1 s) Bs) : V P n Q ks (.c c) env A H Bs :=
 V.cut (env' E1) A1 (H' H1) I (fun s => ⟨hA' s, hA2 s⟩) h hk
theorem zm5 {id : Nat} {l : List Oper} (hs L : List Nat) {Hs : Hp} (hm : P.follows .mixedOrders = true) (hp : zcg H hs = some Hs) (h : VD P n Q ks l.toArray Hs Bs L l.length (Array.replicate l.length false) env A H Bs) : V P n Q ks (.c (.region id l.toArray true)) env A H Bs := zko Hs L hm (zbv hp) h
end
def zj8 : List Value -> List Value -> Option (List Value)
 | [], l => some l
 | u :: us, l => match zj8 us l with
  | some r => some (u :: r)
  | none => none
def zaH : List Value -> Option (List Value)
 | [] => some []
 | v :: r => match zcV v with
  | some us => (match zaH r with
   | some l => zj8 us l
   | none => none)
  | none => none
def zif : Value -> List Value
 | .agg ⟨l⟩ => l
 | v => [v]
def zhk (places : List (Nat × Nat)) : List Value -> List (Nat × Value) -> Option (List Value)
 | cs, [] => some cs
 | cs, (i, v) :: r => match nth places i with
  | some (off, _) => (match wrE (zif v) off cs with
   | some cs' => zhk places cs' r
   | none => none)
  | none => none
section
variable {P : Program} {T : Tab} {Z : Szs} {n : Nat} {Q : Exit -> Act -> World -> Prop} {ks : List Fr} {pos : Pos} {env : Env} {A : Tgs} {H Hs : Hp} {Bs B0 : zH} {ops : Array Oper} {rest : List Oper} {v : Value} {L : List Nat} {fuel : Nat} {listed : Array Bool}
variable {d : Nat} {op : Op} {ty : TypeId} {ps : String} {aft : Array Edge} {g : Option (Nat × Bool)}
theorem zm6 (k : Nat) {t e : TypeId} {len kk : Nat} {parts : Array (Nat × Operand)} {z : Value} {cs : List Value} (vs : List (Nat × Value)) (hu : ∀ w, (underlying t).run P w = .ok (.slice e) w) (hs : ∀ w, (sizeOf e).run P w = .ok kk w) (hz : ∀ w, (zeroValue e).run P w = .ok z w)
  (hlen : len * kk ≠ 0 /\ len * kk <= 16777216) (hn : (Nat.blt d n, gd ops env g, (zi H k).isNone, parts.toList.map (fun p => (p.1, ev env p.2))) = (true, some true, true, vs.map (fun p => (p.1, some p.2)))) (_hcs : zaH (vs.map (·.2)) = some cs) (hf : Instr.fill (fun i => some (i * kk, kk)) ((Array.range (len * kk)).map (z.cells[· % z.cells.size]!)) vs = some cs.toArray)
  (h : ∀ b, V P n Q ks (.o ops rest) ((d, .slice (some ⟨b, 0, none⟩) len len) :: env) ((d, none) :: A) ((k, .own b cs e) :: H) Bs) : V P n Q ks (.o ops (⟨some d, .buildSlice t len parts, ty, ps, aft, g⟩ :: rest)) env A H Bs := by
 simp only [Prod.mk.injEq] at hn
 exact zlH k (u := fun b => .slice (some ⟨b, 0, none⟩) len len) (by rw [hn.1, hn.2.1, hn.2.2.1]) (fun _ _ => M.buildSlice vs hu hs hz hlen hn.2.2.2 hf) h
theorem zm8 {α : Type} {R : Rel α} (k : Nat) {t e : TypeId} {kk by' : Nat} {z : Value} {x y : Operand} {m : Nat} {xs : List Value} {vy : Value} {l : List α} (enc : α -> List Value) (hc : ∀ x, (enc x).length = kk) (h1 : ∀ x, ∀ u ∈ enc x, u.oneCell' = true) (hR : ∀ D w x cs, R D w x cs -> cs = enc x)
  (hu : P.underlying t = some (.slice e)) (he : (P.info? e).map (fun i => (i.zero, i.size, i.bytes)) = some (some z, kk, by')) (hzs : z.cells.size = kk) (hk0 : 0 < kk) (hn : (Nat.blt d n, gd ops env g, zi H k, ev env x, ev env y) = (true, some true, some (.row e kk v m xs), some v, some vy))
  (hsl : ∀ w, VI Bs H w -> ∃ D, SlR kk R D w vy l) (hmax : m + l.length <= 9223372036854775807) (hby : (m + l.length) * by' <= 140737488355328)
  (h : ∀ u, V P n Q ks (.o ops rest) ((d, u) :: env) ((d, none) :: A) (hset H k (.row e kk u (m + l.length) (xs ++ l.flatMap enc))) Bs) : V P n Q ks (.o ops (⟨some d, .call ⟨.builtin .append, #[x, y], #[t, t]⟩, ty, ps, aft, g⟩ :: rest)) env A H Bs := by
 simp only [Prod.mk.injEq] at hn
 obtain ⟨h2, h3, h4, h5, h6⟩ := hn
 intro hA w hI
 obtain ⟨D, hsl⟩ := hsl w hI
 refine G.mem h2 h3 (zkN enc hc h1 (fun x cs => hR D w x cs) hu he hzs hk0 h5 h6 hsl (hI.at k h4) hmax hby) ?_
 rintro u w' ⟨ho, hf, hk⟩
 refine h u (TgOk.none (hA.res h4 ?_)) w' (hI.set h4 hk ho trivial (fun _ h => h) (fun q hq => ⟨?_, xl ho hq⟩))
 . simp [xV, h4]
 ·
  rcases hf with hf | ⟨g', hf, hg'⟩
  . exact .inl (by show v.ownBlock = some q; rw [<- hf]; exact hq)
  ·
   have hq : u.ownBlock = some q := hq
   rw [hf] at hq; cases hq; exact .inr hg'
theorem V.bs0 (k : Nat) {t e : TypeId} {kk : Nat} (hu : ∀ w, (underlying t).run P w = .ok (.slice e) w) (hs : ∀ w, (sizeOf e).run P w = .ok kk w) (hn : (Nat.blt d n, gd ops env g, (zi H k).isNone) = (true, some true, true))
  (h : ∀ b, V P n Q ks (.o ops rest) ((d, .slice (some ⟨b, 0, none⟩) 0 0) :: env) ((d, none) :: A) ((k, .row e kk (.slice (some ⟨b, 0, none⟩) 0 0) 0 []) :: H) Bs) : V P n Q ks (.o ops (⟨some d, .buildSlice t 0 #[], ty, ps, aft, g⟩ :: rest)) env A H Bs := by
 simp only [Prod.mk.injEq, Option.isNone_iff_eq_none] at hn
 refine fun hA w hI => G.mem hn.1 hn.2.1 (zkJ hu hs) ?_
 rintro _ w' ⟨b, rfl, hb, hsz, hB, hk⟩
 refine h b (TgOk.none (hA.new hn.2.2)) w' (hI.new hk k ?_ trivial (fun _ h => h) (fun q hq => ?_))
 ·
  have := yY (k := kk) (n := 0) (cap := 0) hB (znC _) (by omega) (by simp)
  show w'.ownsRow 0 e kk _ 0 []
  simpa using this
 ·
  have hq : some b = some q := hq
  cases hq
  omega
theorem zm9 {t : TypeId} {parts : Array (Nat × Operand)} {l : List Value} (zs : List Value) (places : List (Nat × Nat)) (vs : List (Nat × Value)) (hn : (Nat.blt d n, gd ops env g, parts.toList.map (fun p => (p.1, ev env p.2))) = (true, some true, vs.map (fun p => (p.1, some p.2)))) (_hl : zhk places zs vs = some l) (hb : ∀ w, (Instr.build t vs.toArray).run P w = .ok (.agg l.toArray) w)
  (h : V P n Q ks (.o ops rest) ((d, .agg l.toArray) :: env) ((d, none) :: A) H Bs) : V P n Q ks (.o ops (⟨some d, .build t parts, ty, ps, aft, g⟩ :: rest)) env A H Bs := by
 simp only [Prod.mk.injEq] at hn
 exact zll (by rw [hn.1, hn.2.1]) (fun _ _ => R.build vs hn.2.2 hb) h
theorem VD.pl (i : Nat) (hi : ops[i]? = some ⟨some d, op, ty, ps, aft, g⟩) (hc : zcT ops [i] listed = true) (hn : (Nat.blt d n, gd ops env g) = (true, some true)) (hr : ∀ w, zI P ⟨some d, op, ty, ps, aft, g⟩ env w v w)
  (h : VD P n Q ks ops Hs B0 L fuel (listed.setIfInBounds i true) ((d, v) :: env) ((d, none) :: A) H Bs) : VD P n Q ks ops Hs B0 L (fuel + 1) listed env A H Bs := by
 simp only [Prod.mk.injEq] at hn
 unfold zcT at hc
 rw [Bool.and_eq_true] at hc
 exact fun hH hA w hI => zlw i hi hc.1 O hn.1 (.inl ⟨xq hn.2, fun w' nn a haa => hr w' nn a haa⟩) (h hH hA.none w hI)
theorem zma (i : Nat) {t : TypeId} {parts : Array (Nat × Operand)} {l : List Value} (zs : List Value) (places : List (Nat × Nat)) (vs : List (Nat × Value)) (hi : ops[i]? = some ⟨some d, .build t parts, ty, ps, aft, g⟩) (hc : zcT ops [i] listed = true) (hn : (Nat.blt d n, gd ops env g, parts.toList.map (fun p => (p.1, ev env p.2))) = (true, some true, vs.map (fun p => (p.1, some p.2)))) (_hl : zhk places zs vs = some l) (hb : ∀ w, (Instr.build t vs.toArray).run P w = .ok (.agg l.toArray) w)
  (h : VD P n Q ks ops Hs B0 L fuel (listed.setIfInBounds i true) ((d, .agg l.toArray) :: env) ((d, none) :: A) H Bs) : VD P n Q ks ops Hs B0 L (fuel + 1) listed env A H Bs := by
 simp only [Prod.mk.injEq] at hn
 exact VD.pl i hi hc (by rw [hn.1, hn.2.1]) (fun _ => R.build vs hn.2.2 hb) h
theorem zm7 (i k j : Nat) {t e : TypeId} {len kk : Nat} {parts : Array (Nat × Operand)} {z : Value} {cs : List Value} (vs : List (Nat × Value)) (hu : ∀ w, (underlying t).run P w = .ok (.slice e) w) (hs : ∀ w, (sizeOf e).run P w = .ok kk w) (hz : ∀ w, (zeroValue e).run P w = .ok z w)
  (hlen : len * kk ≠ 0 /\ len * kk <= 16777216) (hi : ops[i]? = some ⟨some d, .buildSlice t len parts, ty, ps, aft, g⟩) (hr : Region.ready .any ops listed = [i]) (hn : (Nat.blt d n, gd ops env g, (zi H k).isNone, xP (Hs.map (·.1)), parts.toList.map (fun p => (p.1, ev env p.2)), Bs.drop j) = (true, some true, true, true, vs.map (fun p => (p.1, some p.2)), B0)) (_hcs : zaH (vs.map (·.2)) = some cs) (hf : Instr.fill (fun i => some (i * kk, kk)) ((Array.range (len * kk)).map (z.cells[· % z.cells.size]!)) vs = some cs.toArray)
  (h : ∀ b, VD P n Q ks ops Hs B0 L fuel (listed.setIfInBounds i true) ((d, .slice (some ⟨b, 0, none⟩) len len) :: env) ((d, none) :: A) ((k, .own b cs e) :: H) Bs) : VD P n Q ks ops Hs B0 L (fuel + 1) listed env A H Bs := by
 simp only [Prod.mk.injEq] at hn
 exact zlI i k j (u := fun b => .slice (some ⟨b, 0, none⟩) len len) hi hr (by rw [hn.1, hn.2.1, hn.2.2.1, hn.2.2.2.1]) hn.2.2.2.2.2 (fun _ _ => M.buildSlice vs hu hs hz hlen hn.2.2.2.2.1 hf) h
theorem zlQ (k : Nat) {t : TypeId} {kk m : Nat} {xs : List Value} (hn : zi H k = some (.row t kk v m xs)) (hm : 0 < m) (h : ∀ b c, v = .slice (some ⟨b, 0, none⟩) m c -> m <= c -> VD P n Q ks ops Hs B0 L fuel listed env A H Bs) : VD P n Q ks ops Hs B0 L fuel listed env A H Bs := by
 intro hH hA w hI
 have ho : w.ownsRow 0 t kk v m xs := hI.at k hn
 rcases ho.2 with ⟨_, hm0⟩ | ⟨b, cap, cur, hv, _, _, hc, _⟩
 . omega
 . exact h b cap hv hc hH hA w hI
theorem VD.bs0 (i k j : Nat) {t e : TypeId} {kk : Nat} (hu : ∀ w, (underlying t).run P w = .ok (.slice e) w) (hs : ∀ w, (sizeOf e).run P w = .ok kk w) (hi : ops[i]? = some ⟨some d, .buildSlice t 0 #[], ty, ps, aft, g⟩) (hr : Region.ready .any ops listed = [i]) (hn : (Nat.blt d n, gd ops env g, (zi H k).isNone, xP (Hs.map (·.1)), Bs.drop j) = (true, some true, true, true, B0))
  (h : ∀ b, VD P n Q ks ops Hs B0 L fuel (listed.setIfInBounds i true) ((d, .slice (some ⟨b, 0, none⟩) 0 0) :: env) ((d, none) :: A) ((k, .row e kk (.slice (some ⟨b, 0, none⟩) 0 0) 0 []) :: H) Bs) : VD P n Q ks ops Hs B0 L (fuel + 1) listed env A H Bs := by
 simp only [Prod.mk.injEq, Option.isNone_iff_eq_none] at hn
 obtain ⟨h1, h2, h3, h4, rfl⟩ := hn
 refine fun hH hA w hI => zlX i hi hr h1 h2 (.inl (zkJ hu hs)) ?_
 rintro _ w' ⟨b, rfl, hb, hsz, hB, hk⟩
 have hI' : VI Bs ((k, .row e kk (.slice (some ⟨b, 0, none⟩) 0 0) 0 []) :: H) w' := hI.new hk k (by
  have := yY (k := kk) (n := 0) (cap := 0) hB (znC _) (by omega) (by simp)
  show w'.ownsRow 0 e kk _ 0 []
  simpa using this) trivial (fun _ h => h) (fun q hq => by
  have hq : some b = some q := hq
  cases hq
  omega)
 have hH' : Has Hs ((k, .row e kk (.slice (some ⟨b, 0, none⟩) 0 0) 0 []) :: H) := hH.new h3
 exact ⟨(hI'.drop j).pick hH' h4, h b hH' (TgOk.none (hA.new h3)) w' hI'⟩
theorem VD.apS {α : Type} {R : Rel α} (i k j : Nat) {t e : TypeId} {kk by' : Nat} {z : Value} {x y : Operand} {m : Nat} {xs : List Value} {vy : Value} {l : List α} (enc : α -> List Value) (hc : ∀ x, (enc x).length = kk) (h1 : ∀ x, ∀ u ∈ enc x, u.oneCell' = true) (hR : ∀ D w x cs, R D w x cs -> cs = enc x)
  (hu : P.underlying t = some (.slice e)) (he : (P.info? e).map (fun i => (i.zero, i.size, i.bytes)) = some (some z, kk, by')) (hzs : z.cells.size = kk) (hk0 : 0 < kk) (hi : ops[i]? = some ⟨some d, .call ⟨.builtin .append, #[x, y], #[t, t]⟩, ty, ps, aft, g⟩) (hr : Region.ready .any ops listed = [i]) (hB : Bs.drop j = B0)
  (hn : (Nat.blt d n, gd ops env g, zi H k, ev env x, ev env y, xP (Hs.map (·.1)), xm k (Hs.map (·.1))) = (true, some true, some (.row e kk v m xs), some v, some vy, true, true))
  (hsl : ∀ w, VI Bs H w -> ∃ D, SlR kk R D w vy l) (hmax : m + l.length <= 9223372036854775807) (hby : (m + l.length) * by' <= 140737488355328)
  (h : ∀ u, VD P n Q ks ops Hs B0 L fuel (listed.setIfInBounds i true) ((d, u) :: env) ((d, none) :: A) (hset H k (.row e kk u (m + l.length) (xs ++ l.flatMap enc))) Bs) : VD P n Q ks ops Hs B0 L (fuel + 1) listed env A H Bs := by
 simp only [Prod.mk.injEq] at hn
 subst hB
 obtain ⟨h2, h3, h4, h5, h6, h8, h9⟩ := hn
 intro hH hA w hI
 obtain ⟨D, hsl⟩ := hsl w hI
 refine zlX i hi hr h2 h3 (.inl (zkN enc hc h1 (fun x cs => hR D w x cs) hu he hzs hk0 h5 h6 hsl (hI.at k h4) hmax hby)) ?_
 rintro u w' ⟨ho, hf, hk⟩
 have hI' : VI Bs (hset H k (.row e kk u (m + l.length) (xs ++ l.flatMap enc))) w' := hI.set h4 hk ho trivial (fun _ h => h) (fun q hq => ⟨by
  rcases hf with hf | ⟨g', hf, hg'⟩
  . exact .inl (by show v.ownBlock = some q; rw [<- hf]; exact hq)
  ·
   have hq : u.ownBlock = some q := hq
   rw [hf] at hq; cases hq; exact .inr hg', xl ho hq⟩)
 have hH' : Has Hs (hset H k (.row e kk u (m + l.length) (xs ++ l.flatMap enc))) := hH.set h4 h9
 exact ⟨(hI'.drop j).pick hH' h8, h u hH' (TgOk.none (hA.res h4 (by simp [xV, h4]))) w' hI'⟩
end
section
variable {P : Program} {T : Tab} {Z : Szs} {n : Nat} {Q : Exit -> Act -> World -> Prop} {ks : List Fr} {env env' : Env} {A A' : Tgs} {H Hs : Hp} {Bs B0 : zH} {ops : Array Oper} {v : Value} {L : List Nat} {fuel : Nat} {listed : Array Bool}
theorem VD.one (hT : zl8 P T) (hZ : zl9 P Z) (i j : Nat) {d : Nat} {op : Op} {ty : TypeId} {ps : String} {aft : Array Edge} {g : Option (Nat × Bool)} {t : Option (Nat × Nat)} (hi : ops[i]? = some ⟨some d, op, ty, ps, aft, g⟩) (hr : Region.ready .any ops listed = [i]) (hn : (Nat.blt d n, gd ops env g, opV T Z env A H op, xP (Hs.map (·.1))) = (true, some true, some (none, v, t), true)) (hB : Bs.drop j = B0)
  (h : VD P n Q ks ops Hs B0 L fuel (listed.setIfInBounds i true) ((d, v) :: env) ((d, t) :: A) H Bs) : VD P n Q ks ops Hs B0 L (fuel + 1) listed env A H Bs := by
 simp only [Prod.mk.injEq] at hn
 subst hB
 intro hH hA w hI
 obtain ⟨h1, h2⟩ := zan (w := w) (Bs := Bs) hT hZ hn.2.2.1 hA
 refine zlX i hi hr hn.1 hn.2.1 (R := fun u w' => u = v /\ w' = w) (.inl ⟨v, w, ?_, rfl, rfl⟩) ?_
 . exact fun nn a ha => h2 hI trivial (some d) ty ps aft nn a ha
 rintro _ _ ⟨rfl, rfl⟩
 exact ⟨(hI.drop j).pick hH hn.2.2.2, h hH (h1 d) _ hI⟩
end
end Go.GL
namespace Go.Proofs
open Go.GL
def Tryz.szs : Szs := [(3, 0), (27, 0), (55, 2), (36, 1), (86, 3), (34, 0), (24, 0), (26, 3), (226, 2), (22, 0), (84, 0), (53, 0), (89, 5), (92, 10), (61, 3), (23, 0), (123, 3), (90, 0), (95, 6), (83, 0), (234, 0), (9, 0), (37, 0), (4, 0), (148, 3), (160, 0), (29, 2), (159, 0), (191, 4), (5, 0), (259, 32), (260, 64), (257, 20)]
theorem Tryz.szsOk : zl9 Tryz.prog Tryz.szs :=
 zld (show Szs.one _ 3 0 from ⟨tg3, ts3⟩) <|
 zld (show Szs.one _ 27 0 from ⟨tg27, ts27⟩) <|
 zld (show Szs.one _ 55 2 from ⟨tg55, ts55⟩) <|
 zld (show Szs.one _ 36 1 from ⟨tg36, ts36⟩) <|
 zld (show Szs.one _ 86 3 from ⟨tg86, ts86⟩) <|
 zld (show Szs.one _ 34 0 from ⟨Tryz.isAgg34, Tryz.sizeOf34⟩) <|
 zld (show Szs.one _ 24 0 from ⟨tg24, ts24⟩) <|
 zld (show Szs.one _ 26 3 from ⟨tg26, ts26⟩) <|
 zld (show Szs.one _ 226 2 from ⟨tg226, ts226⟩) <|
 zld (show Szs.one _ 22 0 from ⟨tg22, Tryz.sizeOf22⟩) <|
 zld (show Szs.one _ 84 0 from ⟨tg84, Tryz.sizeOf84⟩) <|
 zld (show Szs.one _ 53 0 from ⟨tg53, ts53⟩) <|
 zld (show Szs.one _ 89 5 from ⟨tg89, ts89⟩) <|
 zld (show Szs.one _ 92 10 from ⟨tg92, ts92⟩) <|
 zld (show Szs.one _ 61 3 from ⟨tg61, ts61⟩) <|
 zld (show Szs.one _ 23 0 from ⟨tg23, Tryz.sizeOf23⟩) <|
 zld (show Szs.one _ 123 3 from ⟨Tryz.isAgg123, Tryz.sizeOf123⟩) <|
 zld (show Szs.one _ 90 0 from ⟨tg90, Tryz.sizeOf90⟩) <|
 zld (show Szs.one _ 95 6 from ⟨tg95, ts95⟩) <|
 zld (show Szs.one _ 83 0 from ⟨tg83, Tryz.sizeOf83⟩) <|
 zld (show Szs.one _ 234 0 from ⟨Tryz.isAgg234, ts234⟩) <|
 zld (show Szs.one _ 9 0 from ⟨tg9, ts9⟩) <|
 zld (show Szs.one _ 37 0 from ⟨Tryz.isAgg37, Tryz.sizeOf37⟩) <|
 zld (show Szs.one _ 4 0 from ⟨tg4, ts4⟩) <|
 zld (show Szs.one _ 148 3 from ⟨Tryz.isAgg148, ts148⟩) <|
 zld (show Szs.one _ 160 0 from ⟨Tryz.isAgg160, Tryz.sizeOf160⟩) <|
 zld (show Szs.one _ 29 2 from ⟨Tryz.isAgg29, Tryz.sizeOf29⟩) <|
 zld (show Szs.one _ 159 0 from ⟨Tryz.isAgg159, Tryz.sizeOf159⟩) <|
 zld (show Szs.one _ 191 4 from ⟨Tryz.isAgg191, Tryz.sizeOf191⟩) <|
 zld (show Szs.one _ 5 0 from ⟨tg5, ts5⟩) <|
 zld (show Szs.one _ 259 32 from ⟨Tryz.isAgg259, Tryz.sizeOf259⟩) <|
 zld (show Szs.one _ 260 64 from ⟨Tryz.isAgg260, Tryz.sizeOf260⟩) <|
 zld (show Szs.one _ 257 20 from ⟨Tryz.isAgg257, Tryz.sizeOf257⟩) <|
 zlb
end Go.Proofs
namespace Go.Proofs.YtaenledoagbddaaGreatDoor
open Go.GL
section
variable {n : Nat} {Q : Exit -> Act -> World -> Prop} {ks ks' : List Fr} {pos pos' : Pos} {env env' : Env} {A A' : Tgs} {H H' Hs : Hp} {Bs B0 : zH} {ops : Array Oper} {L : List Nat} {fuel : Nat} {listed : Array Bool} {v : Value}
theorem Vs (k : Nat) (h : zbs Tryz.tab Tryz.szs n k none ks pos env A H = some (none, ks', pos', env', A', H')) (hr : V Tryz.prog n Q ks' pos' env' A' H' Bs) : V Tryz.prog n Q ks pos env A H Bs := V.go Tryz.tabOk Tryz.szsOk k h hr
theorem Va (k : Nat) {p : Prop} (h : zbs Tryz.tab Tryz.szs n k none ks pos env A H = some (some p, ks', pos', env', A', H')) (hp : p) (hr : V Tryz.prog n Q ks' pos' env' A' H' Bs) : V Tryz.prog n Q ks pos env A H Bs := V.goA Tryz.tabOk Tryz.szsOk k h hp hr
theorem Vq {id : Nat} {l : List Oper} (hB : Region.lexB .any l.toArray = true) (h : V Tryz.prog n Q ks (.q l.toArray l) env A H Bs) : V Tryz.prog n Q ks (.c (.region id l.toArray true)) env A H Bs := zkk Tryz.mixed hB h
theorem Vw {id : Nat} {l : List Oper} (hs L : List Nat) (hp : zcg H hs = some Hs) (h : VD Tryz.prog n Q ks l.toArray Hs Bs L l.length (Array.replicate l.length false) env A H Bs) : V Tryz.prog n Q ks (.c (.region id l.toArray true)) env A H Bs := zm5 hs L Tryz.mixed hp h
theorem Vd (is : List Nat) (j : Nat) (hc : zaG ops L is listed = true) (hB : Bs.drop j = B0) (hv : zdv Tryz.tab Tryz.szs n ops Hs is none env A = some (none, env', A')) (hH0 : xP (Hs.map (·.1)) = true) (h : VD Tryz.prog n Q ks ops Hs B0 L fuel (zbn is listed) env' A' H Bs) : VD Tryz.prog n Q ks ops Hs B0 L (zbf is fuel) listed env A H Bs := VD.ps Tryz.tabOk Tryz.szsOk is j hc hB hv hH0 h
theorem Vb (is : List Nat) (j : Nat) {p : Prop} (hc : zaG ops L is listed = true) (hB : Bs.drop j = B0) (hv : zdv Tryz.tab Tryz.szs n ops Hs is none env A = some (some p, env', A')) (hH0 : xP (Hs.map (·.1)) = true) (hp : p) (h : VD Tryz.prog n Q ks ops Hs B0 L fuel (zbn is listed) env' A' H Bs) : VD Tryz.prog n Q ks ops Hs B0 L (zbf is fuel) listed env A H Bs := zlB Tryz.tabOk Tryz.szsOk is j hc hB hv hH0 hp h
theorem Ve (i j : Nat) {t : TypeId} {x y : Operand} {ty : TypeId} {ps : String} {aft : Array Edge} {g : Option (Nat × Bool)} (hi : ops[i]? = some ⟨none, .store t x y, ty, ps, aft, g⟩) (hr : Region.ready .any ops listed = [i]) (hn : (gd ops env g, kC Tryz.szs env A H t x y, xP (Hs.map (·.1))) = (some true, some H', true)) (hB : Bs.drop j = B0) (hH' : Hs.map (fun x => zi H' x.1) = Hs.map (fun x => some x.2))
  (h : VD Tryz.prog n Q ks ops Hs B0 L fuel (listed.setIfInBounds i true) env A H' Bs) : VD Tryz.prog n Q ks ops Hs B0 L (fuel + 1) listed env A H Bs := VD.st i j Tryz.szsOk hi hr hn hB hH' h
theorem Vl (i : Nat) {t : TypeId} {x y : Operand} {ty : TypeId} {ps : String} {aft : Array Edge} {g : Option (Nat × Bool)} (hi : ops[i]? = some ⟨none, .store t x y, ty, ps, aft, g⟩) (hr : Region.ready .any ops listed = [i]) (hn : (gd ops env g, kC Tryz.szs env A H t x y, L.contains i) = (some true, some H', true))
  (h : VDx Tryz.prog n Q ks ops (VI B0 Hs) L fuel (listed.setIfInBounds i true) env A H' Bs) : VD Tryz.prog n Q ks ops Hs B0 L (fuel + 1) listed env A H Bs := zlZ i Tryz.szsOk hi hr hn h
theorem Vx {S : World -> Prop} (is : List Nat) (hc : zcT ops is listed = true) (hv : zdv Tryz.tab Tryz.szs n ops [] is none env A = some (none, env', A')) (h : VDx Tryz.prog n Q ks ops S L fuel (zbn is listed) env' A' H Bs) : VDx Tryz.prog n Q ks ops S L (zbf is fuel) listed env A H Bs := zlz Tryz.tabOk Tryz.szsOk is hc hv h
theorem Vo (i j : Nat) {d : Nat} {op : Op} {ty : TypeId} {ps : String} {aft : Array Edge} {g : Option (Nat × Bool)} {t : Option (Nat × Nat)} (hi : ops[i]? = some ⟨some d, op, ty, ps, aft, g⟩) (hr : Region.ready .any ops listed = [i]) (hn : (Nat.blt d n, gd ops env g, opV Tryz.tab Tryz.szs env A H op, xP (Hs.map (·.1))) = (true, some true, some (none, v, t), true)) (hB : Bs.drop j = B0)
  (h : VD Tryz.prog n Q ks ops Hs B0 L fuel (listed.setIfInBounds i true) ((d, v) :: env) ((d, t) :: A) H Bs) : VD Tryz.prog n Q ks ops Hs B0 L (fuel + 1) listed env A H Bs := VD.one Tryz.tabOk Tryz.szsOk i j hi hr hn hB h
end
end Go.Proofs.YtaenledoagbddaaGreatDoor
namespace Go.GL
theorem Mat.put {α : Type} {enc : α -> Value} {e eo : TypeId} {B : Nat} {w w1 w2 : World} {bo : Nat} {rv : List Value} {rows : List (List α)} (h : Mat enc e eo B w bo rv rows) (hB : B <= w.heap.size) {i : Nat} {v v' : Value} {r' : List α} (hv : rv[i]? = some v)
  (hown : w1.ownsRow 0 e 1 v' r'.length (r'.map enc)) (hfr : v'.ownBlock = v.ownBlock \/ ∃ g, v'.ownBlock = some g /\ w.heap.size <= g) (hk : Keep (fun q => v.ownBlock = some q) w w1)
  (hst : zce w1 bo (rv.set i v') eo w2) : Mat enc e eo B w2 bo (rv.set i v') (rows.set i r') := by
 obtain ⟨hs2, hB2, hk2⟩ := hst
 have hbo := h.out.lt
 have hnew : ∀ g, v'.ownBlock = some g -> B <= g /\ g ≠ bo /\ (v.ownBlock = some g \/ w.heap.size <= g) := by
  intro g hg
  rcases hfr with h1 | ⟨g', h1, h2⟩
  ·
   rw [h1] at hg
   have := h.far i v g hv hg
   exact ⟨this.1, this.2, .inl hg⟩
  ·
   rw [h1] at hg
   cases hg
   exact ⟨by omega, by omega, .inr h2⟩
 have hi : i < rv.length := (znr.1 hv).1
 refine ⟨hB2, by simp [h.len], ?_, ?_, ?_⟩
 ·
  intro j u s hu hs
  by_cases hij : i = j
  ·
   subst hij
   rw [List.getElem?_set_self hi] at hu
   rw [List.getElem?_set_self (by rw [<- h.len]; exact hi)] at hs
   cases hu; cases hs
   exact zV hown hk2 (fun g hg h => by have := (hnew g hg).2.1; exact this h)
  ·
   rw [List.getElem?_set_ne hij] at hu hs
   have h1 := h.row j u s hu hs
   have h2 := zV h1 hk (fun g hg hv' => h.apart i j v u g hij hv hu hv' hg)
   exact zV h2 hk2 (fun g hg h' => (h.far j u g hu hg).2 h')
 ·
  intro j u g hu hg
  by_cases hij : i = j
  ·
   subst hij
   rw [List.getElem?_set_self hi] at hu
   cases hu
   exact ⟨(hnew g hg).1, (hnew g hg).2.1⟩
  ·
   rw [List.getElem?_set_ne hij] at hu
   exact h.far j u g hu hg
 ·
  intro j k u s g hjk hu hs hg hg'
  by_cases hij : i = j
  ·
   subst hij
   rw [List.getElem?_set_self hi] at hu
   rw [List.getElem?_set_ne hjk] at hs
   cases hu
   rcases (hnew g hg).2.2 with h1 | h1
   . exact h.apart i k v s g hjk hv hs h1 hg'
   . have := h.blk hs hg'; omega
  ·
   rw [List.getElem?_set_ne hij] at hu
   by_cases hik : i = k
   ·
    subst hik
    rw [List.getElem?_set_self hi] at hs
    cases hs
    rcases (hnew g hg').2.2 with h1 | h1
    . exact h.apart i j v u g hij hv hu h1 hg
    . have := h.blk hu hg; omega
   ·
    rw [List.getElem?_set_ne hik] at hs
    exact h.apart j k u s g hjk hu hs hg hg'
open Go.RowKit
def OwnsQ (w : World) (e : TypeId) (k : Nat) (v : Value) (n : Nat) (xs : List Value) : Prop :=
 xs.length = n * k /\ ∃ g off cap cs, v = .slice (some ⟨g, off, none⟩) n cap /\ Blk w g cs e /\ n <= cap /\ cap <= 9223372036854775807 /\ off + cap * k <= cs.length /\ (cs.drop off).take (n * k) = xs
theorem OwnsQ.keep {S : Nat -> Prop} {w w' : World} {e : TypeId} {k : Nat} {v : Value} {n : Nat} {xs : List Value} (h : OwnsQ w e k v n xs) (hk : Keep S w w') (hn : ∀ q, v.ownBlock = some q -> ¬ S q) : OwnsQ w' e k v n xs := by
 obtain ⟨h0, g, off, cap, cs, rfl, h1, h2⟩ := h
 exact ⟨h0, g, off, cap, cs, rfl, hk.blk h1 (hn g O), h2⟩
theorem OwnsQ.lt {w : World} {e : TypeId} {k : Nat} {v : Value} {n : Nat} {xs : List Value} (h : OwnsQ w e k v n xs) {q : Nat} (hq : v.ownBlock = some q) : q < w.heap.size := by
 obtain ⟨h0, g, off, cap, cs, rfl, h1, h2⟩ := h
 cases hq
 exact h1.lt
theorem OwnsQ.form {w : World} {e : TypeId} {k : Nat} {v : Value} {n : Nat} {xs : List Value} (h : OwnsQ w e k v n xs) : ∃ g off cap, v = .slice (some ⟨g, off, none⟩) n cap /\ n <= cap /\ cap <= 9223372036854775807 /\ Cells w g off xs := by
 obtain ⟨h0, g, off, cap, cs, rfl, h1, h2, h3, h4, h5⟩ := h
 refine ⟨g, off, cap, rfl, h2, h3, fun j u hu => ?_⟩
 rw [<- h5, znJ] at hu
 split at hu
 ·
  rw [List.getElem?_drop] at hu
  have := Blk.cells h1 (off + j) u hu
  simpa using this
 . cases hu
abbrev Qu (e : TypeId) (kk : Nat) (v : Value) (m : Nat) (xs : List Value) : HE := .res (fun q => v.ownBlock = some q) (fun w => OwnsQ w e kk v m xs)
theorem Qu.loc {e : TypeId} {kk : Nat} {v : Value} {m : Nat} {xs : List Value} : (Qu e kk v m xs).loc := fun _ _ _ h hk hT => h.keep hk fun q hq => hT q (h.lt hq) hq
abbrev MatP {α : Type} (enc : α -> Value) (e eo : TypeId) (B : Nat) (bo : Nat) (rv : List Value) (rows : List (List α)) : HE := .res (fun q => q = bo \/ ∃ (i : Nat) (v : Value), rv[i]? = some v /\ v.ownBlock = some q) (fun w => Mat enc e eo B w bo rv rows)
theorem MatP.loc {α : Type} {enc : α -> Value} {e eo : TypeId} {B bo : Nat} {rv : List Value} {rows : List (List α)} : (MatP enc e eo B bo rv rows).loc := fun _ _ _ h hk hT => h.keep hk (hT bo h.out.lt (.inl rfl)) fun i v g hv hg => hT g (h.blk hv hg) (.inr ⟨i, v, hv, hg⟩)
theorem VI.add {Bs : zH} {H : Hp} {w : World} {e : HE} (h : VI Bs H w) (k : Nat) (he : e.holds w) (hl : e.loc) (hz : ∀ b, ¬ e.fz b) (hS : ∀ q, e.S q -> q < w.heap.size /\ (∀ p ∈ Bs, p.2 q \/ p.1.heap.size <= q) /\ ∀ x ∈ H, ¬ x.2.S q /\ ¬ x.2.fz q) : VI Bs ((k, e) :: H) w := by
 refine ⟨?_, ?_, ?_, ?_, ?_, ?_⟩
 ·
  intro x hx
  rcases znt.1 hx with rfl | hx
  . exact he
  . exact h.holds x hx
 ·
  intro x hx
  rcases znt.1 hx with rfl | hx
  . exact hl
  . exact h.loc x hx
 . exact List.pairwise_cons.2 ⟨fun x hx q hq hs => ((hS q hq).2.2 x hx).1 hs, h.apart⟩
 ·
  intro x hx y hy b hb
  rcases znt.1 hx with rfl | hx
  . exact absurd hb (hz b)
  ·
   rcases znt.1 hy with rfl | hy
   . exact fun hs => ((hS b hs).2.2 x hx).2 hb
   . exact h.froz x hx y hy b hb
 ·
  intro x hx q hq
  rcases znt.1 hx with rfl | hx
  . exact (hS q hq).1
  . exact h.low x hx q hq
 ·
  intro p hp
  refine ⟨(h.base p hp).1, fun x hx q hq => ?_⟩
  rcases znt.1 hx with rfl | hx
  . exact (hS q hq).2.1 p hp
  . exact (h.base p hp).2 x hx q hq
structure RowsOk {α : Type} (enc : α -> Value) (e : TypeId) (w : World) (rv : List Value) (rows : List (List α)) : Prop where
 len : rv.length = rows.length
 row : ∀ (i : Nat) (v : Value) (r : List α), rv[i]? = some v -> rows[i]? = some r -> w.ownsRow 0 e 1 v r.length (r.map enc)
 apart : ∀ (i j : Nat) (vi vj : Value) (g : Nat), i ≠ j -> rv[i]? = some vi -> rv[j]? = some vj -> vi.ownBlock = some g -> vj.ownBlock ≠ some g
theorem Mat.rows {α : Type} {enc : α -> Value} {e eo : TypeId} {B : Nat} {w : World} {bo : Nat} {rv : List Value} {rows : List (List α)} (h : Mat enc e eo B w bo rv rows) : RowsOk enc e w rv rows := ⟨h.len, h.row, h.apart⟩
section
variable {α : Type} {enc : α -> Value} {e : TypeId} {w w1 : World} {rv : List Value} {rows : List (List α)}
theorem RowsOk.blk (h : RowsOk enc e w rv rows) {i : Nat} {v : Value} {g : Nat} (hv : rv[i]? = some v) (hg : v.ownBlock = some g) : g < w.heap.size := by
 have hi : i < rows.length := by rw [<- h.len]; exact (znr.1 hv).1
 exact xl (h.row i v _ hv (znd hi)) hg
theorem RowsOk.keep {S : Nat -> Prop} (h : RowsOk enc e w rv rows) (hk : Keep S w w1) (hS : ∀ (i : Nat) v g, rv[i]? = some v -> v.ownBlock = some g -> ¬ S g) : RowsOk enc e w1 rv rows :=
 ⟨h.len, fun i v r hv hr => zV (h.row i v r hv hr) hk (fun g hg => hS i v g hv hg), h.apart⟩
theorem RowsOk.put (h : RowsOk enc e w rv rows) {i : Nat} {v v' : Value} {r' : List α} (hv : rv[i]? = some v) (hown : w1.ownsRow 0 e 1 v' r'.length (r'.map enc)) (hfr : v'.ownBlock = v.ownBlock \/ ∃ g, v'.ownBlock = some g /\ w.heap.size <= g) (hk : Keep (fun q => v.ownBlock = some q) w w1) : RowsOk enc e w1 (rv.set i v') (rows.set i r') := by
 have hil := (znr.1 hv).1
 have hne : ∀ (j : Nat) u g, i ≠ j -> rv[j]? = some u -> v'.ownBlock = some g -> u.ownBlock ≠ some g := by
  intro j u g hij hu hg hug
  rcases hfr with hf | ⟨g', hf, hg'⟩
  . exact h.apart i j v u g hij hv hu (hf ▸ hg) hug
  ·
   rw [hf] at hg; cases hg
   have := h.blk hu hug
   omega
 refine ⟨by simp [h.len], fun j u r hu hr => ?_, fun a b va vb g hab ha hb hg => ?_⟩
 ·
  by_cases hij : i = j
  ·
   subst hij
   rw [List.getElem?_set_self hil] at hu
   rw [List.getElem?_set_self (by rw [<- h.len]; exact hil)] at hr
   cases hu; cases hr
   exact hown
  ·
   rw [List.getElem?_set_ne hij] at hu hr
   exact zV (h.row j u r hu hr) hk fun g hg hq => h.apart i j v u g hij hv hu hq hg
 ·
  by_cases hia : i = a
  ·
   subst hia
   rw [List.getElem?_set_self hil] at ha
   rw [List.getElem?_set_ne hab] at hb
   cases ha
   exact hne b vb g hab hb hg
  ·
   rw [List.getElem?_set_ne hia] at ha
   by_cases hib : i = b
   ·
    subst hib
    rw [List.getElem?_set_self hil] at hb
    cases hb
    exact fun hg' => hne a va g hia ha hg' hg
   ·
    rw [List.getElem?_set_ne hib] at hb
    exact h.apart a b va vb g hab ha hb hg
end
abbrev RowsP {α : Type} (enc : α -> Value) (e : TypeId) (rv : List Value) (rows : List (List α)) : HE := .res (fun q => ∃ (i : Nat) (v : Value), rv[i]? = some v /\ v.ownBlock = some q) (fun w => RowsOk enc e w rv rows)
theorem RowsP.loc {α : Type} {enc : α -> Value} {e : TypeId} {rv : List Value} {rows : List (List α)} : (RowsP enc e rv rows).loc := fun _ _ _ h hk hT => h.keep hk fun i v g hv hg => hT g (h.blk hv hg) ⟨i, v, hv, hg⟩
theorem Blk.ix {w : World} {b : Nat} {cs : List Value} {e : TypeId} {i : Nat} {v : Value} (h : Blk w b cs e) (hv : cs[i]? = some v) : w.cell? ⟨b, 0 + (i : Int).toNat * 1, none⟩ = some v := by
 have := Blk.cells h i v hv
 simpa using this
theorem MatP.cell {α : Type} {enc : α -> Value} {e eo : TypeId} {B bo : Nat} {rv : List Value} {rows : List (List α)} {w : World} {i : Nat} {v : Value} (h : (MatP enc e eo B bo rv rows).holds w) (hv : rv[i]? = some v) : w.cell? ⟨bo, 0 + (i : Int).toNat * 1, none⟩ = some v := by
 have := Blk.cells (Mat.out (show Mat enc e eo B w bo rv rows from h)) i v hv
 simpa using this
section
variable {P : Program} {T : Tab} {Z : Szs} {n : Nat} {Q : Exit -> Act -> World -> Prop} {ks : List Fr} {pos : Pos} {env : Env} {A : Tgs} {H Hs : Hp} {Bs B0 : zH} {ops : Array Oper} {rest : List Oper} {v : Value} {L : List Nat} {fuel : Nat} {listed : Array Bool}
variable {d : Nat} {op : Op} {ty : TypeId} {ps : String} {aft : Array Edge} {g : Option (Nat × Bool)}
theorem zmb (hn : (Nat.blt d n, gd ops env g) = (true, some true)) (hr : ∀ w, VI Bs H w -> zI P ⟨some d, op, ty, ps, aft, g⟩ env w v w) (h : V P n Q ks (.q ops rest) ((d, v) :: env) ((d, none) :: A) H Bs) : V P n Q ks (.q ops (⟨some d, op, ty, ps, aft, g⟩ :: rest)) env A H Bs := by
 simp only [Prod.mk.injEq] at hn
 exact fun hA w hI => zln hn.1 hn.2 (fun w1 hw1 => hr w1 (hI.ext hw1)) (h hA.none w hI)
theorem zmc (k : Nat) {e e' : HE} (hn : (zi H k, xV H k) = (some e, none)) (he : ∀ w, VI Bs H w -> e'.holds w) (hl : e'.loc) (hz : ∀ b, ¬ e'.fz b) (hS : ∀ q, e'.S q -> e.S q) (h : V P n Q ks pos env A (hset H k e') Bs) : V P n Q ks pos env A H Bs := by
 simp only [Prod.mk.injEq] at hn
 exact fun hA w hI => h (hA.res hn.1 hn.2) w (hI.set hn.1 (Keep.refl _ _) (he w hI) hl hz fun q hq => ⟨.inl (hS q hq), hI.low _ (zf hn.1) q (hS q hq)⟩)
theorem V.as (k : Nat) {b : Nat} {cs : List Value} {t : TypeId} {e' : HE} (hn : zi H k = some (.own b cs t)) (hA : A.all (fun p => match p.2 with | some (j, _) => !Nat.beq k j | none => true) = true) (he : ∀ w, Blk w b cs t -> e'.holds w) (hl : e'.loc) (hz : ∀ b, ¬ e'.fz b) (hS : ∀ q, e'.S q -> q = b) (h : V P n Q ks pos env A (hset H k e') Bs) : V P n Q ks pos env A H Bs := by
 refine fun hA0 w hI => h ?_ w (hI.set hn (Keep.refl _ _) (he w (hI.at k hn)) hl hz fun q hq => ⟨.inl (hS q hq), hI.low _ (zf hn) q (hS q hq)⟩)
 intro s j off hs
 obtain ⟨b', o, h1, h2⟩ := hA0 s j off hs
 have hkj : Nat.beq k j = false := by
  have : ∀ (A : Tgs), A.all (fun p => match p.2 with | some (j, _) => !Nat.beq k j | none => true) = true -> tgt A s = some (j, off) -> Nat.beq k j = false := by
   intro A
   induction A with
   | nil => intro _ h; cases h
   | cons p r ih =>
    obtain ⟨s0, gg⟩ := p
    intro h3 h4
    rw [List.all_cons, Bool.and_eq_true] at h3
    simp only [tgt] at h4
    cases hb : Nat.beq s0 s with
    | true =>
     rw [hb] at h4
     simp only [cond_true] at h4
     subst h4
     simpa using h3.1
    | false => rw [hb] at h4; exact ih h3.2 h4
  exact this A hA hs
 refine ⟨b', o, ?_, h2⟩
 unfold xV at h1 ⊢
 rw [qm hn, hkj]
 exact h1
theorem zmd (i : Nat) (hi : ops[i]? = some ⟨some d, op, ty, ps, aft, g⟩) (hc : (Region.noSelect ops && Region.free .any ops listed i && (Region.ready .any ops listed).contains i && L.all (qj .any ops i) && !L.contains i) = true) (hn : (Nat.blt d n, gd ops env g) = (true, some true)) (j : Nat) (hB : Bs.drop j = B0) (hu : xP (Hs.map (·.1)) = true) (hr : ∀ w, VI B0 Hs w -> zI P ⟨some d, op, ty, ps, aft, g⟩ env w v w)
  (h : VD P n Q ks ops Hs B0 L fuel (listed.setIfInBounds i true) ((d, v) :: env) ((d, none) :: A) H Bs) : VD P n Q ks ops Hs B0 L (fuel + 1) listed env A H Bs := by
 simp only [Prod.mk.injEq] at hn
 subst hB
 exact fun hH hA w hI => zl7 i hi hc O hn.1 ((hI.drop j).pick hH hu) (.inl ⟨xq hn.2, hr⟩) (h hH hA.none w hI)
theorem zme (i : Nat) {S : World -> Prop} {Q : Exit -> Act -> World -> Prop} {op : Op} {w : World} {R : World -> Prop} (hi : ops[i]? = some ⟨none, op, ty, ps, aft, g⟩) (hr : Region.ready .any ops listed = [i]) (hg : gd ops env g = some true) (hL : L.contains i = true) (hm : xk P ⟨none, op, ty, ps, aft, g⟩ env w R)
  (h : ∀ w', R w' -> WD P n ops Q S L fuel (listed.setIfInBounds i true) env w') : WD P n ops Q S L (fuel + 1) listed env w := by
 intro a ha
 refine ⟨fun h0 => (by rw [hr] at h0; cases h0), fun k hk => ?_⟩
 rw [hr] at hk
 have : k = i := by simpa using hk
 subst this
 unfold wpOp
 simp only [hi]
 rw [zno (xq hg a ha)]
 refine .inl ?_
 obtain ⟨w', hrun, hR⟩ := hm
 unfold Oper.wp
 rw [hrun n a ha, Oper.upon_skip]
 exact ⟨fun hc _ => absurd (by simpa using hL) hc, h w' hR _ ha.put0⟩
theorem V.split (k k2 : Nat) {α : Type} {enc : α -> Value} {e eo : TypeId} {B bo : Nat} {rv : List Value} {rows : List (List α)} (hn : (zi H k, xV H k, (zi H k2).isNone) = (some (MatP enc e eo B bo rv rows), none, true)) (h : V P n Q ks pos env A ((k2, RowsP enc e rv rows) :: hset H k (.own bo rv eo)) Bs) : V P n Q ks pos env A H Bs := by
 simp only [Prod.mk.injEq, Option.isNone_iff_eq_none] at hn
 obtain ⟨h1, h2, h3⟩ := hn
 intro hA w hI
 have hM : Mat enc e eo B w bo rv rows := hI.at k h1
 have hm := zf h1
 have hI2 := hI.set (e' := .own bo rv eo) h1 (Keep.refl _ _) hM.out trivial (fun _ h => h) fun q hq => ⟨.inl (.inl hq), by have hq : q = bo := hq; rw [hq]; exact hM.out.lt⟩
 have hkk : Nat.beq k k2 = false := by
  cases hb : Nat.beq k k2 with
  | true => rw [<- znk hb, h1] at h3; cases h3
  | false => rfl
 refine h ((hA.res h1 h2).new ?_) w (hI2.add k2 hM.rows RowsP.loc (fun _ h => h) ?_)
 . rw [qm h1, hkk]; exact h3
 rintro q ⟨i, v, hv, hq⟩
 have hS : (MatP enc e eo B bo rv rows).S q := .inr ⟨i, v, hv, hq⟩
 refine ⟨hM.blk hv hq, fun p hp => (hI.base p hp).2 _ hm q hS, ?_⟩
 exact (ql (e' := .own bo rv eo) (B := w.heap.size) h1 hI.apart (fun q hq => .inl (.inl hq)) hI.low).2 (fun x => ¬ x.2.S q /\ ¬ x.2.fz q) ⟨fun hh => (hM.far i v q hv hq).2 hh, fun h => h⟩ fun x hx hap => ⟨fun hs => hap q hs hS, fun hf => hI.froz x hx _ hm q hf hS⟩
theorem zmf (is k j : Nat) {ts : TypeId} {x y : Operand} {b o : Nat} {cs : List Value} {e : TypeId} (hss : ∀ w, (sizeOf ts).run P w = .ok 1 w) (hi : ops[is]? = some ⟨none, .store ts x y, ty, ps, aft, g⟩) (hr : Region.ready .any ops listed = [is])
  (hn : (gd ops env g, zi H k, ev env x, ev env y, L.contains is) = (some true, some (.own b cs e), some (.pointer (some ⟨b, o, none⟩)), some v, true)) (h1 : Go.GL.one v = true) (hj : o = j) (hl : j < cs.length)
  (h : VDx P n Q ks ops (VI B0 Hs) L fuel (listed.setIfInBounds is true) env A (hset H k (.own b (cs.set j v) e)) Bs) : VD P n Q ks ops Hs B0 L (fuel + 1) listed env A H Bs := by
 simp only [Prod.mk.injEq] at hn
 subst hj
 obtain ⟨h2, h3, h4, h5, h6⟩ := hn
 intro hH hA w hI
 have hB : Blk w b cs e := hI.at k h3
 obtain ⟨c1, c2⟩ := qn h1
 refine zme is hi hr h2 h6 (M.store hss h4 h5 c1 c2 hB hl) ?_
 rintro w2 ⟨_, hB2, hk2⟩
 exact h (hA.set h3) w2 (hI.set h3 hk2 hB2 trivial (fun _ h => h) fun q hq => ⟨.inl hq, by have hq : q = b := hq; rw [hq]; exact hB2.lt⟩)
theorem VI.row {e : TypeId} {kk m b : Nat} {zs : List Value} {w w' : World} (k : Nat) (hI : VI Bs H w) (hm : m <= 9223372036854775807) (hl : zs.length = m * kk) (hN : New w zs e b w') : VI Bs ((k, .row e kk (.slice (some ⟨b, 0, none⟩) m m) m zs) :: H) w' := by
 obtain ⟨h1, h2, h3, h4⟩ := hN
 refine hI.new h4 k ?_ trivial (fun _ h => h) (fun q hq => ?_)
 ·
  have := yY (k := kk) (n := m) (cap := m) h3 (znC _) hm hl
  rw [<- hl, zni] at this
  exact this
 ·
  have hq : some b = some q := hq
  cases hq
  omega
theorem VD.make (i k j : Nat) {t e : TypeId} {kk by' m : Nat} {z : Value} {x y : Operand} {kl kc : IntKind} {zs : List Value} (hu : P.underlying t = some (.slice e)) (he : (P.info? e).map (fun i => (i.zero, i.size, i.bytes)) = some (some z, kk, by'))
  (hi : ops[i]? = some ⟨some d, .makeSlice t x y, ty, ps, aft, g⟩) (hr : Region.ready .any ops listed = [i]) (hn : (Nat.blt d n, gd ops env g, (zi H k).isNone, ev env x, ev env y, xP (Hs.map (·.1))) = (true, some true, true, some (.int kl (m : Int)), some (.int kc (m : Int)), true)) (hB : Bs.drop j = B0)
  (hb : by' * m <= 281474976710656) (hm : m <= 9223372036854775807) (hz : madeCells z.cells (m * kk) = zs.toArray) (hl : zs.length = m * kk)
  (h : ∀ b, VD P n Q ks ops Hs B0 L fuel (listed.setIfInBounds i true) ((d, .slice (some ⟨b, 0, none⟩) m m) :: env) ((d, none) :: A) ((k, .row e kk (.slice (some ⟨b, 0, none⟩) m m) m zs) :: H) Bs) : VD P n Q ks ops Hs B0 L (fuel + 1) listed env A H Bs := by
 simp only [Prod.mk.injEq, Option.isNone_iff_eq_none] at hn
 subst hB
 obtain ⟨h1, h2, h3, h4, h5, h6⟩ := hn
 intro hH hA w hI
 refine zlX i hi hr h1 h2 (.inl (zkg hu he h4 h5 hb hm hz)) ?_
 rintro _ w1 ⟨b, rfl, hN⟩
 have hI1 := hI.row k hm hl hN
 have hH1 : Has Hs ((k, .row e kk (.slice (some ⟨b, 0, none⟩) m m) m zs) :: H) := hH.new h3
 exact ⟨(hI1.drop j).pick hH1 h6, h b hH1 (TgOk.none (hA.new h3)) w1 hI1⟩
theorem zmg {f : FuncId} {x : Operand} {fs cs : List Value} {xs : Array Operand} {ts : Array TypeId} {vs : List Value} (hf : ∀ args w, (callFunc f args).run P w = .ok (.enter f args) w) (hn : (Nat.blt d n, gd ops env g, xW env xs.toList, ev env x) = (true, some true, some vs, some (.func (.func f) fs.toArray cs.toArray)))
  (hc : ∀ w, VI Bs H w -> Calls P f (fs ++ vs ++ cs).toArray w (Ret fun r w' => r = v /\ Ext w w')) (h : V P n Q ks (.o ops rest) ((d, v) :: env) ((d, none) :: A) H Bs) : V P n Q ks (.o ops (⟨some d, .call ⟨.value x, xs, ts⟩, ty, ps, aft, g⟩ :: rest)) env A H Bs := by
 refine fun hA w hI => zkb hn hf (hc w hI) ?_
 rintro _ w' ⟨rfl, hk⟩
 exact h hA.none w' (hI.ext hk)
end
open Go.RowKit
def zaI (k : Nat) : List Nat -> Bool
 | [] => false
 | j :: r => cond (Nat.beq j k) true (zaI k r)
def zW (ks : List Nat) : Hp -> Hp
 | [] => []
 | x :: r => cond (zaI x.1 ks) (zW ks r) (x :: zW ks r)
theorem zK {ks : List Nat} : ∀ {H : Hp} {x : Nat × HE}, x ∈ zW ks H -> x ∈ H /\ zaI x.1 ks = false
 | y :: r, x, h => by
  simp only [zW] at h
  cases hb : zaI y.1 ks with
  | true =>
   rw [hb] at h
   have h : x ∈ zW ks r := h
   exact ⟨zng _ (zK h).1, (zK h).2⟩
  | false =>
   rw [hb] at h
   rcases znt.1 h with rfl | h
   . exact ⟨znh .., hb⟩
   . exact ⟨zng _ (zK h).1, (zK h).2⟩
theorem hdels_sub {ks : List Nat} : ∀ {H : Hp}, (zW ks H).Sublist H
 | [] => List.Sublist.refl _
 | y :: r => by
  simp only [zW]
  cases zaI y.1 ks with
  | true => exact hdels_sub.trans (List.sublist_cons_self ..)
  | false => exact hdels_sub.cons_cons _
theorem zfM {H : Hp} (h : H.Pairwise (fun x y => ∀ q, x.2.S q -> ¬ y.2.S q)) : ∀ x ∈ H, ∀ y ∈ H, x ≠ y -> ∀ q, x.2.S q -> ¬ y.2.S q := by
 induction H with
 | nil => intro x hx; cases hx
 | cons z r ih =>
  rw [List.pairwise_cons] at h
  intro x hx y hy hne q hq hs
  rcases znt.1 hx with h1 | h1
  ·
   rcases znt.1 hy with h2 | h2
   . exact hne (h1.trans h2.symm)
   . subst h1; exact h.1 y h2 q hq hs
  ·
   rcases znt.1 hy with h2 | h2
   . subst h2; exact h.1 x h1 q hs hq
   . exact ih h.2 x h1 y h2 hne q hq hs
def InS (H : Hp) (ks : List Nat) (q : Nat) : Prop := ∃ y ∈ H, zaI y.1 ks = true /\ y.2.S q
structure Hands (H : Hp) (ks : List Nat) (Hn : Hp) (w w' : World) : Prop where
 keep : Keep (InS H ks) w w'
 ok : ∀ x ∈ Hn, x.2.holds w' /\ x.2.loc /\ (∀ b, ¬ x.2.fz b) /\ ∀ q, x.2.S q -> (InS H ks q \/ w.heap.size <= q) /\ q < w'.heap.size
 apart : Hn.Pairwise (fun x y => ∀ q, x.2.S q -> ¬ y.2.S q)
theorem VI.hands {Bs : zH} {H Hn : Hp} {ks : List Nat} {w w' : World} (h : VI Bs H w) (hh : Hands H ks Hn w w') : VI Bs (Hn ++ zW ks H) w' := by
 have hrest : ∀ x ∈ zW ks H, ∀ q, InS H ks q -> ¬ x.2.S q := by
  rintro x hx q ⟨y, hy, hk, hq⟩ hs
  obtain ⟨h1, h2⟩ := zK hx
  exact zfM h.apart x h1 y hy (fun e => by rw [e, hk] at h2; cases h2) q hs hq
 have hfz : ∀ x ∈ zW ks H, ∀ b, x.2.fz b -> ¬ InS H ks b := by
  rintro x hx b hb ⟨y, hy, hk, hq⟩
  exact h.froz x (zK hx).1 y hy b hb hq
 have hlo : ∀ x ∈ zW ks H, ∀ q, x.2.S q -> q < w.heap.size := fun x hx q hq => h.low x (zK hx).1 q hq
 have hnew : ∀ x ∈ zW ks H, ∀ y ∈ Hn, ∀ q, y.2.S q -> ¬ x.2.S q := fun x hx y hy q hq hs => by
  rcases ((hh.ok y hy).2.2.2 q hq).1 with h1 | h1
  . exact hrest x hx q h1 hs
  . have := hlo x hx q hs; omega
 refine ⟨?_, ?_, ?_, ?_, ?_, ?_⟩
 ·
  intro x hx
  rcases znw.1 hx with hx | hx
  . exact (hh.ok x hx).1
  ·
   have h1 := (zK hx).1
   exact HE.keep (e := x.2) (h.holds x h1) (h.loc x h1) hh.keep (fun q hq hi => hrest x hx q hi hq) (hfz x hx)
 ·
  intro x hx
  rcases znw.1 hx with hx | hx
  . exact (hh.ok x hx).2.1
  . exact h.loc x (zK hx).1
 . exact List.pairwise_append.2 ⟨hh.apart, h.apart.sublist hdels_sub, fun x hx y hy q hq => hnew y hy x hx q hq⟩
 ·
  intro x hx y hy b hb hs
  rcases znw.1 hx with hx | hx
  . exact (hh.ok x hx).2.2.1 b hb
  ·
   rcases znw.1 hy with hy | hy
   ·
    rcases ((hh.ok y hy).2.2.2 b hs).1 with h1 | h1
    . exact hfz x hx b hb h1
    . have := zlD (h.holds x (zK hx).1) hb; omega
   . exact h.froz x (zK hx).1 y (zK hy).1 b hb hs
 ·
  intro x hx q hq
  rcases znw.1 hx with hx | hx
  . exact ((hh.ok x hx).2.2.2 q hq).2
  . exact Nat.lt_of_lt_of_le (hlo x hx q hq) hh.keep.size
 ·
  intro p hp
  obtain ⟨h1, h2⟩ := h.base p hp
  refine ⟨h1.trans hh.keep fun q hq hi => ?_, fun x hx q hq => ?_⟩
  ·
   obtain ⟨y, hy, _, hs⟩ := hi
   exact (h2 y hy q hs).resolve_right (by omega)
  ·
   rcases znw.1 hx with hx | hx
   ·
    rcases ((hh.ok x hx).2.2.2 q hq).1 with ⟨y, hy, _, hs⟩ | h3
    . exact h2 y hy q hs
    . exact .inr (znj h1.size h3)
   . exact h2 x (zK hx).1 q hq
theorem VI.lent {H : Hp} {w : World} (hh : ∀ x ∈ H, x.2.holds w /\ x.2.loc /\ (∀ b, ¬ x.2.fz b) /\ ∀ q, x.2.S q -> q < w.heap.size) (hap : H.Pairwise (fun x y => ∀ q, x.2.S q -> ¬ y.2.S q)) : VI [(w, HS H)] H w :=
 ⟨fun x hx => (hh x hx).1, fun x hx => (hh x hx).2.1, hap, fun x hx _ _ b hb _ => (hh x hx).2.2.1 b hb, fun x hx => (hh x hx).2.2.2, fun p hp => by
  rw [znv] at hp
  subst hp
  exact ⟨Keep.refl _ _, fun x hx q hq => .inl ⟨x, hx, hq⟩⟩⟩
section
variable {P : Program} {n : Nat} {Q : Exit -> Act -> World -> Prop} {ks : List Fr} {pos : Pos} {env : Env} {A : Tgs} {H : Hp} {Bs : zH} {ops : Array Oper} {rest : List Oper} {v : Value}
variable {d : Nat} {ty : TypeId} {ps : String} {aft : Array Edge} {g : Option (Nat × Bool)}
theorem zmi {w : World} (H : Hp) (hh : ∀ x ∈ H, x.2.holds w /\ x.2.loc /\ (∀ b, ¬ x.2.fz b) /\ ∀ q, x.2.S q -> q < w.heap.size) (hap : H.Pairwise (fun x y => ∀ q, x.2.S q -> ¬ y.2.S q)) (h : V P n Q ks pos env [] H [(w, HS H)]) : G P n Q ks pos env w := h TgOk.nil w (VI.lent hh hap)
theorem zmj (kk : List Nat) {f : FuncId} {xs : Array Operand} {ts : Array TypeId} {vs : List Value} {α : Type} {Hn : α -> Hp} {Φ : Value -> α -> Prop} (A1 : Tgs) (hf : ∀ args w, (callFunc f args).run P w = .ok (.enter f args) w) (hn : (Nat.blt d n, gd ops env g, xW env xs.toList) = (true, some true, some vs))
  (hA1 : ∀ r x, A1.map (fun p => zcf ((d, r) :: env) p.1) = A1.map (fun p => qP (Hn x ++ zW kk H) p.2)) (hA2 : ∀ x, A1.all (fun p => (qP (Hn x ++ zW kk H) p.2).isSome) = true)
  (hc : ∀ w, VI Bs H w -> Calls P f vs.toArray w (Ret fun r w' => ∃ x, Φ r x /\ Hands H kk (Hn x) w w'))
  (h : ∀ r x, Φ r x -> V P n Q ks (.o ops rest) ((d, r) :: env) A1 (Hn x ++ zW kk H) Bs) : V P n Q ks (.o ops (⟨some d, .call ⟨.value (.func f), xs, ts⟩, ty, ps, aft, g⟩ :: rest)) env A H Bs := by
 refine fun hA w hI => G.call hn hf (hc w hI) ?_
 rintro r w' ⟨x, hP, hh⟩
 exact h r x hP (zl6 (hA1 r x) (hA2 x)) w' (hI.hands hh)
theorem zmk {Hs : Hp} {B0 : zH} {L : List Nat} {fuel : Nat} {listed : Array Bool} {op : Array Oper} (i j : Nat) (kk : List Nat) {f : FuncId} {xs : Array Operand} {ts : Array TypeId} {vs : List Value} {α : Type} {Hn : α -> Hp} {Φ : Value -> α -> Prop} (A1 : Tgs) (hf : ∀ args w, (callFunc f args).run P w = .ok (.enter f args) w) (hi : op[i]? = some ⟨some d, .call ⟨.value (.func f), xs, ts⟩, ty, ps, aft, g⟩) (hr : Region.ready .any op listed = [i]) (hn : (Nat.blt d n, gd op env g, xW env xs.toList, xP (Hs.map (·.1))) = (true, some true, some vs, true)) (hB : Bs.drop j = B0)
  (hHs : ∀ x, Hs.map (fun y => zi (Hn x ++ zW kk H) y.1) = Hs.map (fun y => some y.2))
  (hA1 : ∀ r x, A1.map (fun p => zcf ((d, r) :: env) p.1) = A1.map (fun p => qP (Hn x ++ zW kk H) p.2)) (hA2 : ∀ x, A1.all (fun p => (qP (Hn x ++ zW kk H) p.2).isSome) = true)
  (hc : ∀ w, VI Bs H w -> Calls P f vs.toArray w (Ret fun r w' => ∃ x, Φ r x /\ Hands H kk (Hn x) w w'))
  (h : ∀ r x, Φ r x -> VD P n Q ks op Hs B0 L fuel (listed.setIfInBounds i true) ((d, r) :: env) A1 (Hn x ++ zW kk H) Bs) : VD P n Q ks op Hs B0 L (fuel + 1) listed env A H Bs := by
 simp only [Prod.mk.injEq] at hn
 subst hB
 intro hH hA w hI
 refine zlX i hi hr hn.1 hn.2.1 (.inr ⟨f, _, F.call hf (yk hn.2.2.1), hc w hI⟩) ?_
 rintro r w' ⟨x, hP, hh⟩
 have hI' := hI.hands hh
 exact ⟨(hI'.drop j).pick (zl5 (hHs x)) hn.2.2.2, h r x hP (zl5 (hHs x)) (zl6 (hA1 r x) (hA2 x)) w' hI'⟩
end
theorem VI.k4 {Bs : zH} {H : Hp} {w : World} {p0 p1 p2 p3 p4 : World × (Nat -> Prop)} (h : VI (p0 :: p1 :: p2 :: p3 :: p4 :: Bs) H w) : Keep p4.2 p4.1 w := (h.base p4 (by simp)).1
theorem VI.k5 {Bs : zH} {H : Hp} {w : World} {p0 p1 p2 p3 p4 p5 : World × (Nat -> Prop)} (h : VI (p0 :: p1 :: p2 :: p3 :: p4 :: p5 :: Bs) H w) : Keep p5.2 p5.1 w := (h.base p5 (by simp)).1
theorem SlR.atD {α : Type} {k : Nat} {R : Rel α} {D : Nat -> Prop} {w : World} {ao : Option Addr} {n cap : Nat} {l : List α} (h : SlR k R D w (.slice ao n cap) l) {i : Nat} {x : α} (hx : l[i]? = some x) : ∃ b o cs, ao = some ⟨b, o, none⟩ /\ D b /\ Cells w b (o + i * k) cs /\ R D w x cs := by
 obtain ⟨ao', cap', h1, h2, h3, h4⟩ := h
 cases h1
 obtain ⟨b, o, cs, h5, h6, _, h8, h9⟩ := h4 i x hx
 exact ⟨b, o, cs, h5, h6, h8, h9⟩
theorem zml {P : Program} {env : Env} {w : World} {dst : Option Tmp} {ty : TypeId} {pos : String} {aft : Array Edge} {g : Option (Nat × Bool)} {t e : TypeId} {x y : Operand} {cs : List Value} {len : Nat} {kd : IntKind} {i : Int} {v : Value} (hu : ∀ w, (underlying t).run P w = .ok (.array len e) w) (hs : ∀ w, (sizeOf e).run P w = .ok 1 w) (hag : ∀ w, (isAgg e).run P w = .ok false w) (hx : ev env x = some (.agg cs.toArray)) (hy : ev env y = some (.int kd i)) (h0 : 0 <= i /\ i < len) (hv : cs[i.toNat]? = some v) :
  zI P ⟨dst, .index t x y, ty, pos, aft, g⟩ env w v w := by
 intro n a ha
 simp [execOp, ha.eval hx, ha.eval hy, Instr.index, asIntOf, hu, hs, h0, part, hag, hv]
open Go.RowKit
def Wr (p : TypeId -> Bool) (W0 : Nat) (w : World) (k : Nat) : Prop := W0 <= k /\ ∀ cs e, Blk w k cs e -> p e = true
abbrev KT (p : TypeId -> Bool) (W0 : Nat) (w w' : World) : Prop := Keep (Wr p W0 w) w w'
section
variable {p : TypeId -> Bool} {W0 : Nat} {w w' w'' : World}
theorem Blk.ty {b : Nat} {cs cs' : List Value} {e e' : TypeId} (h : Blk w b cs e) (h' : Blk w b cs' e') : e = e' /\ cs = cs' := by
 unfold Blk at h h'
 rw [h] at h'
 injection h' with h'
 injection h' with h1 h2
 exact ⟨h2, List.toArray_inj h1⟩
theorem Blk.ne {a b : Nat} {cs cs' : List Value} {e e' : TypeId} (h : Blk w a cs e) (h' : Blk w b cs' e') (hne : e ≠ e') : a ≠ b := by
 rintro rfl
 exact hne (h.ty h').1
theorem Wr.mk {k : Nat} {cs : List Value} {e : TypeId} (hW : W0 <= k) (hb : Blk w k cs e) (hp : p e = true) : Wr p W0 w k := ⟨hW, fun cs' e' h => by rw [<- (hb.ty h).1]; exact hp⟩
theorem KT.refl : KT p W0 w w := Keep.refl _ _
theorem KT.trans (h : KT p W0 w w') (h' : KT p W0 w' w'') : KT p W0 w w'' := by
 refine Keep.trans h h' (fun k hk hT => ?_)
 by_cases hS : Wr p W0 w k
 . exact hS
 ·
  exfalso
  apply hS
  refine ⟨hT.1, fun cs e h2 => hT.2 cs e ?_⟩
  unfold Blk at h2 ⊢
  rw [h.block k hk hS]; exact h2
theorem kG {e : TypeId} {k : Nat} {v : Value} {n : Nat} {xs : List Value} (h : w.ownsRow 0 e k v n xs) {g : Nat} (hg : v.ownBlock = some g) : ∃ cs, Blk w g cs e := by
 rcases h.2 with ⟨rfl, _⟩ | ⟨g', cap, cur, rfl, _, h2, _⟩
 . simp [Value.ownBlock] at hg
 ·
  simp [Value.ownBlock] at hg
  subst hg
  exact ⟨cur.toList, by unfold Blk; simpa using h2⟩
theorem KT.row {e : TypeId} {k : Nat} {v : Value} {n : Nat} {xs : List Value} (ho : w.ownsRow 0 e k v n xs) (hp : p e = true) (hW : ∀ g, v.ownBlock = some g -> W0 <= g) (h : Keep (fun k => v.ownBlock = some k) w w') : KT p W0 w w' :=
 h.mono (fun g _ hg => by obtain ⟨cs, hb⟩ := kG ho hg; exact Wr.mk (hW g hg) hb hp)
theorem KT.new {S : Nat -> Prop} (h : KT p W0 w w') (h' : Keep S w' w'') (hS : ∀ k, S k -> w.heap.size <= k) : KT p W0 w w'' :=
 Keep.trans h h' (fun k hk hT => absurd (hS k hT) (by omega))
theorem KT.mono {q : TypeId -> Bool} {W1 : Nat} (h : KT p W0 w w') (hq : ∀ e, p e = true -> q e = true) (hW : W1 <= W0) : KT q W1 w w' :=
 Keep.mono h (fun k _ ⟨h1, h2⟩ => ⟨by omega, fun cs e hb => hq e (h2 cs e hb)⟩)
theorem KT.fresh (h : KT p W0 w w') (hW : w.heap.size <= W0) : Ext w w' := Keep.mono h (fun k hk ⟨h1, _⟩ => by omega)
theorem KT.blk (h : KT p W0 w w') {b : Nat} {cs : List Value} {e : TypeId} (hb : Blk w b cs e) (hp : p e = false) : Blk w' b cs e :=
 Keep.blk h hb (fun ⟨_, h2⟩ => by have := h2 _ _ hb; rw [hp] at this; cases this)
theorem KT.own (h : KT p W0 w w') {e : TypeId} {k : Nat} {v : Value} {n : Nat} {xs : List Value} (ho : w.ownsRow 0 e k v n xs) (hp : p e = false) : w'.ownsRow 0 e k v n xs :=
 zV ho h (fun g hg ⟨_, h2⟩ => by obtain ⟨cs, hb⟩ := kG ho hg; have := h2 _ _ hb; rw [hp] at this; cases this)
theorem KT.sl (h : KT p W0 w w') {α : Type} {k : Nat} {R : Rel α} (hs : zF R) {D : Nat -> Prop} {v : Value} {l : List α} (hl : SlR k R D w v l) (hD : ∀ q, D q -> q < W0) : SlR k R D w' v l :=
 hl.keep hs h (fun q hq _ ⟨h1, _⟩ => by have := hD q hq; omega)
abbrev Above (B : Nat) (w w' : World) : Prop := Keep (fun k => B <= k) w w'
theorem Above.then {B : Nat} (h : Above B w w') (h' : Above B w' w'') : Above B w w'' := Keep.trans h h' (fun _ _ h => h)
theorem Above.sl {B : Nat} (h : Above B w w') {α : Type} {k : Nat} {R : Rel α} (hs : zF R) {D : Nat -> Prop} {v : Value} {l : List α} (hl : SlR k R D w v l) (hD : ∀ q, D q -> q < B) : SlR k R D w' v l :=
 hl.keep hs h (fun q hq _ (h1 : B <= q) => by have := hD q hq; omega)
theorem zmm {B : Nat} (h : Above B w w') (hB : w.heap.size <= B) : Ext w w' := Keep.mono h (fun k hk (h1 : B <= k) => by omega)
end
open Go.RowKit
def OwnR {α : Type} (e : TypeId) (k : Nat) (R : Rel α) (D : Nat -> Prop) (w : World) (v : Value) (l : List α) : Prop :=
 ∃ xs : List Value, w.ownsRow 0 e k v l.length xs /\ ∀ (i : Nat) x, l[i]? = some x -> R D w x ((xs.drop (i * k)).take k)
section
variable {α : Type} {e : TypeId} {k : Nat} {R : Rel α} {D : Nat -> Prop} {w w' : World} {v : Value} {l : List α}
theorem OwnR.nil : OwnR e k R D w (.slice none 0 0) ([] : List α) := ⟨[], kr _ _ _, fun i x h => by simp at h⟩
theorem OwnR.keep {S : Nat -> Prop} (h : OwnR e k R D w v l) (hs : zF R) (hk : Keep S w w') (hD : ∀ q, D q -> q < w.heap.size -> ¬ S q) (hv : ∀ g, v.ownBlock = some g -> ¬ S g) : OwnR e k R D w' v l := by
 obtain ⟨xs, h1, h2⟩ := h
 exact ⟨xs, zV h1 hk hv, fun i x hx => hs D D w w' (fun _ h => h) (fun b hb hlt => hk.block b hlt (hD b hb hlt)) x _ (h2 i x hx)⟩
theorem OwnR.ext (h : OwnR e k R D w v l) (hs : zF R) (hk : Ext w w') : OwnR e k R D w' v l := h.keep hs hk (fun _ _ _ h => h) (fun _ _ h => h)
instance [h : StC R] : Tr (OwnR e k R D w v l) w w' (OwnR e k R D w' v l) := ⟨fun h' hk => h'.ext h.s hk⟩
theorem OwnR.lit {g : Nat} {cs : List Value} {x : α} (hb : Blk w g cs e) (hk : cs.length = k) (hx : R D w x cs) : OwnR e k R D w (.slice (some ⟨g, 0, none⟩) 1 1) [x] := by
 refine ⟨cs, ?_, fun i y hy => ?_⟩
 ·
  have := yY (k := k) (n := 1) (cap := 1) hb (znC _) (by decide) (by omega)
  rw [List.take_of_length_le (by omega)] at this
  exact this
 ·
  cases i with
  | zero => simp at hy; subst hy; rw [Nat.zero_mul, List.drop_zero, List.take_of_length_le (by omega)]; exact hx
  | succ i => simp at hy
theorem zmn (hR : ∀ x cs, R D w x cs -> ∀ u ∈ cs, u.oneCell' = true) {n : Nat} {xs : List Value} (h1 : w.ownsRow 0 e k v n xs) (hn : n = l.length) (h2 : ∀ (i : Nat) x, l[i]? = some x -> R D w x ((xs.drop (i * k)).take k)) : ∀ u ∈ xs, u.oneCell' = true := by
 intro u hu
 obtain ⟨q, hq⟩ := List.mem_iff_getElem?.1 hu
 have hql := (znr.1 hq).1
 have hxl := h1.1
 have hk : 0 < k := by
  rcases Nat.eq_zero_or_pos k with rfl | h
  . rw [Nat.mul_zero] at hxl; omega
  . exact h
 have hi : q / k < l.length := by rw [Nat.div_lt_iff_lt_mul hk, <- hn]; omega
 have hd : q / k * k + q % k = q := by rw [Nat.mul_comm]; exact Nat.div_add_mod q k
 have hm := Nat.mod_lt q hk
 refine hR _ _ (h2 (q / k) l[q / k] (znd hi)) u ?_
 refine List.mem_iff_getElem?.2 ⟨q % k, ?_⟩
 rw [znJ, zno hm, List.getElem?_drop, hd]; exact hq
theorem OwnR.sl {D' : Nat -> Prop} (h : OwnR e k R D w v l) (hk : 0 < k) (hs : zF R) (hD : ∀ q, D q -> D' q) (hv : ∀ g, v.ownBlock = some g -> D' g) : SlR k R D' w v l := by
 obtain ⟨xs, h1, h2⟩ := h
 obtain ⟨ao, cap, rfl, hc, hm⟩ := qN h1
 refine ⟨ao, cap, rfl, hc, hm, fun i x hx => ?_⟩
 have hi := (znr.1 hx).1
 have hxl := h1.1
 obtain ⟨a0, rfl⟩ : ∃ a0, ao = some a0 := by
  cases ao with
  | some a0 => exact ⟨a0, rfl⟩
  | none =>
   rcases h1.2 with ⟨_, h⟩ | ⟨g, cap, cur, h, _⟩
   . omega
   . cases h
 obtain ⟨e1, e2, hcl⟩ := xr h1
 obtain ⟨b0, o0, s0⟩ := a0
 simp only at e1 e2 hcl
 subst e1; subst e2
 have h5 : (i + 1) * k <= l.length * k := Nat.mul_le_mul_right _ hi
 rw [Nat.succ_mul] at h5
 refine ⟨b0, 0, _, rfl, hv b0 rfl, ?_, ?_, hs D D' w w hD (fun _ _ _ => rfl) x _ (h2 i x hx)⟩
 . rw [znH, List.length_drop]; omega
 ·
  intro j u hj
  rw [znJ] at hj
  split at hj
  ·
   rw [List.getElem?_drop] at hj
   have := hcl _ _ hj
   rw [Nat.zero_add] at this ⊢
   exact this
  . cases hj
theorem OwnR.form (h : OwnR e k R D w v l) : ∃ ao c, v = .slice ao l.length c /\ l.length <= c /\ c <= 9223372036854775807 := by
 obtain ⟨xs, h1, _⟩ := h
 exact qN h1
theorem OwnR.ty (h : OwnR e k R D w v l) {g : Nat} (hg : v.ownBlock = some g) : ∃ cs, Blk w g cs e := by
 obtain ⟨xs, h1, _⟩ := h
 exact kG h1 hg
end
section
variable {α : Type} {R : Rel α} {D : Nat -> Prop} {P : Program} {env : Env} {w : World} {dst : Option Tmp} {ty : TypeId} {pos : String} {aft : Array Edge} {g : Option (Nat × Bool)} {l l' : List α}
theorem zmo {t e : TypeId} {k by' : Nat} {z : Value} {x y : Operand} {v vy : Value} (hu : P.underlying t = some (.slice e)) (he : (P.info? e).map (fun i => (i.zero, i.size, i.bytes)) = some (some z, k, by')) (hzs : z.cells.size = k) (hk : 0 < k)
  (hx : ev env x = some v) (hy : ev env y = some vy) (hs : zF R) (h1 : ∀ x cs, R D w x cs -> ∀ u ∈ cs, u.oneCell' = true) (hown : OwnR e k R D w v l) (hoy : OwnR e k R D w vy l') (hD : ∀ q, D q -> q < w.heap.size -> v.ownBlock ≠ some q) (hmax : l.length + l'.length <= 9223372036854775807) (hby : (l.length + l'.length) * by' <= 140737488355328) :
  zJ P ⟨dst, .call ⟨.builtin .append, #[x, y], #[t, t]⟩, ty, pos, aft, g⟩ env w (fun u w' => OwnR e k R D w' u (l ++ l') /\ (u.ownBlock = v.ownBlock \/ ∃ g, u.ownBlock = some g /\ w.heap.size <= g) /\ Keep (fun k => v.ownBlock = some k) w w') := by
 obtain ⟨ys, q1, q2⟩ := hoy
 obtain ⟨xs, q3, q4⟩ := hown
 obtain ⟨u, w', hr, h5, h6, h7⟩ := zlC (g := g) (pos := pos) (aft := aft) (dst := dst) (ty := ty) hu he hzs hk hx hy q3 q1 (zmn h1 q1 rfl q2) hmax hby
 refine ⟨u, w', hr, ?_, h6, h7⟩
 refine ⟨xs ++ ys, by rw [znl]; exact h5, ?_⟩
 have hst : ∀ x cs, R D w x cs -> R D w' x cs := fun x cs h => hs D D w w' (fun _ h => h) (fun b hb hlt => h7.block b hlt (hD b hb hlt)) x cs h
 intro i x hx
 have hxl := q3.1
 by_cases hi : i < l.length
 ·
  rw [znD hi] at hx
  have h5 : (i + 1) * k <= l.length * k := Nat.mul_le_mul_right _ hi
  rw [Nat.succ_mul] at h5
  rw [List.drop_append_of_le_length (by omega), List.take_append_of_le_length (by rw [List.length_drop]; omega)]
  exact hst _ _ (q4 i x hx)
 ·
  rw [znE (by omega)] at hx
  have h5 : l.length * k <= i * k := Nat.mul_le_mul_right _ (by omega)
  rw [List.drop_append, List.drop_eq_nil_of_le (by omega), List.nil_append, hxl, <- Nat.sub_mul]
  exact hst _ _ (q2 _ x hx)
end
open Go.RowKit
instance {α : Type} {k : Nat} {R : Rel α} [h : Dt R] [hk : NeZero k] : Dt (RSl k R) := ⟨yD h.s, fun _ _ _ _ ⟨v, h1, h2⟩ => ⟨v, h1, h2.narrow (Nat.pos_of_ne_zero hk.out) h.n⟩⟩
section
variable {P : Program} {n : Nat} {Q : Exit -> Act -> World -> Prop} {ks : List Fr} {pos : Pos} {env : Env} {A : Tgs} {H : Hp} {Bs : zH} {ops : Array Oper} {rest : List Oper} {v : Value}
variable {d : Nat} {op : Op} {ty : TypeId} {ps : String} {aft : Array Edge} {g : Option (Nat × Bool)}
theorem zmp (k : Nat) {β : Type} {E : β -> HE} {u : β -> Value} (hn : (Nat.blt d n, gd ops env g, (zi H k).isNone) = (true, some true, true)) (hE : ∀ x, (E x).loc /\ ∀ b, ¬ (E x).fz b) (hm : ∀ w, VI Bs H w -> zJ P ⟨some d, op, ty, ps, aft, g⟩ env w (fun r w' => ∃ x, r = u x /\ (E x).holds w' /\ Ext w w' /\ ∀ q, (E x).S q -> w.heap.size <= q /\ q < w'.heap.size))
  (h : ∀ x, V P n Q ks (.o ops rest) ((d, u x) :: env) ((d, none) :: A) ((k, E x) :: H) Bs) : V P n Q ks (.o ops (⟨some d, op, ty, ps, aft, g⟩ :: rest)) env A H Bs := by
 simp only [Prod.mk.injEq, Option.isNone_iff_eq_none] at hn
 refine fun hA w hI => G.mem hn.1 hn.2.1 (hm w hI) ?_
 rintro _ w' ⟨x, rfl, hh, hk, hS⟩
 exact h x (TgOk.none (hA.new hn.2.2)) w' (hI.new hk k hh (hE x).1 (hE x).2 hS)
theorem zmq (k : Nat) {e e' : HE} (hn : (gd ops env g, zi H k, xV H k) = (some true, some e, none)) (hl : e'.loc) (hz : ∀ b, ¬ e'.fz b) (hm : ∀ w, VI Bs H w -> xk P ⟨none, op, ty, ps, aft, g⟩ env w (fun w' => e'.holds w' /\ Keep e.S w w' /\ ∀ q, e'.S q -> (e.S q \/ w.heap.size <= q) /\ q < w'.heap.size))
  (h : V P n Q ks (.o ops rest) env A (hset H k e') Bs) : V P n Q ks (.o ops (⟨none, op, ty, ps, aft, g⟩ :: rest)) env A H Bs := by
 simp only [Prod.mk.injEq] at hn
 refine fun hA w hI => zke hn.1 (hm w hI) ?_
 rintro w' ⟨hh, hk, hS⟩
 exact h (hA.res hn.2.1 hn.2.2) w' (hI.set hn.2.1 hk hh hl hz hS)
abbrev DaP {α : Type} (R : Rel α) (F : Nat -> Prop) (x : α) (cs : List Value) : HE := .res F (fun w => R F w x cs)
theorem DaP.loc {α : Type} {R : Rel α} [h : StC R] {F : Nat -> Prop} {x : α} {cs : List Value} : (DaP R F x cs).loc := fun w w' _ hx hk hT => h.s F F w w' (fun _ h => h) (fun b hb hlt => hk.block b hlt (hT b hlt hb)) x cs hx
def OwH {α : Type} (e : TypeId) (kk : Nat) (R : Rel α) (F : Nat -> Prop) (w : World) (v : Value) (l : List α) : Prop := OwnR e kk R F w v l /\ ∀ q, F q -> q < w.heap.size /\ v.ownBlock ≠ some q
abbrev OwP {α : Type} (e : TypeId) (kk : Nat) (R : Rel α) (F : Nat -> Prop) (v : Value) (l : List α) : HE := .res (fun q => v.ownBlock = some q \/ F q) (fun w => OwH e kk R F w v l)
section
variable {α : Type} {R : Rel α} [hs : StC R] {e : TypeId} {kk : Nat} {F G : Nat -> Prop} {l : List α} {w w' : World}
theorem OwP.loc : (OwP e kk R F v l).loc := fun w w' T h hk hT =>
 ⟨h.1.keep hs.s hk (fun q hq hlt => hT q hlt (.inr hq)) (fun g hg => by
  obtain ⟨xs, h1, _⟩ := h.1
  exact hT g (xl h1 hg) (.inl hg)), fun q hq => ⟨Nat.lt_of_lt_of_le (h.2 q hq).1 hk.size, (h.2 q hq).2⟩⟩
omit hs in
theorem OwH.nil : OwH e kk R (fun _ => False) w (.slice none 0 0) ([] : List α) := ⟨OwnR.nil, fun _ h => h.elim⟩
omit hs in
theorem OwH.form (h : OwH e kk R F w v l) : ∃ ao c, v = .slice ao l.length c /\ l.length <= c /\ c <= 9223372036854775807 := h.1.form
theorem OwH.sl {D' : Nat -> Prop} (h : OwH e kk R F w v l) (hk : 0 < kk) (hD : ∀ q, v.ownBlock = some q \/ F q -> D' q) : SlR kk R D' w v l := h.1.sl hk hs.s (fun q hq => hD q (.inr hq)) (fun q hq => hD q (.inl hq))
theorem OwnR.wide {F' : Nat -> Prop} (h : OwnR e kk R F w v l) (hF : ∀ q, F q -> F' q) : OwnR e kk R F' w v l := by
 obtain ⟨xs, h1, h2⟩ := h
 exact ⟨xs, h1, fun i x hx => hs.s F F' w w hF (fun _ _ _ => rfl) x _ (h2 i x hx)⟩
theorem zmt (kks : List Nat) {β : Type} {Hn : β -> Hp} {u : β -> Value} (A1 : Tgs) {ks : List Fr} (hn : (Nat.blt d n, gd ops env g) = (true, some true))
  (hA1 : ∀ x, A1.map (fun p => zcf ((d, u x) :: env) p.1) = A1.map (fun p => qP (Hn x ++ zW kks H) p.2)) (hA2 : ∀ x, A1.all (fun p => (qP (Hn x ++ zW kks H) p.2).isSome) = true)
  (hm : ∀ w, VI Bs H w -> zJ P ⟨some d, op, ty, ps, aft, g⟩ env w (fun r w' => ∃ x, r = u x /\ Hands H kks (Hn x) w w'))
  (h : ∀ x, V P n Q ks (.o ops rest) ((d, u x) :: env) A1 (Hn x ++ zW kks H) Bs) : V P n Q ks (.o ops (⟨some d, op, ty, ps, aft, g⟩ :: rest)) env A H Bs := by
 simp only [Prod.mk.injEq] at hn
 refine fun hA w hI => G.mem hn.1 hn.2 (hm w hI) ?_
 rintro _ w' ⟨x, rfl, hh⟩
 exact h x (zl6 (hA1 x) (hA2 x)) w' (hI.hands hh)
theorem zmu {α : Type} {R : Rel α} [hs : StC R] {e : TypeId} {kk : Nat} {F G : Nat -> Prop} {l : List α} {w : World} (k k2 kb : Nat) {t : TypeId} {by' : Nat} {z : Value} {x y : Operand} {a : α} {b : Nat} {cs : List Value} (hI : VI Bs H w) (h1 : zi H k = some (OwP e kk R F v l)) (h2 : zi H k2 = some (DaP R G a cs)) (h3 : zi H kb = some (.own b cs e)) (hne : Nat.beq k k2 = false)
  (hu : P.underlying t = some (.slice e)) (he : (P.info? e).map (fun i => (i.zero, i.size, i.bytes)) = some (some z, kk, by')) (hzs : z.cells.size = kk) (hk : 0 < kk) (hx : ev env x = some v) (hy : ev env y = some (.slice (some ⟨b, 0, none⟩) 1 1)) (hl : cs.length = kk) (ho : ∀ (D : Nat -> Prop) x cs, R D w x cs -> ∀ u ∈ cs, u.oneCell' = true) (hmax : l.length + 1 <= 9223372036854775807) (hby : (l.length + 1) * by' <= 140737488355328) :
  zJ P ⟨some d, .call ⟨.builtin .append, #[x, y], #[t, t]⟩, ty, ps, aft, g⟩ env w (fun r w' => ∃ u, r = u /\ Hands H [k, k2] [(k, OwP e kk R (fun q => F q \/ G q) u (l ++ [a]))] w w') := by
 have g1 : OwH e kk R F w v l := hI.at k h1
 have g2 : R G w a cs := hI.at k2 h2
 have g3 : Blk w b cs e := hI.at kb h3
 have hap := zk hI.apart h1 h2 hne
 have hGl : ∀ q, G q -> q < w.heap.size := fun q hq => hI.low _ (zf h2) q hq
 have hlit : OwnR e kk R (fun q => F q \/ G q) w (.slice (some ⟨b, 0, none⟩) 1 1) [a] := OwnR.lit g3 hl (hs.s G _ w w (fun _ h => .inr h) (fun _ _ _ => rfl) a cs g2)
 have hw : OwnR e kk R (fun q => F q \/ G q) w v l := g1.1.wide (fun _ h => .inl h)
 have hD : ∀ q, (F q \/ G q) -> v.ownBlock ≠ some q := fun q hq h => hq.elim (fun hF => (g1.2 q hF).2 h) (fun hG => hap q (.inl h) hG)
 obtain ⟨u, w', hr, h5, h6, h7⟩ := zmo (dst := some d) (ty := ty) (pos := ps) (aft := aft) (g := g) hu he hzs hk hx hy hs.s (ho _) hw hlit (fun q hq _ => hD q hq) hmax hby
 refine ⟨u, w', hr, u, rfl, ?_⟩
 have i1 : ∀ q, (v.ownBlock = some q \/ F q) -> InS H [k, k2] q := fun q hq => ⟨_, zf h1, by simp [zaI, Nat.beq_refl], hq⟩
 have i2 : ∀ q, G q -> InS H [k, k2] q := fun q hq => ⟨_, zf h2, by simp only [zaI]; rw [hne]; simp [Nat.beq_refl], hq⟩
 have hlo : ∀ q, (F q \/ G q) -> q < w.heap.size := fun q hq => hq.elim (fun hF => (g1.2 q hF).1) (hGl q)
 have hou : ∀ q, u.ownBlock = some q -> (v.ownBlock = some q \/ w.heap.size <= q) /\ q < w'.heap.size := fun q hq => by
  obtain ⟨xs, hx, _⟩ := h5
  refine ⟨?_, xl hx hq⟩
  rcases h6 with h6 | ⟨g', h6, hg'⟩
  . exact .inl (h6 ▸ hq)
  . rw [h6] at hq; cases hq; exact .inr hg'
 refine ⟨h7.mono fun q _ hq => i1 q (.inl hq), fun x hx => ?_, List.pairwise_singleton _ _⟩
 rw [znv] at hx
 subst hx
 refine ⟨⟨h5, fun q hq => ⟨Nat.lt_of_lt_of_le (hlo q hq) h7.size, fun h => ?_⟩⟩, OwP.loc, fun _ h => h, fun q hq => ?_⟩
 ·
  rcases (hou q h).1 with h8 | h8
  . exact hD q hq h8
  . have := hlo q hq; omega
 ·
  rcases hq with hq | hq | hq
  . exact ⟨(hou q hq).1.imp (fun h => i1 q (.inl h)) id, (hou q hq).2⟩
  . exact ⟨.inl (i1 q (.inr hq)), Nat.lt_of_lt_of_le (hlo q (.inl hq)) h7.size⟩
  . exact ⟨.inl (i2 q hq), Nat.lt_of_lt_of_le (hlo q (.inr hq)) h7.size⟩
end
end
section
variable {P : Program} {n : Nat} {Q : Exit -> Act -> World -> Prop} {ks : List Fr} {env : Env} {A : Tgs} {H Hs : Hp} {Bs B0 : zH} {ops : Array Oper} {L : List Nat} {fuel : Nat} {listed : Array Bool}
theorem VD.skip (i j : Nat) {d : Nat} {op : Op} {ty : TypeId} {ps : String} {aft : Array Edge} {g : Option (Nat × Bool)} (hi : ops[i]? = some ⟨some d, op, ty, ps, aft, g⟩) (hr : Region.ready .any ops listed = [i]) (hn : (Nat.blt d n, gd ops env g, xP (Hs.map (·.1))) = (true, some false, true)) (hB : Bs.drop j = B0)
  (h : VD P n Q ks ops Hs B0 L fuel (listed.setIfInBounds i true) ((d, undef) :: env) ((d, none) :: A) H Bs) : VD P n Q ks ops Hs B0 L (fuel + 1) listed env A H Bs := by
 simp only [Prod.mk.injEq] at hn
 subst hB
 refine fun hH hA w hI => WD.skip i hi hr (xq hn.2.1) O hn.1 ((hI.drop j).pick hH hn.2.2) (h hH hA.none w hI)
end
section
variable {P : Program} {n : Nat} {Q : Exit -> Act -> World -> Prop} {ks : List Fr} {pos : Pos} {env : Env} {A : Tgs} {H : Hp} {Bs : zH}
theorem zmv (k k2 : Nat) {e e2 e' : HE} (A1 : Tgs) (hn : (zi H k, zi H k2) = (some e, some e2))
  (hA1 : A1.map (fun p => zcf env p.1) = A1.map (fun p => qP ((k, e') :: zW [k, k2] H) p.2)) (hA2 : A1.all (fun p => (qP ((k, e') :: zW [k, k2] H) p.2).isSome) = true)
  (he : ∀ w, VI Bs H w -> e'.holds w) (hl : e'.loc) (hz : ∀ b, ¬ e'.fz b) (hS : ∀ q, e'.S q -> e.S q \/ e2.S q) (h : V P n Q ks pos env A1 ((k, e') :: zW [k, k2] H) Bs) : V P n Q ks pos env A H Bs := by
 simp only [Prod.mk.injEq] at hn
 refine fun _ w hI => h (zl6 hA1 hA2) w (hI.hands (Hn := [(k, e')]) ⟨Keep.refl _ _, fun x hx => ?_, List.pairwise_singleton _ _⟩)
 rw [znv] at hx
 subst hx
 have i1 : ∀ q, e.S q -> InS H [k, k2] q := fun q hq => ⟨_, zf hn.1, by simp [zaI, Nat.beq_refl], hq⟩
 have i2 : ∀ q, e2.S q -> InS H [k, k2] q := fun q hq => ⟨_, zf hn.2, by simp [zaI, Nat.beq_refl], hq⟩
 refine ⟨he w hI, hl, hz, fun q hq => ?_⟩
 rcases hS q hq with h1 | h1
 . exact ⟨.inl (i1 q h1), hI.low _ (zf hn.1) q h1⟩
 . exact ⟨.inl (i2 q h1), hI.low _ (zf hn.2) q h1⟩
end
theorem zcW {α : Type} {R : α -> α -> Prop} (hs : ∀ x y, R x y -> R y x) : ∀ {l : List α}, l.Pairwise R -> ∀ {x y}, x ∈ l -> y ∈ l -> x ≠ y -> R x y
 | [], _, _, _, h, _, _ => by cases h
 | a :: l, hp, x, y, hx, hy, hne => by
  rw [List.pairwise_cons] at hp
  rcases znt.1 hx with e1 | h1
  ·
   rcases znt.1 hy with e2 | h2
   . exact absurd (e1.trans e2.symm) hne
   . rw [e1]; exact hp.1 y h2
  ·
   rcases znt.1 hy with e2 | h2
   . rw [e2]; exact hs _ _ (hp.1 x h1)
   . exact zcW hs hp.2 h1 h2 hne
theorem VI.sep {Bs : zH} {H : Hp} {w : World} {k k2 : Nat} {e e2 : HE} (hI : VI Bs H w) (h1 : zi H k = some e) (h2 : zi H k2 = some e2) (hne : k ≠ k2) {q : Nat} (hq : e.S q) : ¬ e2.S q :=
 zcW (R := fun x y : Nat × HE => ∀ q, x.2.S q -> ¬ y.2.S q) (fun _ _ h q hy hx => h q hx hy) hI.apart (zf h1) (zf h2) (fun e => hne (congrArg Prod.fst e)) q hq
open Go.RowKit
section
variable {P : Program} {env : Env} {w : World} {dst : Option Tmp} {ty : TypeId} {pos : String} {aft : Array Edge} {g : Option (Nat × Bool)}
theorem zmw {t u e : TypeId} {x y : Operand} {v : Value} {m : Nat} {xs : List Value} {s : ByteArray} (hu : P.underlying t = some (.slice e)) (huu : P.underlying u = some .string) (he : (P.info? e).map (fun i => (i.zero, i.size, i.bytes)) = some (some (.int .u8 0), 1, 1))
  (hx : ev env x = some v) (hy : ev env y = some (.string s)) (hown : w.ownsRow 0 e 1 v m xs) (h0 : 0 < s.size) (hmax : m + s.size <= 9223372036854775807) (hby : m + s.size <= 140737488355328) :
  zJ P ⟨dst, .call ⟨.builtin .append, #[x, y], #[t, u]⟩, ty, pos, aft, g⟩ env w (fun r w' => w'.ownsRow 0 e 1 r (m + s.size) (xs ++ Lib.strCells s) /\ (r.ownBlock = v.ownBlock \/ ∃ g, r.ownBlock = some g /\ w.heap.size <= g) /\ Keep (fun k => v.ownBlock = some k) w w') := by
 obtain ⟨i, hi, hz0, hz1, hz2⟩ := info_parts he
 obtain ⟨v', w', h1, h2, h3, _⟩ := Lib.run_append_own_string (P := P) w 0 t u ty e i hu huu hi hz0 hz1 hz2 v m xs hown s (by unfold maxLen; omega) hby (zns _)
 have hd : w.drawn <= w'.drawn /\ (v'.ownBlock = v.ownBlock \/ ∃ g, v'.ownBlock = some g /\ w.heap.size <= g) := by
  rcases hown.2 with ⟨rfl, rfl⟩ | ⟨g0, cap, cur, rfl, hbg, hg0, hnc, hcm, hcs, htake⟩
  ·
   have hr := run_append_nil_string (P := P) w t u ty e i (.int .u8 0) hu huu hi hz0 s h0 (by omega) (by rw [hz2]; omega)
   rw [h1] at hr
   cases hr
   exact ⟨Nat.le_succ _, .inr ⟨_, rfl, znC _⟩⟩
  ·
   by_cases hroom : m + s.size <= cap
   ·
    have hcs' : cur.size = cap := by simpa using hcs
    have hr := Lib.run_append_room_string (P := P) w t u ty e i hu huu hi hz1 g0 m cap cur hg0 s hroom (by omega)
    rw [h1] at hr
    cases hr
    exact ⟨znC _, .inl rfl⟩
   ·
    have holds : ∀ j u, xs[j]? = some u -> w.cell? ((⟨g0, 0, none⟩ : Addr).add j) = some u := hown.cells (g := g0) rfl
    have hxl : xs.length = m := by have := hown.1; omega
    have hr := Lib.run_append_grow_string (P := P) w t u ty e i (.int .u8 0) hu huu hi hz0 ⟨g0, 0, none⟩ m cap xs (by rw [hz1]; omega) holds s (by omega) (by omega) (by rw [hz2]; exact growslice_fits (by omega) (by omega))
    rw [h1] at hr
    cases hr
    exact ⟨Nat.le_succ _, .inr ⟨_, rfl, znC _⟩⟩
 refine ⟨v', w', ?_, h2, hd.2, h3.os, h3.tape, h3.output, hd.1, h3.size, fun k hk hn => h3.block k hk (fun e => hn e.symm)⟩
 intro n a ha
 simp [execOp, resolve, invoke, builtin, ha.eval hx, ha.eval hy, h1]
end
section
variable {P : Program} {n : Nat} {Q : Exit -> Act -> World -> Prop} {ks : List Fr} {pos : Pos} {env : Env} {A : Tgs} {H Hs : Hp} {Bs B0 : zH} {ops : Array Oper} {rest : List Oper} {v : Value} {L : List Nat} {fuel : Nat} {listed : Array Bool}
variable {d : Nat} {op : Op} {ty : TypeId} {ps : String} {aft : Array Edge} {g : Option (Nat × Bool)}
theorem zmx (k : Nat) {t u e : TypeId} {x y : Operand} {m : Nat} {xs : List Value} {s : ByteArray} (hu : P.underlying t = some (.slice e)) (huu : P.underlying u = some .string) (he : (P.info? e).map (fun i => (i.zero, i.size, i.bytes)) = some (some (.int .u8 0), 1, 1))
  (hn : (Nat.blt d n, gd ops env g, zi H k, ev env x, ev env y) = (true, some true, some (.row e 1 v m xs), some v, some (.string s))) (h0 : 0 < s.size) (hmax : m + s.size <= 9223372036854775807) (hby : m + s.size <= 140737488355328)
  (h : ∀ r, V P n Q ks (.o ops rest) ((d, r) :: env) ((d, none) :: A) (hset H k (.row e 1 r (m + s.size) (xs ++ Lib.strCells s))) Bs) : V P n Q ks (.o ops (⟨some d, .call ⟨.builtin .append, #[x, y], #[t, u]⟩, ty, ps, aft, g⟩ :: rest)) env A H Bs := by
 simp only [Prod.mk.injEq] at hn
 obtain ⟨h1, h2, h3, h4, h5⟩ := hn
 refine fun hA w hI => G.mem h1 h2 (zmw hu huu he h4 h5 (hI.at k h3) h0 hmax hby) ?_
 rintro r w' ⟨ho, hf, hk⟩
 refine h r (TgOk.none (hA.res h3 (by simp [xV, h3]))) w' (hI.set h3 hk ho trivial (fun _ h => h) (fun q hq => ⟨?_, xl ho hq⟩))
 rcases hf with hf | ⟨g', hf, hg'⟩
 . exact .inl (by show v.ownBlock = some q; rw [<- hf]; exact hq)
 ·
  have hq : r.ownBlock = some q := hq
  rw [hf] at hq; cases hq; exact .inr hg'
theorem V.opM (k : Nat) {e e' : HE} {r : Value} (hn : (Nat.blt d n, gd ops env g, zi H k, xV H k) = (true, some true, some e, none)) (hl : e'.loc) (hz : ∀ b, ¬ e'.fz b) (hm : ∀ w, VI Bs H w -> zJ P ⟨some d, op, ty, ps, aft, g⟩ env w (fun u w' => u = r /\ e'.holds w' /\ Keep e.S w w' /\ ∀ q, e'.S q -> (e.S q \/ w.heap.size <= q) /\ q < w'.heap.size))
  (h : V P n Q ks (.o ops rest) ((d, r) :: env) ((d, none) :: A) (hset H k e') Bs) : V P n Q ks (.o ops (⟨some d, op, ty, ps, aft, g⟩ :: rest)) env A H Bs := by
 simp only [Prod.mk.injEq] at hn
 refine fun hA w hI => G.mem hn.1 hn.2.1 (hm w hI) ?_
 rintro _ w' ⟨rfl, hh, hk, hS⟩
 exact h (TgOk.none (hA.res hn.2.2.1 hn.2.2.2)) w' (hI.set hn.2.2.1 hk hh hl hz hS)
theorem zmy (i k j : Nat) {e e' : HE} {r : Value} (hi : ops[i]? = some ⟨some d, op, ty, ps, aft, g⟩) (hr : Region.ready .any ops listed = [i]) (hn : (Nat.blt d n, gd ops env g, zi H k, xV H k, xP (Hs.map (·.1)), xm k (Hs.map (·.1))) = (true, some true, some e, none, true, true)) (hB : Bs.drop j = B0) (hl : e'.loc) (hz : ∀ b, ¬ e'.fz b)
  (hm : ∀ w, VI Bs H w -> zJ P ⟨some d, op, ty, ps, aft, g⟩ env w (fun u w' => u = r /\ e'.holds w' /\ Keep e.S w w' /\ ∀ q, e'.S q -> (e.S q \/ w.heap.size <= q) /\ q < w'.heap.size))
  (h : VD P n Q ks ops Hs B0 L fuel (listed.setIfInBounds i true) ((d, r) :: env) ((d, none) :: A) (hset H k e') Bs) : VD P n Q ks ops Hs B0 L (fuel + 1) listed env A H Bs := by
 simp only [Prod.mk.injEq] at hn
 subst hB
 obtain ⟨h1, h2, h3, h4, h5, h6⟩ := hn
 refine fun hH hA w hI => zlX i hi hr h1 h2 (.inl (hm w hI)) ?_
 rintro _ w' ⟨rfl, hh, hk, hS⟩
 have hI' := hI.set h3 hk hh hl hz hS
 have hH' : Has Hs (hset H k e') := hH.set h3 h6
 exact ⟨(hI'.drop j).pick hH' h5, h hH' (TgOk.none (hA.res h3 h4)) w' hI'⟩
theorem VD.opMs (i j : Nat) (kks : List Nat) {β : Type} {Hn : β -> Hp} {u : β -> Value} (A1 : Tgs) (hi : ops[i]? = some ⟨some d, op, ty, ps, aft, g⟩) (hr : Region.ready .any ops listed = [i]) (hn : (Nat.blt d n, gd ops env g, xP (Hs.map (·.1))) = (true, some true, true)) (hB : Bs.drop j = B0)
  (hHs : ∀ x, Hs.map (fun y => zi (Hn x ++ zW kks H) y.1) = Hs.map (fun y => some y.2))
  (hA1 : ∀ x, A1.map (fun p => zcf ((d, u x) :: env) p.1) = A1.map (fun p => qP (Hn x ++ zW kks H) p.2)) (hA2 : ∀ x, A1.all (fun p => (qP (Hn x ++ zW kks H) p.2).isSome) = true)
  (hm : ∀ w, VI Bs H w -> zJ P ⟨some d, op, ty, ps, aft, g⟩ env w (fun r w' => ∃ x, r = u x /\ Hands H kks (Hn x) w w'))
  (h : ∀ x, VD P n Q ks ops Hs B0 L fuel (listed.setIfInBounds i true) ((d, u x) :: env) A1 (Hn x ++ zW kks H) Bs) : VD P n Q ks ops Hs B0 L (fuel + 1) listed env A H Bs := by
 simp only [Prod.mk.injEq] at hn
 subst hB
 intro hH hA w hI
 refine zlX i hi hr hn.1 hn.2.1 (.inl (hm w hI)) ?_
 rintro _ w' ⟨x, rfl, hh⟩
 have hI' := hI.hands hh
 exact ⟨(hI'.drop j).pick (zl5 (hHs x)) hn.2.2, h x (zl5 (hHs x)) (zl6 (hA1 x) (hA2 x)) w' hI'⟩
end
open Go.RowKit
section
variable {P : Program} {env : Env} {w : World} {dst : Option Tmp} {ty : TypeId} {pos : String} {aft : Array Edge} {g : Option (Nat × Bool)}
theorem zmz {tp t' te : TypeId} {x y : Operand} {p : Option Addr} (hp : P.underlying tp = some (.pointer te)) (hx : ev env x = some (.pointer p)) (hy : ev env y = some (.pointer none)) : zI P ⟨dst, .binOp .eql tp x y t', ty, pos, aft, g⟩ env w (.bool p.isNone) w := by
 intro n a ha
 have h : ∀ d : Nat, (Op.equalIn (d + 1) tp (.pointer p) (.pointer none)).run P w = .ok p.isNone w := fun d => by
  cases p <;> simp [Op.equalIn, run_underlying hp]
 have hg : (eqGuard BinOp.eql tp x y (.pointer p) (.pointer none)).run P w = .ok () w := by simp [eqGuard]
 have hb : (binOp .eql tp (.pointer p) (.pointer none)).run P w = .ok (.bool p.isNone) w := by
  simp only [binOp]
  simp [Op.equal, Op.maxDepth, h 9999]
 simp [execOp, ha.eval hx, ha.eval hy, hg, hb]
theorem zmA {tp t' te : TypeId} {j : TypeInfo} {x y : Operand} {a0 : Addr} (hp : P.underlying tp = some (.pointer te)) (hte : P.info? te = some j) (hx : ev env x = some (.pointer (some a0))) (hy : ev env y = some (.pointer (some a0))) : zI P ⟨dst, .binOp .neq tp x y t', ty, pos, aft, g⟩ env w (.bool false) w := by
 intro n a ha
 have hg : (eqGuard BinOp.neq tp x y (.pointer (some a0)) (.pointer (some a0))).run P w = .ok () w := by simp [eqGuard]
 simp [execOp, ha.eval hx, ha.eval hy, hg, Lib.run_neq_ptr_same w a0 hp hte]
theorem zmB {s d : TypeId} {x : Operand} {v u : Value} (hx : ev env x = some v) (h : (convert s d v).run P w = .ok u w) : zI P ⟨dst, .convert s d x, ty, pos, aft, g⟩ env w u w := by
 intro n a ha
 simp [execOp, ha.eval hx, h]
theorem R.same {f : FuncId} {fn : Func} {x : Operand} {ts : Array TypeId} {v : Value} (hf : P.funcs[f]? = some fn) (hname : (fn.name == "runtime.NumGoroutine") = false) (hb : fn.body.isNone = true) (hn : Extern.findNext fn = none) (he : Extern.find fn = some Extern.AbiNoEscape.same) (hx : ev env x = some v) :
  zI P ⟨dst, .call ⟨.value (.func f), #[x], ts⟩, ty, pos, aft, g⟩ env w v w := by
 intro n a ha
 have hfv : a.eval (.func f) = .func (.func f) #[] #[] := rfl
 simp [execOp, resolve, invoke, Deferred.ofValue, hfv, ha.eval hx, run_callFunc_extern hf hname hb hn he, Lib.run_noEscape]
theorem zmC {t : TypeId} {x : Operand} {a : Addr} {m c : Nat} (hx : ev env x = some (.slice (some a) m c)) (hc : c ≠ 0) : zI P ⟨dst, .call ⟨.builtin .unsafeSliceData, #[x], #[t]⟩, ty, pos, aft, g⟩ env w (.pointer (some a)) w := by
 intro n c' ha
 simp [execOp, resolve, invoke, builtin, ha.eval hx, Lib.run_unsafeSliceData_row w _ _ a m c hc]
theorem zmD {t : TypeId} {x : Operand} {m c : Nat} (hx : ev env x = some (.slice none m c)) : zI P ⟨dst, .call ⟨.builtin .unsafeSliceData, #[x], #[t]⟩, ty, pos, aft, g⟩ env w (.pointer none) w := by
 intro n c' ha
 simp [execOp, resolve, invoke, builtin, ha.eval hx, Lib.run_unsafeSliceData_nil w _ _ m c]
theorem zmE {t t' : TypeId} {x y : Operand} {p : Option Addr} (hx : ev env x = some (.pointer p)) (hy : ev env y = some (.int .i64 0)) : zI P ⟨dst, .call ⟨.builtin .unsafeString, #[x, y], #[t, t']⟩, ty, pos, aft, g⟩ env w (.string .empty) w := by
 intro n c' ha
 simp [execOp, resolve, invoke, builtin, ha.eval hx, ha.eval hy, Lib.run_unsafeString_none w t t' ty p]
theorem M.unsafeString {pt it e : TypeId} {x y : Operand} {b c : Nat} {l : List UInt8} (hp : P.underlying pt = some (.pointer e)) (hc : P.cellsOf e = 1) (hx : ev env x = some (.pointer (some ⟨b, 0, none⟩))) (hy : ev env y = some (.int .i64 l.length)) (h0 : l ≠ []) (hown : w.ownsRow 0 e 1 (.slice (some ⟨b, 0, none⟩) l.length c) l.length (Lib.byteCells l)) :
  zJ P ⟨dst, .call ⟨.builtin .unsafeString, #[x, y], #[pt, it]⟩, ty, pos, aft, g⟩ env w (fun u w' => u = .string ⟨l.toArray⟩ /\ Keep (fun q => q = b) w w') := by
 have hcl := (xr hown).2.2
 obtain ⟨sp, hB, hcap, hcm, hlen⟩ := jp hown
 have hsh : w.shape? b = some (e, c * 1) := by
  unfold Blk at hB
  simp [World.shape?, hB]
  rw [znl] at hlen
  omega
 have hr := Lib.run_unsafeString_row (P := P) w pt it ty e hp hc b (c * 1) hsh l h0 (by omega) (by omega) (fun j x hx => by
  have := hcl j (.int .u8 x.toNat) (by simp [Lib.byteCells, hx])
  by_cases hj : j = 0
  . subst hj; simpa [Addr.add] using this
  ·
   simpa [Addr.add, hj] using this)
 refine ⟨.string ⟨l.toArray⟩, w.freeze ⟨b, 0, none⟩ l.length, ?_, rfl, ?_⟩
 ·
  intro n a ha
  simp [execOp, resolve, invoke, builtin, ha.eval hx, ha.eval hy, hr]
 ·
  have hl : l.length ≠ 0 := by simpa using h0
  unfold World.freeze
  rw [znn hl]
  refine ⟨rfl, rfl, rfl, znC _, by simp, fun k hk hn => ?_⟩
  simp only [Array.getElem?_modify]
  rw [znn (fun e => hn e.symm)]
end
end Go.GL
namespace Go.Proofs.YtaenledoagbddaaGreatDoor
open Go.GL
theorem zbw (p v : Value) (b : Nat) (hp : p = .pointer none \/ p = .pointer (some ⟨b, 0, none⟩)) (W : World) (hB : Blk W b [p, v] 162) :
  Calls Tryz.prog 157 #[.pointer (some ⟨b, 0, none⟩)] W (Ret fun r w' => r = .tuple #[] /\ Blk w' b [.pointer (some ⟨b, 0, none⟩), v] 162 /\ Keep (fun q => q = b) W w') := by
 have hsh : ∀ w, Blk w b [p, v] 162 -> w.shape? b = some (162, 2) := fun w h => by
  unfold Blk at h
  simp [World.shape?, h]
 obtain ⟨j, hj, hjs⟩ : ∃ j, Tryz.prog.info? 162 = some j /\ j.size = 2 := Option.map_eq_some_iff.1 (show (Tryz.prog.info? 162).map (·.size) = some 2 by kernel_rfl)
 have hlies : liesAt Tryz.prog Tryz.prog.depth 162 (2 / Tryz.prog.cellsOf 162) 0 162 1 = true := by kernel_rfl
 refine zlt Tryz.func157 O Tryz.ntmps157 O (zmi [(900, .own b [p, v] 162)] (fun x hx => by rw [znv] at hx; subst hx; exact ⟨hB, trivial, fun _ h => h, fun q hq => by have hq : q = b := hq; rw [hq]; exact hB.lt⟩) (List.pairwise_singleton _ _) ?_)
 refine zlK 0 900 0 O O ?_
 rcases hp with rfl | rfl
 ·
  refine Vs 6 O ?_
  refine zll O (fun w hI => zmz tu159 O O) ?_
  refine Vs 2 O ?_
  refine V.bool O (fun c => ?_) (fun c => ?_)
  ·
   refine Vs 3 O ?_
   refine zll O (fun w hI => zmB O (Lib.run_to_unsafe w ⟨b, 0, none⟩ tu159 Tryz.underlying231 hj (by rw [hjs]; decide) (hsh w (hI.at 900 O)) (Nat.zero_lt_succ 1))) ?_
   refine zll O (fun w hI => R.same Tryz.func207 O O O O O) ?_
   refine zll O (fun w hI => zmB O (Lib.run_from_unsafe w ⟨b, 0, none⟩ Tryz.underlying231 tu159 hj (hsh w (hI.at 900 O)) hlies)) ?_
   refine Vs 4 O ?_
   refine zjV Tryz.results157 (fun w hI => ⟨_, rfl, rfl, hI.at 900 rfl, hI.k0.mono fun q _ ⟨x, hx, hq⟩ => by rw [znv] at hx; subst hx; exact hq⟩)
  . cases c
 ·
  refine Vs 6 O ?_
  refine zll O (fun w hI => zmz tu159 O O) ?_
  refine Vs 2 O ?_
  refine V.bool O (fun c => ?_) (fun c => ?_)
  . cases c
  ·
   refine Vs 7 O ?_
   refine zll O (fun w hI => zmA tu159 hj O O) ?_
   refine Vs 2 O ?_
   refine V.bool O (fun d => ?_) (fun d => ?_)
   . cases d
   ·
    refine Vs 1 O ?_
    refine zjV Tryz.results157 (fun w hI => ⟨_, rfl, rfl, hI.at 900 rfl, hI.k0.mono fun q _ ⟨x, hx, hq⟩ => by rw [znv] at hx; subst hx; exact hq⟩)
end Go.Proofs.YtaenledoagbddaaGreatDoor
namespace Go.GL
open Go.Lib
def Dig (c : UInt8) : Prop := 48 <= c.toNat /\ c.toNat <= 57
theorem zcX {m : Nat} (h : m < 10) : (UInt8.ofNat (48 + m)).toNat = 48 + m := by
 have : (48 + m) % 256 = 48 + m := Nat.mod_eq_of_lt (by omega)
 simp [this]
theorem yP (u : Nat) : ∀ c ∈ decDigits u, Dig c := by
 induction u using Nat.strongRecOn with
 | _ u ih =>
  intro c hc
  rw [decDigits] at hc
  split at hc
  ·
   rename_i h
   rw [znv] at hc
   subst hc
   unfold Dig
   rw [zcX h]; omega
  ·
   rename_i h
   rcases znw.1 hc with hc | hc
   . exact ih (u / 10) (by omega) c hc
   ·
    rw [znv] at hc
    subst hc
    unfold Dig
    rw [zcX (Nat.mod_lt _ (by decide))]
    have := Nat.mod_lt u (show 0 < 10 by decide)
    omega
theorem zbx (u : Nat) : decDigits u ≠ [] := by
 rw [decDigits]
 split <;> simp
def ziX (l : List UInt8) : Nat := l.foldl (fun a c => a * 10 + (c.toNat - 48)) 0
theorem zcY (u : Nat) : ziX (decDigits u) = u := by
 induction u using Nat.strongRecOn with
 | _ u ih =>
  rw [decDigits]
  split
  ·
   rename_i h
   simp only [ziX, List.foldl_cons, List.foldl_nil]
   rw [zcX h]; omega
  ·
   rename_i h
   have h1 := ih (u / 10) (by omega)
   unfold ziX at h1 ⊢
   rw [List.foldl_append, h1]
   simp only [List.foldl_cons, List.foldl_nil]
   rw [zcX (Nat.mod_lt _ (by decide))]
   omega
theorem qQ {u v : Nat} (h : decDigits u = decDigits v) : u = v := by
 rw [<- zcY u, <- zcY v, h]
theorem zfN {a b : Int} (h : itoa a = itoa b) : a = b := by
 unfold itoa at h
 split at h <;> split at h
 ·
  have := qQ (List.cons.inj h).2
  omega
 ·
  have := yP b.toNat 45 (by rw [<- h]; exact znh ..)
  exact absurd this (by unfold Dig; decide)
 ·
  have := yP a.toNat 45 (by rw [h]; exact znh ..)
  exact absurd this (by unfold Dig; decide)
 ·
  have := qQ h
  omega
theorem zec {a : Int} {c : UInt8} (h : c.toNat < 45) : c ∉ itoa a := by
 intro hc
 unfold itoa at hc
 split at hc
 ·
  rcases znt.1 hc with rfl | hc
  . exact absurd h (by decide)
  . have := (yP _ c hc).1; omega
 . have := (yP _ c hc).1; omega
theorem zcZ {α : Type} {c : α} : ∀ {a b x y : List α}, c ∉ a -> c ∉ b -> a ++ c :: x = b ++ c :: y -> a = b /\ x = y
 | [], [], _, _, _, _, h => ⟨rfl, (List.cons.inj h).2⟩
 | [], _ :: _, _, _, _, hb, h => absurd (znt.2 (.inl (List.cons.inj h).1)) hb
 | _ :: _, [], _, _, ha, _, h => absurd (znt.2 (.inl (List.cons.inj h).1.symm)) ha
 | p :: a, q :: b, x, y, ha, hb, h => by
  obtain ⟨h1, h2⟩ := List.cons.inj h
  obtain ⟨h3, h4⟩ := zcZ (fun h => ha (zng _ h)) (fun h => hb (zng _ h)) h2
  exact ⟨by rw [h1, h3], h4⟩
def yq (c : UInt8) (l : List Int) : List UInt8 := l.flatMap fun n => itoa n ++ [c]
theorem xt (c : UInt8) (n : Int) (l : List Int) : yq c (n :: l) = itoa n ++ c :: yq c l := by simp [yq]
theorem zby (c : UInt8) (l l' : List Int) : yq c (l ++ l') = yq c l ++ yq c l' := by simp [yq]
theorem zbz {c : UInt8} (hc : c.toNat < 45) : ∀ {l l' : List Int}, yq c l = yq c l' -> l = l'
 | [], [], _ => rfl
 | [], n :: l, h => by rw [xt] at h; simp [yq] at h
 | n :: l, [], h => by rw [xt] at h; simp [yq] at h
 | n :: l, m :: l', h => by
  rw [xt, xt] at h
  obtain ⟨h1, h2⟩ := zcZ (zec hc) (zec hc) h
  rw [zfN h1, zbz hc h2]
end Go.GL
namespace Go.Proofs
theorem Tryz.el3 : (Tryz.prog.info? 3).map (fun i => (i.zero, i.size, i.bytes)) = some (some ((Value.int IntKind.i64 0)), 1, 8) := by kernel_rfl
theorem Tryz.el5 : (Tryz.prog.info? 5).map (fun i => (i.zero, i.size, i.bytes)) = some (some ((Value.int IntKind.u8 0)), 1, 1) := by kernel_rfl
theorem Tryz.el27 : (Tryz.prog.info? 27).map (fun i => (i.zero, i.size, i.bytes)) = some (some ((Value.slice none 0 0)), 1, 24) := by kernel_rfl
theorem Tryz.el55 : (Tryz.prog.info? 55).map (fun i => (i.zero, i.size, i.bytes)) = some (some ((Value.agg #[Value.slice none 0 0, Value.int IntKind.i64 0])), 2, 32) := by kernel_rfl
theorem Tryz.el89 : (Tryz.prog.info? 89).map (fun i => (i.zero, i.size, i.bytes)) = some (some ((Value.agg #[Value.string { data := #[] }, Value.int IntKind.i64 0, Value.int IntKind.i64 0, Value.int IntKind.i64 0, Value.int IntKind.i64 0])), 5, 48) := by kernel_rfl
theorem Tryz.el226 : (Tryz.prog.info? 226).map (fun i => (i.zero, i.size, i.bytes)) = some (some ((Value.agg #[Value.int IntKind.i64 0, Value.int IntKind.i64 0])), 2, 16) := by kernel_rfl
end Go.Proofs
namespace Go.GL
mutual
def Tm.nodes : Tm -> Nat
 | .mk _ _ ks => 1 + yl ks
def yl : List Tm -> Nat
 | [] => 0
 | k :: r => k.nodes + yl r
end
mutual
def Tm.depth : Tm -> Nat
 | .mk _ _ ks => yF ks + 1
def yF : List Tm -> Nat
 | [] => 0
 | k :: r => max k.depth (yF r)
end
mutual
def St.nodes : St -> Nat
 | .mk _ _ _ _ t f g _ => 1 + t.nodes + zq f + zq g
def zq : List St -> Nat
 | [] => 0
 | s :: r => s.nodes + zq r
end
mutual
def St.bulk : St -> Nat
 | .mk _ _ _ _ t f g b => 1 + t.nodes + b.length + xu f + xu g
def xu : List St -> Nat
 | [] => 0
 | s :: r => s.bulk + xu r
end
mutual
def St.size : St -> Nat
 | .mk _ _ _ _ _ f g _ => 1 + ssize f + ssize g
def ssize : List St -> Nat
 | [] => 0
 | s :: r => s.size + ssize r
end
mutual
def St.depth : St -> Nat
 | .mk _ _ _ _ _ f g _ => max (zQ f + 1) (zQ g + 1)
def zQ : List St -> Nat
 | [] => 0
 | s :: r => max s.depth (zQ r)
end
mutual
/-- Some term of a step is nested too deep. -/
def St.tdeep : St -> Bool
 | .mk _ _ _ _ t f g _ => decide (12 < t.depth) || yd f || yd g
def yd : List St -> Bool
 | [] => false
 | s :: r => s.tdeep || yd r
end
theorem Tm.nodes_eq (t : Tm) : t.nodes = 1 + yl t.kids := by cases t; rfl
theorem Tm.depth_eq (t : Tm) : t.depth = yF t.kids + 1 := by cases t; rfl
theorem St.nodes_eq (s : St) : s.nodes = 1 + s.term.nodes + zq s.thn + zq s.els := by cases s; rfl
theorem zmF (s : St) : s.bulk = 1 + s.term.nodes + s.bounds.length + xu s.thn + xu s.els := by cases s; rfl
theorem St.size_eq (s : St) : s.size = 1 + ssize s.thn + ssize s.els := by cases s; rfl
theorem St.depth_eq (s : St) : s.depth = max (zQ s.thn + 1) (zQ s.els + 1) := by cases s; rfl
theorem zmG (s : St) : s.tdeep = (decide (12 < s.term.depth) || yd s.thn || yd s.els) := by cases s; rfl
theorem qR (a b : List Tm) : yl (a ++ b) = yl a + yl b := by
 induction a with
 | nil => simp [yl]
 | cons x r ih => simp [yl, ih, Nat.add_assoc]
theorem zaJ (a b : List Tm) : yF (a ++ b) = max (yF a) (yF b) := by
 induction a with
 | nil => simp [yF]
 | cons x r ih => simp [yF, ih, Nat.max_assoc]
theorem qS (a b : List St) : zq (a ++ b) = zq a + zq b := by
 induction a with
 | nil => simp [zq]
 | cons x r ih => simp [zq, ih, Nat.add_assoc]
theorem zbA (a b : List St) : xu (a ++ b) = xu a + xu b := by
 induction a with
 | nil => simp [xu]
 | cons x r ih => simp [xu, ih, Nat.add_assoc]
theorem xA (a b : List St) : zQ (a ++ b) = max (zQ a) (zQ b) := by
 induction a with
 | nil => simp [zQ]
 | cons x r ih => simp [zQ, ih, Nat.max_assoc]
theorem qT (a b : List St) : yd (a ++ b) = (yd a || yd b) := by
 induction a with
 | nil => simp [yd]
 | cons x r ih => simp [yd, ih, Bool.or_assoc]
theorem zh {α : Type} {l : List α} {i : Nat} {x : α} (h : l[i]? = some x) : l.take (i + 1) = l.take i ++ [x] := by
 rw [List.take_add_one, h]; rfl
theorem zch {l : List Tm} {i : Nat} {x : Tm} (h : l[i]? = some x) : yl (l.take (i + 1)) = yl (l.take i) + x.nodes := by rw [zh h, qR]; simp [yl]
theorem zci {l : List Tm} {i : Nat} {x : Tm} (h : l[i]? = some x) : yF (l.take (i + 1)) = max (yF (l.take i)) x.depth := by rw [zh h, zaJ]; simp [yF]
theorem zcj {l : List St} {i : Nat} {x : St} (h : l[i]? = some x) : zq (l.take (i + 1)) = zq (l.take i) + x.nodes := by rw [zh h, qS]; simp [zq]
theorem zck {l : List St} {i : Nat} {x : St} (h : l[i]? = some x) : zQ (l.take (i + 1)) = max (zQ (l.take i)) x.depth := by rw [zh h, xA]; simp [zQ]
theorem zcl {l : List St} {i : Nat} {x : St} (h : l[i]? = some x) : yd (l.take (i + 1)) = (yd (l.take i) || x.tdeep) := by rw [zh h, qT]; simp [yd]
theorem xa {α : Type} {l : List α} {i : Nat} {x : α} (h : l[i]? = some x) : l = l.take i ++ x :: l.drop (i + 1) := by
 obtain ⟨h1, h2⟩ := znr.1 h
 rw [<- h2, List.getElem_cons_drop, List.take_append_drop]
theorem zbB {l : List St} {x : St} (h : x ∈ l) : x.bulk <= xu l := by
 obtain ⟨i, hi⟩ := List.mem_iff_getElem?.1 h
 rw [xa hi, zbA]; simp [xu]; omega
theorem jI {l : List Tm} {i : Nat} {x : Tm} (h : l[i]? = some x) : yl l = yl (l.take i) + x.nodes + yl (l.drop (i + 1)) := by
 conv => lhs; rw [xa h]
 rw [qR]; simp [yl, Nat.add_assoc]
theorem zbC {l : List St} {i : Nat} {x : St} (h : l[i]? = some x) : zq l = zq (l.take i) + x.nodes + zq (l.drop (i + 1)) := by
 conv => lhs; rw [xa h]
 rw [qS]; simp [zq, Nat.add_assoc]
theorem zed (l : List Tm) : l.length <= yl l := by
 induction l with
 | nil => simp
 | cons x r ih => have := x.nodes_eq; simp [yl]; omega
theorem zhl (l : List St) : l.length <= zq l := by
 induction l with
 | nil => simp
 | cons x r ih => have := x.nodes_eq; simp [zq]; omega
theorem zbD : ∀ l : List St, ssize l <= zq l := by
 intro l
 induction l using zkX with
 | h l ih =>
  have key : ∀ r : List St, (∀ s ∈ r, ssize s.thn <= zq s.thn /\ ssize s.els <= zq s.els) -> ssize r <= zq r := by
   intro r
   induction r with
   | nil => intro _; simp [ssize]
   | cons x r ih2 =>
    intro h
    have h1 := h x (znh ..)
    have h2 := ih2 (fun s hs => h s (zng _ hs))
    have h3 := x.nodes_eq
    have h4 := x.size_eq
    simp only [zq, ssize]; omega
  exact key l ih
def yb : List Ht -> Nat
 | [] => 0
 | h :: r => h.term.nodes + yb r
theorem qU (a b : List Ht) : yb (a ++ b) = yb a + yb b := by
 induction a with
 | nil => simp [yb]
 | cons x r ih => simp [yb, ih, Nat.add_assoc]
theorem zcm {l : List Ht} {i : Nat} {x : Ht} (h : l[i]? = some x) : yb (l.take (i + 1)) = yb (l.take i) + x.term.nodes := by rw [zh h, qU]; simp [yb]
theorem xY {l : List Ht} {i : Nat} {x : Ht} (h : l[i]? = some x) : yb l = yb (l.take i) + x.term.nodes + yb (l.drop (i + 1)) := by
 conv => lhs; rw [xa h]
 rw [qU]; simp [yb, Nat.add_assoc]
def few (f : Fl) (vars nodes : Nat) : Bool := decide (f.vars.length <= vars /\ f.hatches.length <= vars /\ xu f.body + yb f.hatches <= nodes)
end Go.GL
namespace Go.Proofs.YtaenledoagbddaaGreatDoor
open Go.GL
def xQ (n low high : Int) : Int := if n < low then low else if high < n then high else n
theorem zB (p : Bool) (w : World) : Calls Tryz.prog 205 #[.bool p] w (Ret fun r w' => r = .int .i64 (if p then 1 else 0) /\ Ext w w') := by
 refine zlt Tryz.func205 O Tryz.ntmps205 O (Gs 11 O (G.bool O (fun h => ?_) (fun h => ?_)))
 . refine Gs 7 O (zjG Tryz.results205 O ⟨_, rfl, by rw [h]; rfl, Keep.refl _ _⟩)
 . refine Gs 8 O (zjG Tryz.results205 O ⟨_, rfl, by rw [h]; rfl, Keep.refl _ _⟩)
theorem xZ (a b c : Int) (w : World) (hbc : b <= c) : Calls Tryz.prog 152 #[.int .i64 a, .int .i64 b, .int .i64 c] w (Ret fun r w' => r = .int .i64 (xQ a b c) /\ Ext w w') := by
 refine zlv Tryz.func152 O Tryz.ntmps152 O (Gs 16 O (zjG Tryz.results152 O ⟨_, rfl, ?_, Keep.refl _ _⟩))
 congr 1
 unfold xQ
 split
 . omega
 . split <;> omega
end Go.Proofs.YtaenledoagbddaaGreatDoor
namespace Go.GL
theorem zmH {a b : Nd} (h1 : a.kind = b.kind) (h2 : a.at_ = b.at_) (h3 : a.next = b.next) (h4 : a.other = b.other) : a = b := by
 cases a; cases b; simp_all
mutual
/-- The number of nodes of a step. -/
def St.wid : St -> Nat
 | .mk a _ _ _ _ f g _ => 1 + zbg f + zbg g + (if a = 4 then 1 else 0)
def zbg : List St -> Nat
 | [] => 0
 | s :: r => s.wid + zbg r
end
theorem St.wid_eq (s : St) : s.wid = 1 + zbg s.thn + zbg s.els + (if s.act = 4 then 1 else 0) := by cases s; rfl
mutual
def St.lay : St -> Nat -> Nat -> Nat -> List Nd
 | .mk a _ _ _ _ f g _, at_, node, e =>
  if a = 3 then ⟨3, at_, if f.isEmpty then e else (node + 1 : Nat), if g.isEmpty then e else (node + 1 + zbg f : Nat)⟩ :: (zaK f (at_ + 1) (node + 1) e ++ zaK g (at_ + 1 + ssize f) (node + 1 + zbg f) e)
  else if a = 4 then ⟨4, at_, (node + 1 : Nat), -1⟩ :: ⟨5, at_, if f.isEmpty then (node + 1 : Nat) else (node + 2 : Nat), e⟩ :: zaK f (at_ + 1) (node + 2) (node + 1)
  else [⟨2, at_, e, -1⟩]
def zaK : List St -> Nat -> Nat -> Nat -> List Nd
 | [], _, _, _ => []
 | s :: r, at_, node, after => s.lay at_ node (if r.isEmpty then after else node + s.wid) ++ zaK r (at_ + s.size) (node + s.wid) after
end
theorem St.lay_eq (s : St) (at_ node e : Nat) : s.lay at_ node e =
  if s.act = 3 then ⟨3, at_, if s.thn.isEmpty then e else (node + 1 : Nat), if s.els.isEmpty then e else (node + 1 + zbg s.thn : Nat)⟩ :: (zaK s.thn (at_ + 1) (node + 1) e ++ zaK s.els (at_ + 1 + ssize s.thn) (node + 1 + zbg s.thn) e)
  else if s.act = 4 then ⟨4, at_, (node + 1 : Nat), -1⟩ :: ⟨5, at_, if s.thn.isEmpty then (node + 1 : Nat) else (node + 2 : Nat), e⟩ :: zaK s.thn (at_ + 1) (node + 2) (node + 1)
  else [⟨2, at_, e, -1⟩] := by cases s; rw [St.lay]; rfl
def zd0 (f : Fl) : List Nd := ⟨0, -1, 1, -1⟩ :: (zaK f.body 0 1 (1 + zbg f.body) ++ [⟨1, -1, -1, -1⟩])
abbrev jY := Nat × Bool
def jJ (ns : List Nd) (to : Int) (e : jY) : List Nd := ns.modify e.1 fun x => if e.2 then { x with other := to } else { x with next := to }
def zA (ns : List Nd) (to : Int) (es : List jY) : List Nd := es.foldl (fun ns e => jJ ns to e) ns
structure Bd where
 nodes : List Nd
 step : Nat
mutual
def St.one : St -> Nat -> Bd -> Bd × List jY
 | .mk a _ _ _ _ f g _, at_, b =>
  if a = 3 then
   let x := yr f { nodes := b.nodes ++ [⟨3, b.step, -1, -1⟩], step := b.step + 1 } [(at_, false)]
   let y := yr g x.1 [(at_, true)]
   (y.1, x.2 ++ y.2)
  else if a = 4 then
   let x := yr f { nodes := jJ (b.nodes ++ [⟨4, b.step, -1, -1⟩, ⟨5, b.step, -1, -1⟩]) (at_ + 1 : Nat) (at_, false), step := b.step + 1 } [(at_ + 1, false)]
   ({ x.1 with nodes := zA x.1.nodes (at_ + 1 : Nat) x.2 }, [(at_ + 1, true)])
  else ({ nodes := b.nodes ++ [⟨2, b.step, -1, -1⟩], step := b.step + 1 }, [(at_, false)])
def yr : List St -> Bd -> List jY -> Bd × List jY
 | [], b, ins => (b, ins)
 | s :: r, b, ins =>
  let x := s.one b.nodes.length { b with nodes := zA b.nodes b.nodes.length ins }
  yr r x.1 x.2
end
theorem St.one_eq (s : St) (at_ : Nat) (b : Bd) : s.one at_ b =
  if s.act = 3 then
   ((yr s.els (yr s.thn { nodes := b.nodes ++ [⟨3, b.step, -1, -1⟩], step := b.step + 1 } [(at_, false)]).1 [(at_, true)]).1,
    (yr s.thn { nodes := b.nodes ++ [⟨3, b.step, -1, -1⟩], step := b.step + 1 } [(at_, false)]).2 ++ (yr s.els (yr s.thn { nodes := b.nodes ++ [⟨3, b.step, -1, -1⟩], step := b.step + 1 } [(at_, false)]).1 [(at_, true)]).2)
  else if s.act = 4 then
   ({ (yr s.thn { nodes := jJ (b.nodes ++ [⟨4, b.step, -1, -1⟩, ⟨5, b.step, -1, -1⟩]) (at_ + 1 : Nat) (at_, false), step := b.step + 1 } [(at_ + 1, false)]).1 with
    nodes := zA (yr s.thn { nodes := jJ (b.nodes ++ [⟨4, b.step, -1, -1⟩, ⟨5, b.step, -1, -1⟩]) (at_ + 1 : Nat) (at_, false), step := b.step + 1 } [(at_ + 1, false)]).1.nodes (at_ + 1 : Nat)
     (yr s.thn { nodes := jJ (b.nodes ++ [⟨4, b.step, -1, -1⟩, ⟨5, b.step, -1, -1⟩]) (at_ + 1 : Nat) (at_, false), step := b.step + 1 } [(at_ + 1, false)]).2 }, [(at_ + 1, true)])
  else ({ nodes := b.nodes ++ [⟨2, b.step, -1, -1⟩], step := b.step + 1 }, [(at_, false)]) := by cases s; rw [St.one]; rfl
theorem zdw (s : St) (r : List St) (b : Bd) (ins : List jY) : yr (s :: r) b ins = yr r (s.one b.nodes.length { b with nodes := zA b.nodes b.nodes.length ins }).1 (s.one b.nodes.length { b with nodes := zA b.nodes b.nodes.length ins }).2 := by rw [yr]
theorem zd1 (ns : List Nd) (to : Int) (e : jY) : (jJ ns to e).length = ns.length := by simp [jJ]
theorem yS (es : List jY) : ∀ (ns : List Nd) (to : Int), (zA ns to es).length = ns.length := by
 induction es with
 | nil => intro ns to; rfl
 | cons e r ih => intro ns to; rw [zA, List.foldl_cons, <- zA, ih, zd1]
theorem yt (e : jY) (r : List jY) (ns : List Nd) (to : Int) : zA ns to (e :: r) = zA (jJ ns to e) to r := rfl
theorem zaL (a b : List jY) (ns : List Nd) (to : Int) : zA ns to (a ++ b) = zA (zA ns to a) to b := by simp [zA, List.foldl_append]
theorem zee (ns : List Nd) (to to' : Int) (e e' : jY) (h : to = to' \/ e ≠ e') : jJ (jJ ns to e) to' e' = jJ (jJ ns to' e') to e := by
 apply List.ext_getElem?
 intro i
 simp only [jJ, List.getElem?_modify]
 obtain ⟨a, p⟩ := e
 obtain ⟨a', p'⟩ := e'
 dsimp only
 by_cases h1 : a = i <;> by_cases h2 : a' = i <;> simp only [h1, h2, if_true, if_false] <;> cases ns[i]? <;> simp
 rename_i x
 cases p <;> cases p' <;> simp
 ·
  rcases h with h | h
  . exact h.symm
  . exact absurd (by rw [h1, h2]) h
 ·
  rcases h with h | h
  . exact h.symm
  . exact absurd (by rw [h1, h2]) h
theorem kH (es : List jY) : ∀ (ns : List Nd) (to to' : Int) (e : jY), (to = to' \/ e ∉ es) -> zA (jJ ns to' e) to es = jJ (zA ns to es) to' e := by
 induction es with
 | nil => intro ns to to' e _; rfl
 | cons x r ih =>
  intro ns to to' e h
  rw [yt, yt, <- ih _ _ _ _ (h.imp id (fun h hm => h (zng _ hm)))]
  congr 1
  exact zee _ _ _ _ _ (h.imp (fun h => h.symm) (fun h he => h (by rw [he]; exact znh ..)))
theorem zcn (es es' : List jY) (ns : List Nd) (to : Int) : zA (zA ns to es) to es' = zA (zA ns to es') to es := by
 induction es generalizing ns with
 | nil => rfl
 | cons e r ih =>
  rw [yt, ih, yt, kH _ _ _ _ _ (.inl rfl)]
theorem zbE {ns ms : List Nd} {to : Int} {e : jY} (h : e.1 < ns.length) : jJ (ns ++ ms) to e = jJ ns to e ++ ms := by
 apply List.ext_getElem?
 intro i
 simp only [jJ, List.getElem?_modify]
 by_cases h1 : i < ns.length
 . rw [znD h1, znD (by simpa using h1), List.getElem?_modify]
 ·
  rw [znE (by omega), znE (by simp; omega)]
  simp [show ¬ e.1 = i by omega]
theorem zco {es : List jY} : ∀ {ns ms : List Nd} {to : Int}, (∀ e ∈ es, e.1 < ns.length) -> zA (ns ++ ms) to es = zA ns to es ++ ms := by
 induction es with
 | nil => intro ns ms to _; rfl
 | cons e r ih =>
  intro ns ms to h
  rw [yt, yt, zbE (h e (znh ..)), ih (fun x hx => by rw [zd1]; exact h x (zng _ hx))]
theorem qV {ns : List Nd} {x : Nd} {to : Int} {p : Bool} {k : Nat} (hk : k = ns.length) : jJ (ns ++ [x]) to (k, p) = ns ++ [if p then { x with other := to } else { x with next := to }] := by
 subst hk
 apply List.ext_getElem?
 intro i
 simp only [jJ, List.getElem?_modify]
 by_cases h1 : i < ns.length
 . rw [znD h1, znD h1]; simp [show ¬ ns.length = i by omega]
 ·
  rw [znE (by omega), znE (by omega)]
  by_cases h2 : i = ns.length
  . subst h2; simp
  . rw [znB (by simp; omega), znB (by simp; omega)]; simp
theorem zaM {ns ms : List Nd} {x : Nd} {to : Int} {p : Bool} {k : Nat} (hk : k = ns.length) : jJ (ns ++ x :: ms) to (k, p) = ns ++ (if p then { x with other := to } else { x with next := to }) :: ms := by
 have := zbE (ns := ns ++ [x]) (ms := ms) (to := to) (e := (k, p)) (by simp; omega)
 rw [List.append_assoc, List.singleton_append, qV hk] at this
 simpa using this
mutual
def St.plainB : St -> Bool
 | .mk a _ _ _ _ f g _ => (if a = 3 then true else if a = 4 then g.isEmpty else f.isEmpty && g.isEmpty) && yN f && yN g
def yN : List St -> Bool
 | [] => true
 | s :: r => s.plainB && yN r
end
theorem St.plainB_eq (s : St) : s.plainB = ((if s.act = 3 then true else if s.act = 4 then s.els.isEmpty else s.thn.isEmpty && s.els.isEmpty) && yN s.thn && yN s.els) := by cases s; rw [St.plainB]; rfl
theorem zap {l : List St} (h : yN l = true) : ∀ s ∈ l, s.plainB = true := by
 induction l with
 | nil => intro s hs; simp at hs
 | cons x r ih =>
  intro s hs
  rw [yN, Bool.and_eq_true] at h
  rcases znt.1 hs with rfl | hs
  . exact h.1
  . exact ih h.2 s hs
theorem zef {l : List St} (h : ∀ s ∈ l, s.plainB = true) : yN l = true := by
 induction l with
 | nil => rfl
 | cons x r ih => rw [yN, h x (znh ..), ih (fun s hs => h s (zng _ hs))]; rfl
structure BOk (l : List St) (b : Bd) (ins : List jY) (c : Bd) (outs : List jY) : Prop where
 len : c.nodes.length = b.nodes.length + zbg l
 step : c.step = b.step + ssize l
 out : ∀ e ∈ outs, e ∈ ins \/ b.nodes.length <= e.1
 lt : ∀ e ∈ outs, e.1 < c.nodes.length
 lay : ∀ after : Nat, zA c.nodes after outs = zA b.nodes (if l.isEmpty then after else b.nodes.length : Nat) ins ++ zaK l b.step b.nodes.length after
structure OOk (s : St) (b : Bd) (c : Bd) (outs : List jY) : Prop where
 len : c.nodes.length = b.nodes.length + s.wid
 step : c.step = b.step + s.size
 out : ∀ e ∈ outs, b.nodes.length <= e.1
 lt : ∀ e ∈ outs, e.1 < c.nodes.length
 lay : ∀ after : Nat, zA c.nodes after outs = b.nodes ++ s.lay b.step b.nodes.length after
theorem zeg (s : St) (hp : s.plainB = true) (h1 : ∀ (b : Bd) (ins : List jY), (∀ e ∈ ins, e.1 < b.nodes.length) -> BOk s.thn b ins (yr s.thn b ins).1 (yr s.thn b ins).2)
  (h2 : ∀ (b : Bd) (ins : List jY), (∀ e ∈ ins, e.1 < b.nodes.length) -> BOk s.els b ins (yr s.els b ins).1 (yr s.els b ins).2) (b : Bd) : OOk s b (s.one b.nodes.length b).1 (s.one b.nodes.length b).2 := by
 rw [s.plainB_eq, Bool.and_eq_true, Bool.and_eq_true] at hp
 have hw := s.wid_eq
 have hz := s.size_eq
 rw [s.one_eq]
 by_cases a3 : s.act = 3
 ·
  rw [znn (show ¬ s.act = 4 by omega)] at hw
  simp only [zno a3]
  have H1 := h1 { nodes := b.nodes ++ [⟨3, b.step, -1, -1⟩], step := b.step + 1 } [(b.nodes.length, false)] (by simp)
  generalize hx : yr s.thn { nodes := b.nodes ++ [⟨3, b.step, -1, -1⟩], step := b.step + 1 } [(b.nodes.length, false)] = x at H1
  obtain ⟨len1, xX, out1, lt1, lay1⟩ := H1
  simp only [znl, zny] at len1 xX out1 lay1
  have H2 := h2 x.1 [(b.nodes.length, true)] (by simp; omega)
  generalize hy : yr s.els x.1 [(b.nodes.length, true)] = y at H2
  obtain ⟨len2, step2, out2, lt2, lay2⟩ := H2
  refine ⟨by omega, by omega, ?_, ?_, ?_⟩
  ·
   intro e he
   rcases znw.1 he with he | he
   ·
    rcases out1 e he with h | h
    . rw [znv.1 h]; exact znC _
    . omega
   ·
    rcases out2 e he with h | h
    . rw [znv.1 h]; exact znC _
    . omega
  ·
   intro e he
   rcases znw.1 he with he | he
   . have := lt1 e he; omega
   . exact lt2 e he
  ·
   intro after
   have hnot : (b.nodes.length, true) ∉ x.2 := by
    intro h
    rcases out1 _ h with h | h
    . simp at h
    . dsimp only at h; omega
   rw [zaL, zcn, lay2, zco (by intro e he; rw [yS]; exact lt1 e he)]
   rw [show ∀ (t : Int), zA x.1.nodes t [(b.nodes.length, true)] = jJ x.1.nodes t (b.nodes.length, true) from fun _ => rfl]
   rw [kH _ _ _ _ _ (.inr hnot), lay1]
   rw [show ∀ (t : Int) (ns : List Nd), zA ns t [(b.nodes.length, false)] = jJ ns t (b.nodes.length, false) from fun _ _ => rfl]
   rw [qV rfl, List.append_assoc, List.singleton_append, zaM rfl, s.lay_eq, zno a3]
   rw [List.append_assoc, List.cons_append, xX, len1]
   simp only [if_true, Bool.false_eq_true, if_false]
   congr 2
   apply zmH <;> dsimp only
   . split <;> rfl
   . rw [apply_ite Nat.cast]
 ·
  by_cases a4 : s.act = 4
  ·
   rw [zno a4] at hw
   rw [znn a3, zno a4] at hp
   have he0 : s.els = [] := by simpa using hp.1.1
   rw [he0] at hw hz
   simp only [zbg, ssize] at hw hz
   simp only [znn a3, zno a4]
   have hst : jJ (b.nodes ++ [⟨4, b.step, -1, -1⟩, ⟨5, b.step, -1, -1⟩]) (b.nodes.length + 1 : Nat) (b.nodes.length, false) = b.nodes ++ [⟨4, b.step, (b.nodes.length + 1 : Nat), -1⟩, ⟨5, b.step, -1, -1⟩] := by rw [zaM rfl]; rfl
   rw [hst]
   have H1 := h1 { nodes := b.nodes ++ [⟨4, b.step, (b.nodes.length + 1 : Nat), -1⟩, ⟨5, b.step, -1, -1⟩], step := b.step + 1 } [(b.nodes.length + 1, false)] (by simp)
   generalize hx : yr s.thn { nodes := b.nodes ++ [⟨4, b.step, (b.nodes.length + 1 : Nat), -1⟩, ⟨5, b.step, -1, -1⟩], step := b.step + 1 } [(b.nodes.length + 1, false)] = x at H1
   obtain ⟨len1, xX, out1, lt1, lay1⟩ := H1
   simp only [znl, znG, List.length_nil] at len1 xX out1 lay1
   refine ⟨by rw [yS]; omega, by dsimp only; omega, ?_, ?_, ?_⟩
   ·
    intro e he
    rw [znv.1 he]; dsimp only; omega
   ·
    intro e he
    rw [znv.1 he, yS]; dsimp only; omega
   ·
    intro after
    dsimp only
    rw [lay1]
    simp only [show ∀ (t : Int) (ns : List Nd) (q : Bool), zA ns t [(b.nodes.length + 1, q)] = jJ ns t (b.nodes.length + 1, q) from fun _ _ _ => rfl]
    rw [show ∀ (x y : Nd), b.nodes ++ [x, y] = (b.nodes ++ [x]) ++ [y] from fun x y => by simp]
    rw [qV (by simp)]
    rw [List.append_assoc (b.nodes ++ [_]), List.singleton_append, zaM (by simp), s.lay_eq, znn a3, zno a4, List.append_assoc, List.singleton_append]
    simp only [if_true, Bool.false_eq_true, if_false]
    congr 3
    apply zmH <;> dsimp only
    rw [apply_ite Nat.cast]
  ·
   rw [znn a4] at hw
   rw [znn a3, znn a4, Bool.and_eq_true, List.isEmpty_iff, List.isEmpty_iff] at hp
   rw [hp.1.1.1, hp.1.1.2] at hw hz
   simp only [zbg, ssize] at hw hz
   simp only [znn a3, znn a4]
   refine ⟨by simp; omega, by dsimp only; omega, ?_, ?_, ?_⟩
   . intro e he; rw [znv.1 he]; exact znC _
   . intro e he; rw [znv.1 he]; simp
   ·
    intro after
    dsimp only
    rw [show ∀ (t : Int) (ns : List Nd), zA ns t [(b.nodes.length, false)] = jJ ns t (b.nodes.length, false) from fun _ _ => rfl]
    rw [qV rfl, s.lay_eq, znn a3, znn a4]
    rfl
theorem zdx (l : List St) : yN l = true -> ∀ (b : Bd) (ins : List jY), (∀ e ∈ ins, e.1 < b.nodes.length) -> BOk l b ins (yr l b ins).1 (yr l b ins).2 := by
 induction l using zkX with
 | h l ih =>
 intro hp
 have key : ∀ r : List St, (∀ x ∈ r, x ∈ l) -> ∀ (b : Bd) (ins : List jY), (∀ e ∈ ins, e.1 < b.nodes.length) -> BOk r b ins (yr r b ins).1 (yr r b ins).2 := by
  intro r
  induction r with
  | nil =>
   intro _ b ins hi
   rw [yr]
   exact ⟨by simp [zbg], by simp [ssize], fun e he => .inl he, hi, fun after => by simp [zaK]⟩
  | cons s r ihr =>
   intro hm b ins hi
   have hs := zap hp s (hm s (znh ..))
   have hs2 := hs
   rw [s.plainB_eq, Bool.and_eq_true, Bool.and_eq_true] at hs2
   have H := zeg s hs (fun b ins h => (ih s (hm s (znh ..))).1 hs2.1.2 b ins h) (fun b ins h => (ih s (hm s (znh ..))).2 hs2.2 b ins h) { b with nodes := zA b.nodes b.nodes.length ins }
   rw [zdw]
   dsimp only at H
   rw [yS] at H
   generalize s.one b.nodes.length { b with nodes := zA b.nodes b.nodes.length ins } = x at H
   obtain ⟨len1, xX, out1, lt1, lay1⟩ := H
   simp only [yS] at len1 xX out1 lt1 lay1
   have H2 := ihr (fun y hy => hm y (zng _ hy)) x.1 x.2 lt1
   generalize yr r x.1 x.2 = y at H2
   obtain ⟨len2, step2, out2, lt2, lay2⟩ := H2
   refine ⟨by simp only [zbg]; omega, by simp only [ssize]; omega, ?_, lt2, ?_⟩
   ·
    intro e he
    rcases out2 e he with h | h
    . exact .inr (out1 e h)
    . exact .inr (by omega)
   ·
    intro after
    rw [lay2, lay1, zaK, List.append_assoc, len1, xX]
    simp only [List.isEmpty_cons, Bool.false_eq_true, if_false]
 exact key l (fun x h => h)
theorem zd2 (l : List St) : yN l = true -> ∀ at_ node after, (zaK l at_ node after).length = zbg l := by
 intro hp at_ node after
 have H := zdx l hp { nodes := List.replicate node ⟨0, 0, 0, 0⟩, step := at_ } [] (by simp)
 have h1 := H.lay after
 have h2 := congrArg List.length h1
 rw [yS, H.len] at h2
 simp [zA] at h2
 exact h2.symm
theorem zfO (f : Fl) (hp : yN f.body = true) : (zd0 f).length = zbg f.body + 2 := by
 simp [zd0, zd2 _ hp]
structure Nums (ns : List Nd) (a n : Nat) : Prop where
 range : ∀ x ∈ ns, (a : Int) <= x.at_ /\ x.at_ < (a + n : Nat)
 ord : ns.Pairwise fun x y => x.at_ <= y.at_
 all : ∀ k, k < n -> ∃ x ∈ ns, x.at_ = (a + k : Nat)
theorem Nums.nil (a : Nat) : Nums [] a 0 := ⟨fun x h => by simp at h, List.Pairwise.nil, fun k h => by omega⟩
theorem Nums.append {ns ms : List Nd} {a n b m : Nat} (h : Nums ns a n) (h' : Nums ms b m) (hb : b = a + n) : Nums (ns ++ ms) a (n + m) := by
 subst hb
 refine ⟨fun x hx => ?_, ?_, fun k hk => ?_⟩
 ·
  rcases znw.1 hx with hx | hx
  . have := h.range x hx; omega
  . have := h'.range x hx; omega
 ·
  rw [List.pairwise_append]
  refine ⟨h.ord, h'.ord, fun x hx y hy => ?_⟩
  have := h.range x hx
  have := h'.range y hy
  omega
 ·
  by_cases hk2 : k < n
  ·
   obtain ⟨x, hx, e⟩ := h.all k hk2
   exact ⟨x, List.mem_append_left _ hx, e⟩
  ·
   obtain ⟨x, hx, e⟩ := h'.all (k - n) (by omega)
   exact ⟨x, List.mem_append_right _ hx, by rw [e]; omega⟩
theorem Nums.cons {ns : List Nd} {a n : Nat} {x : Nd} (h : Nums ns (a + 1) n) (hx : x.at_ = a) : Nums (x :: ns) a (n + 1) := by
 refine ⟨fun y hy => ?_, ?_, fun k hk => ?_⟩
 ·
  rcases znt.1 hy with rfl | hy
  . omega
  . have := h.range y hy; omega
 ·
  rw [List.pairwise_cons]
  exact ⟨fun y hy => by have := h.range y hy; omega, h.ord⟩
 ·
  by_cases hk2 : k = 0
  . subst hk2; exact ⟨x, znh .., hx⟩
  ·
   obtain ⟨y, hy, e⟩ := h.all (k - 1) (by omega)
   exact ⟨y, zng _ hy, by rw [e]; omega⟩
theorem zmI {ns : List Nd} {a n : Nat} {x : Nd} (h : Nums ns a n) (hn : 0 < n) (hx : x.at_ = a) : Nums (x :: ns) a n := by
 refine ⟨fun y hy => ?_, ?_, fun k hk => ?_⟩
 ·
  rcases znt.1 hy with rfl | hy
  . omega
  . exact h.range y hy
 ·
  rw [List.pairwise_cons]
  exact ⟨fun y hy => by have := h.range y hy; omega, h.ord⟩
 ·
  obtain ⟨y, hy, e⟩ := h.all k hk
  exact ⟨y, zng _ hy, e⟩
theorem zfP (l : List St) : yN l = true -> ∀ a node after, Nums (zaK l a node after) a (ssize l) := by
 induction l using zkX with
 | h l ih =>
 intro hp
 have key : ∀ r : List St, (∀ x ∈ r, x ∈ l) -> ∀ a node after, Nums (zaK r a node after) a (ssize r) := by
  intro r
  induction r with
  | nil => intro _ a node after; exact Nums.nil a
  | cons s r ihr =>
   intro hm a node after
   have hs := zap hp s (hm s (znh ..))
   rw [s.plainB_eq, Bool.and_eq_true, Bool.and_eq_true] at hs
   have h1 := (ih s (hm s (znh ..))).1 hs.1.2
   have h2 := (ih s (hm s (znh ..))).2 hs.2
   rw [zaK, ssize]
   refine Nums.append ?_ (ihr (fun y hy => hm y (zng _ hy)) _ _ _) O
   generalize (if r.isEmpty = true then after else node + s.wid) = e
   have hz := s.size_eq
   rw [s.lay_eq]
   by_cases a3 : s.act = 3
   ·
    rw [zno a3, show s.size = (ssize s.thn + ssize s.els) + 1 by omega]
    exact Nums.cons (Nums.append (h1 _ _ _) (h2 _ _ _) O) O
   ·
    by_cases a4 : s.act = 4
    ·
     rw [znn a3, zno a4] at hs
     rw [znn a3, zno a4]
     have he0 : s.els = [] := by simpa using hs.1.1
     rw [he0] at hz
     simp only [ssize] at hz
     rw [show s.size = ssize s.thn + 1 by omega]
     exact zmI (Nums.cons (h1 _ _ _) O) (by omega) O
    ·
     rw [znn a3, znn a4, Bool.and_eq_true, List.isEmpty_iff, List.isEmpty_iff] at hs
     rw [znn a3, znn a4]
     rw [hs.1.1.1, hs.1.1.2] at hz
     simp only [ssize] at hz
     rw [show s.size = 0 + 1 by omega]
     exact Nums.cons (Nums.nil _) O
 exact key l (fun x h => h)
structure Item where
 i : Nat
 o : Oper
 d : Nat
 R : World -> Value -> World -> Prop
def qW (ops : Array Oper) (L3 : Array Bool) : Nat -> List Nat -> Array Bool -> Bool
 | 0, is, listed => is.isEmpty && (listed == L3)
 | k + 1, is, listed => !(Region.ready .any ops listed).isEmpty && (Region.ready .any ops listed).all (fun j => is.contains j && qW ops L3 k (is.filter (fun x => x != j)) (listed.setIfInBounds j true))
def zhm (R : World -> Value -> World -> Prop) (v : Value) (R' : World -> Value -> World -> Prop) (u : Value) : Prop :=
 (∃ a a' c c', R a v a' /\ R' c u c' /\ Ext a' c) \/ (∃ a a' c c', R a v a' /\ R' c u c' /\ Ext c' a)
theorem qa {α : Type} {f : α -> Nat} : ∀ {l : List α}, (l.map f).Nodup -> ∀ {x y : α}, x ∈ l -> y ∈ l -> f x = f y -> x = y
 | [], _, _, _, hx, _, _ => by simp at hx
 | z :: r, h, x, y, hx, hy, e => by
  rw [List.map_cons, List.nodup_cons] at h
  rcases znt.1 hx with h1 | h1
  ·
   rcases znt.1 hy with h2 | h2
   . rw [h1, h2]
   . exact absurd (List.mem_map.2 ⟨y, h2, by rw [<- e, h1]⟩) h.1
  ·
   rcases znt.1 hy with h2 | h2
   . exact absurd (List.mem_map.2 ⟨x, h1, by rw [e, h2]⟩) h.1
   . exact qa h.2 h1 h2 e
theorem zbF {env : Env} {val : Nat -> Value} : ∀ (I : List Item) (m : Nat) (v : Value), get (I.map (fun x => (x.d, val x.d)) ++ env) m = some v -> (∃ x ∈ I, x.d = m /\ v = val m) \/ get env m = some v
 | [], m, v, h => .inr h
 | x :: r, m, v, h => by
  rw [List.map_cons, List.cons_append] at h
  simp only [GL.get] at h
  cases hb : Nat.beq x.d m with
  | true =>
   rw [hb] at h
   have e := znk hb
   exact .inl ⟨x, znh .., e, by rw [<- e]; exact (Option.some.inj h).symm⟩
  | false =>
   rw [hb] at h
   rcases zbF r m v h with ⟨y, hy, h1, h2⟩ | h1
   . exact .inl ⟨y, zng _ hy, h1, h2⟩
   . exact .inr h1
section
variable {P : Program} {n : Nat} {ops : Array Oper} {Q : Exit -> Act -> World -> Prop} {S : World -> Prop} {L : List Nat} {env : Env} {w : World} {fuel : Nat} {listed : Array Bool}
theorem zeh {i d : Nat} {o : Oper} {R : Value -> World -> Prop} {K : Act -> World -> Prop} {Q' : Exit -> Act -> World -> Prop} {a : Act} (hi : ops[i]? = some o) (hg : o.guard = none) (hd : o.dst = some d) (ha : Ok n env a) (hm : Does P o env w R)
  (h : ∀ v w', R v w' -> K (a.put (some d) v) w') : wpOp P ops Q' i K a w := by
 refine kn hi hg ?_
 unfold Oper.wp
 rcases hm with ⟨v, w', h1, h2⟩ | ⟨f, args, h1, h2⟩
 ·
  rw [h1 n a ha, Oper.upon_value, hd]
  exact h v w' h2
 ·
  rw [h1 n a ha, Oper.upon_enter]
  refine h2.mono ?_
  rintro e w' ⟨v, rfl, hR⟩
  simp only [hd]
  exact h v w' hR
theorem zmJ (I : List Item) {L3 : Array Bool} (hI : ∀ x ∈ I, ops[x.i]? = some x.o /\ x.o.guard = none /\ x.o.dst = some x.d /\ Nat.blt x.d n = true /\ get env x.d = none)
  (hnd : (I.map (·.d)).Nodup) (hni : (I.map (·.i)).Nodup) (hr : qW ops L3 I.length (I.map (·.i)) listed = true)
  (hS : ∀ w', Ext w w' -> S w') (hR : ∀ x ∈ I, ∀ a v a', x.R a v a' -> Ext a a') (hm : ∀ x ∈ I, ∀ w', Ext w w' -> Does P x.o env w' (x.R w'))
  (h : ∀ (val : Nat -> Value) w', Ext w w' -> (∀ x ∈ I, zj7 w x.R (val x.d) w') -> (∀ x ∈ I, ∀ y ∈ I, x.d ≠ y.d -> zhm x.R (val x.d) y.R (val y.d)) -> WD P n ops Q S L fuel L3 (I.map (fun x => (x.d, val x.d)) ++ env) w') :
  WD P n ops Q S L (fuel + I.length) listed env w := by
 have key : ∀ (k : Nat) (J : List Item) (listed : Array Bool) (env' : Env) (w' : World) (val : Nat -> Value), (∀ x ∈ J, x ∈ I) -> qW ops L3 k (J.map (·.i)) listed = true -> Ext w w' -> Sub env env' ->
   (∀ x ∈ I, x ∉ J -> get env' x.d = some (val x.d) /\ zj7 w x.R (val x.d) w') -> (∀ x ∈ I, x ∉ J -> ∀ y ∈ I, y ∉ J -> x.d ≠ y.d -> zhm x.R (val x.d) y.R (val y.d)) ->
   WD P n ops Q S L (fuel + k) listed env' w' := by
  intro k
  induction k with
  | zero =>
   intro J listed env' w' val hJ ho hE hsub hdone hap
   rw [qW, Bool.and_eq_true, List.isEmpty_iff, List.map_eq_nil_iff] at ho
   obtain ⟨rfl, ho⟩ := ho
   have e : listed = L3 := by simpa using ho
   rw [e]
   refine (h val w' hE (fun x hx => (hdone x hx (by simp)).2) (fun x hx y hy hne => hap x hx (by simp) y hy (by simp) hne)).sub ?_
   intro m v hv
   rcases zbF I m v hv with ⟨x, hx, e1, e2⟩ | h1
   . rw [<- e1, (hdone x hx (by simp)).1, e2, e1]
   . exact hsub m v h1
  | succ k ih =>
   intro J listed env' w' val hJ ho hE hsub hdone hap a ha
   rw [qW, Bool.and_eq_true, List.all_eq_true] at ho
   refine ⟨fun h0 => (by rw [h0] at ho; simp at ho), fun j hj => ?_⟩
   have h1 := ho.2 j hj
   rw [Bool.and_eq_true] at h1
   obtain ⟨x, hx, rfl⟩ : ∃ x ∈ J, x.i = j := by simpa using h1.1
   have hxI := hJ x hx
   obtain ⟨q1, q2, q3, q4, q5⟩ := hI x hxI
   refine zeh q1 q2 q3 ha ((hm x hxI w' hE).sub hsub) (fun v w2 hv => ?_)
   have k2 := hR x hxI _ _ _ hv
   refine ⟨fun _ _ => hS _ (hE.ext k2), ?_⟩
   have hne : ∀ y ∈ I, y ∉ J -> y.d ≠ x.d := fun y hy hyJ e => hyJ (by rw [qa hnd hy hxI e]; exact hx)
   have hmem : ∀ z ∈ I, z ∉ J.filter (fun y => y.i != x.i) -> z = x \/ z ∉ J := by
    intro z hz hz2
    by_cases hzJ : z ∈ J
    ·
     left
     by_cases e : z.i = x.i
     . exact qa hni hz hxI e
     . exact absurd (List.mem_filter.2 ⟨hzJ, by simpa using e⟩) hz2
    . exact .inr hzJ
   refine ih (J.filter (fun y => y.i != x.i)) (listed.setIfInBounds x.i true) ((x.d, v) :: env') w2 (fun m => if m = x.d then v else val m) (fun z hz => hJ z (List.mem_filter.1 hz).1) ?_ (hE.ext k2) ?_ ?_ ?_ _ (ha.put q4)
   ·
    have := h1.2
    rw [List.filter_map] at this
    exact this
   ·
    intro m u hu
    simp only [GL.get]
    cases hb : Nat.beq x.d m with
    | true =>
     have e := znk hb
     rw [<- e, q5] at hu
     cases hu
    | false => exact hsub m u hu
   ·
    intro z hz hz2
    rcases hmem z hz hz2 with rfl | hzJ
    ·
     refine ⟨by simp [GL.get, Nat.beq_refl], ?_⟩
     simp only [if_true]
     exact ⟨w', w2, hE, hv, Keep.refl _ _⟩
    ·
     have hzd := hne z hz hzJ
     simp only [hzd, if_false]
     obtain ⟨g1, a1, a2, g2, g3, g4⟩ := hdone z hz hzJ
     refine ⟨?_, a1, a2, g2, g3, g4.ext k2⟩
     simp only [GL.get]
     cases hb : Nat.beq x.d z.d with
     | true => exact absurd (znk hb).symm hzd
     | false => exact g1
   ·
    intro z hz hz2 y hy hy2 hzy
    rcases hmem z hz hz2 with rfl | hzJ <;> rcases hmem y hy hy2 with rfl | hyJ
    . exact absurd O hzy
    ·
     have hyd := hne y hy hyJ
     simp only [hyd, if_false, if_true]
     obtain ⟨_, a1, a2, g2, g3, g4⟩ := hdone y hy hyJ
     exact .inr ⟨_, _, _, _, hv, g3, g4⟩
    ·
     have hzd := hne z hz hzJ
     simp only [hzd, if_false, if_true]
     obtain ⟨_, a1, a2, g2, g3, g4⟩ := hdone z hz hzJ
     exact .inl ⟨_, _, _, _, g3, hv, g4⟩
    ·
     simp only [hne z hz hzJ, hne y hy hyJ, if_false]
     exact hap z hz hzJ y hy hyJ hzy
 refine key I.length I listed env w (fun _ => undef) (fun x hx => hx) hr (Keep.refl _ _) (Sub.refl _) (fun x hx h => absurd hx h) (fun x hx h => absurd hx h)
end
end Go.GL
namespace Go.Proofs.YtaenledoagbddaaGreatDoor
open Go.GL
def zr (op : Int) : Int := if op = 0 \/ op = 24 then 0 else if op = 6 \/ op = 7 then 1 else if 8 <= op /\ op <= 22 then 2 else if op = 23 then 3 else if op = 25 then -2 else -1
theorem zcp (op : Int) (w : World) : Calls Tryz.prog 221 #[.int .i64 op] w (Ret fun r w' => (∃ a b : Int, r = .tuple #[.int .i64 a, .int .i64 b] /\ (a < 0 ↔ zr op = -1) /\ (0 <= zr op -> a = zr op /\ b = zr op) /\ (zr op = -2 -> a = 2 /\ b = 33)) /\ Ext w w') := by
 refine zlt Tryz.func221 O Tryz.ntmps221 O (Gs 13 O (zlf 7 O (fun h1 => ?_) (fun h1 => ?_)))
 ·
  refine Gs 16 O ?_
  have e : zr op = 0 := by unfold zr; rw [zno (by omega)]
  refine zjJ tr221 O O ⟨_, rfl, ⟨0, 0, rfl, by rw [e]; omega, fun _ => by rw [e]; exact ⟨rfl, rfl⟩, fun h => by rw [e] at h; omega⟩, Keep.refl _ _⟩
 ·
  refine Gs 6 O (zjm O (fun h2 => ?_) (fun h2 => ?_))
  ·
   refine Gs 9 O ?_
   have e : zr op = 0 := by unfold zr; rw [zno (by omega)]
   refine zjJ tr221 O O ⟨_, rfl, ⟨0, 0, rfl, by rw [e]; omega, fun _ => by rw [e]; exact ⟨rfl, rfl⟩, fun h => by rw [e] at h; omega⟩, Keep.refl _ _⟩
  ·
   refine Gs 5 O (zlf 14 O (fun h3 => ?_) (fun h3 => ?_))
   ·
    refine Gs 16 O ?_
    have e : zr op = 1 := by unfold zr; rw [znn (by omega), zno (by omega)]
    refine zjJ tr221 O O ⟨_, rfl, ⟨1, 1, rfl, by rw [e]; omega, fun _ => by rw [e]; exact ⟨rfl, rfl⟩, fun h => by rw [e] at h; omega⟩, Keep.refl _ _⟩
   ·
    refine Gs 6 O (zjm O (fun h4 => ?_) (fun h4 => ?_))
    ·
     refine Gs 9 O ?_
     have e : zr op = 1 := by unfold zr; rw [znn (by omega), zno (by omega)]
     refine zjJ tr221 O O ⟨_, rfl, ⟨1, 1, rfl, by rw [e]; omega, fun _ => by rw [e]; exact ⟨rfl, rfl⟩, fun h => by rw [e] at h; omega⟩, Keep.refl _ _⟩
    ·
     refine Gs 1 O (zjA (σ := Bool) (fun q => [(0, .int .i64 op), (18, .bool q)]) (fun q => fun w' => (q = true ↔ 8 <= op /\ op <= 22) /\ w' = w) ?_ ?_)
     ·
      refine Gs 4 O (zlf 21 O (fun h5 => ?_) (fun h5 => ?_))
      . refine Gs 5 O (zjC (decide (op <= 22)) (zl4 O) (⟨by simp; omega, rfl⟩))
      . refine Gs 5 O (zjC (false) (Sub.cons O (Sub.cons (by first | rfl | (show some (Value.bool false) = some (Value.bool _); simp [*])) Sub.nil)) (⟨by simp; omega, rfl⟩))
     ·
      rintro q w1 ⟨hq, hw1⟩
      subst hw1
      refine Gs 1 O (G.bool O (fun h6 => ?_) (fun h6 => ?_))
      ·
       have h7 := hq.1 h6
       refine Gs 9 O ?_
       have e : zr op = 2 := by unfold zr; rw [znn (by omega), znn (by omega), zno (by omega)]
       refine zjJ tr221 O O ⟨_, rfl, ⟨2, 2, rfl, by rw [e]; omega, fun _ => by rw [e]; exact ⟨rfl, rfl⟩, fun h => by rw [e] at h; omega⟩, Keep.refl _ _⟩
      ·
       have h7 : ¬ (8 <= op /\ op <= 22) := fun h => by rw [hq.2 h] at h6; cases h6
       refine Gs 7 O (zjm O (fun h8 => ?_) (fun h8 => ?_))
       ·
        refine Gs 9 O ?_
        have e : zr op = 3 := by unfold zr; rw [znn (by omega), znn (by omega), znn (by omega), zno (by omega)]
        refine zjJ tr221 O O ⟨_, rfl, ⟨3, 3, rfl, by rw [e]; omega, fun _ => by rw [e]; exact ⟨rfl, rfl⟩, fun h => by rw [e] at h; omega⟩, Keep.refl _ _⟩
       ·
        refine Gs 7 O (zjm O (fun h9 => ?_) (fun h9 => ?_))
        ·
         refine Gs 9 O ?_
         have e : zr op = -2 := by unfold zr; rw [znn (by omega), znn (by omega), znn (by omega), znn (by omega), zno (by omega)]
         refine zjJ tr221 O O ⟨_, rfl, ⟨2, 33, rfl, by rw [e]; omega, fun h => by rw [e] at h; omega, fun _ => ⟨rfl, rfl⟩⟩, Keep.refl _ _⟩
        ·
         refine Gs 10 O ?_
         have e : zr op = -1 := by unfold zr; rw [znn (by omega), znn (by omega), znn (by omega), znn (by omega), znn (by omega)]
         refine zjJ tr221 O O ⟨_, rfl, ⟨-1, -1, rfl, by rw [e]; omega, fun h => by rw [e] at h; omega, fun h => by rw [e] at h; omega⟩, Keep.refl _ _⟩
@[irreducible] def yK (n : Int) : Bool := decide (97 <= n /\ n <= 122)
@[irreducible] def ye (n : Int) : Bool := decide (48 <= n /\ n <= 57 \/ n = 46 \/ n = 95)
def okB (i : Nat) (n : Int) : Bool := yK n || (decide (i ≠ 0) && ye n)
@[irreducible] def zaN (s : ByteArray) : Bool := decide (1 <= s.size /\ s.size <= 40 /\ ∀ (i : Nat) (h : i < s.size), okB i (s[i].toNat : Int) = true)
theorem zgR (s : ByteArray) (w : World) : Calls Tryz.prog 55 #[.string s] w (Ret fun r w' => r = .bool (zaN s) /\ Ext w w') := by
 refine zlt Tryz.func55 O Tryz.ntmps55 O (Gs 12 O (zlf 10 O (fun h1 => ?_) (fun h1 => ?_)))
 . refine Gs 14 O (zjG tr55 O ⟨_, rfl, by rw [zaN, znq (fun h => by omega)], Keep.refl _ _⟩)
 ·
  refine Gs 6 O (zjm O (fun h2 => ?_) (fun h2 => ?_))
  . refine Gs 7 O (zjG tr55 O ⟨_, rfl, by rw [zaN, znq (fun h => by omega)], Keep.refl _ _⟩)
  ·
   refine Gs 9 O (G.loop (σ := Nat) (fun i => [(0, .string s), (3, .int .i64 i)]) (fun i => fun w' => i <= s.size /\ (∀ (j : Nat) (h : j < s.size), j < i -> okB j (s[j].toNat : Int) = true) /\ w' = w) (fun i => s.size - i) (0) (zl4 O) (⟨zns _, fun j _ h => absurd h (Nat.not_lt_zero _), rfl⟩) ?_)
   rintro i w1 ⟨hi, hall, hw1⟩
   subst hw1
   refine Gs 9 O (zjm O (fun hlt => ?_) (fun hlt => ?_))
   ·
    have hlt' : i < s.size := by omega
    refine Gs 8 O (zlk O O (zkS tu9 O O i O hlt') ?_)
    obtain ⟨n, hn⟩ : ∃ n : Int, n = (s[i].toNat : Int) := ⟨_, rfl⟩
    rw [<- hn]
    refine Gs 4 O (zjA (σ := Bool) (fun q => [(0, .string s), (3, .int .i64 i), (4, .int .u8 n), (5, .bool q)]) (fun q => fun w' => q = yK n /\ w' = w1) ?_ ?_)
    ·
     refine Gs 4 O (zlf 26 O (fun a => ?_) (fun a => ?_))
     . refine Gs 5 O (zjC (decide (n <= 122)) (zl4 O) (⟨by unfold yK; congr 1; simp; omega, rfl⟩))
     . refine Gs 5 O (zjC (false) (Sub.cons O (Sub.cons O (Sub.cons O (Sub.cons (by first | rfl | (show some (Value.bool false) = some (Value.bool _); simp [*])) Sub.nil)))) (⟨by unfold yK; rw [znq (by omega)], rfl⟩))
    rintro q w2 ⟨hq, hw2⟩
    subst hq
    refine Gs 2 O (zjA (σ := Bool) (fun q => [(0, .string s), (3, .int .i64 i), (5, .bool (yK n)), (6, .bool q)]) (fun q => fun w' => q = ye n /\ w' = w2) ?_ ?_)
    ·
     refine Gs 4 O (zlf 32 O (fun a => ?_) (fun a => ?_))
     ·
      refine Gs 4 O (zlf 36 O (fun b => ?_) (fun b => ?_))
      . refine Gs 9 O (zjC (true) (Sub.cons O (Sub.cons O (Sub.cons O (Sub.cons (by first | rfl | (show some (Value.bool true) = some (Value.bool _); simp [*])) Sub.nil)))) (⟨by unfold ye; rw [znp (by omega)], rfl⟩))
      ·
       refine Gs 4 O (zlf 40 O (fun c => ?_) (fun c => ?_))
       . refine Gs 5 O (zjC (true) (Sub.cons O (Sub.cons O (Sub.cons O (Sub.cons (by first | rfl | (show some (Value.bool true) = some (Value.bool _); simp [*])) Sub.nil)))) (⟨by unfold ye; rw [znp (by omega)], rfl⟩))
       . refine Gs 5 O (zjC (decide (n = 95)) (zl4 O) (⟨by unfold ye; congr 1; simp; omega, rfl⟩))
     ·
      refine Gs 8 O (zlf 40 O (fun c => ?_) (fun c => ?_))
      . refine Gs 5 O (zjC (true) (Sub.cons O (Sub.cons O (Sub.cons O (Sub.cons (by first | rfl | (show some (Value.bool true) = some (Value.bool _); simp [*])) Sub.nil)))) (⟨by unfold ye; rw [znp (by omega)], rfl⟩))
      . refine Gs 5 O (zjC (decide (n = 95)) (zl4 O) (⟨by unfold ye; congr 1; simp; omega, rfl⟩))
    rintro q w3 ⟨hq, hw3⟩
    subst hq
    have hstep : okB i n = true -> ∀ (j : Nat) (h : j < s.size), j < i + 1 -> okB j (s[j].toNat : Int) = true := by
     intro h0 j h h1
     by_cases e : j = i
     . subst e; rw [<- hn]; exact h0
     . exact hall j h (by omega)
    have hbad : okB i n = false -> zaN s = false := by
     intro h0
     rw [zaN, znq]
     rintro ⟨_, _, h3⟩
     have := h3 i hlt'
     rw [<- hn, h0] at this
     cases this
    have hw : w3 = w1 := by rw [hw3, hw2]
    refine Gs 4 O (zlk O O (zkO O (by first | exact zb | rfl)) (Gs 1 O (zli 46 O (fun l => ?_) (fun l => ?_))))
    ·
     have l' : yK n = false := by simpa using l
     refine Gs 3 O (zlf 49 O (fun z => ?_) (fun z => ?_))
     . refine Gs 18 O (zjG tr55 O ⟨_, rfl, by rw [hbad (by unfold okB; rw [l', znq (by omega)]; rfl)], by rw [hw]; exact Keep.refl _ _⟩)
     ·
      have z' : decide (i ≠ 0) = true := znp (by omega)
      refine Gs 1 O (zlk O O (zkO O (by first | exact zb | rfl)) (Gs 4 O (G.bool O (fun o => ?_) (fun o => ?_))))
      ·
       have o' : ye n = false := by simpa using o
       refine Gs 11 O (zjG tr55 O ⟨_, rfl, by rw [hbad (by unfold okB; rw [l', o']; simp)], by rw [hw]; exact Keep.refl _ _⟩)
      ·
       have o' : ye n = true := by simpa using o
       refine Ga 8 O (by omega) (zjx (i + 1) (zl4 O) (⟨by omega, hstep (by unfold okB; rw [o', z']; simp), hw⟩) (by first | omega | (dsimp only; omega)))
    ·
     have l' : yK n = true := by simpa using l
     refine Ga 18 O (by omega) (zjx (i + 1) (zl4 O) (⟨by omega, hstep (by unfold okB; rw [l']; rfl), hw⟩) (by first | omega | (dsimp only; omega)))
   . refine Gs 11 O (zjG tr55 O ⟨_, rfl, by rw [zaN, znp ⟨by omega, by omega, fun j h => hall j h (by omega)⟩], Keep.refl _ _⟩)
theorem qX (s : ByteArray) (w : World) : Calls Tryz.prog 144 #[.string s] w (Ret fun r w' => r = .bool (zaN s) /\ Ext w w') := by
 refine zlt Tryz.func144 O Tryz.ntmps144 O (Gs 11 O (zlf 8 O (fun h1 => ?_) (fun h1 => ?_)))
 ·
  have h1' : s.size = 0 := by
   have := congrArg List.length h1
   rw [ByteArray.toList_eq] at this
   simpa using this
  refine Gs 14 O (zjG tr144 O ⟨_, rfl, by rw [zaN, znq (fun h => by omega)], Keep.refl _ _⟩)
 ·
  have h1' : s.size ≠ 0 := by
   intro h
   apply h1
   have : s.toList.length = 0 := by rw [ByteArray.toList_eq]; simpa using h
   rw [List.eq_nil_of_length_eq_zero this, ByteArray.toList_eq]
  refine Gs 6 O (zjm O (fun h2 => ?_) (fun h2 => ?_))
  . refine Gs 7 O (zjG tr144 O ⟨_, rfl, by rw [zaN, znq (fun h => by omega)], Keep.refl _ _⟩)
  ·
   refine Gs 11 O (G.loop (σ := Nat) (fun i => [(0, .string s), (14, .int .i64 s.size), (15, .int .i64 i)]) (fun i => fun w' => i <= s.size /\ (∀ (j : Nat) (h : j < s.size), j < i -> okB j (s[j].toNat : Int) = true) /\ w' = w) (fun i => s.size - i) (0) (zl4 O) (⟨zns _, fun j _ h => absurd h (Nat.not_lt_zero _), rfl⟩) ?_)
   rintro i w1 ⟨hi, hall, hw1⟩
   subst hw1
   refine Gs 6 O (zjm O (fun hlt => ?_) (fun hlt => ?_))
   ·
    have hlt' : i < s.size := by omega
    refine Gs 14 O (zlk O O (zkS tu9 O O i O hlt') ?_)
    obtain ⟨n, hn⟩ : ∃ n : Int, n = (s[i].toNat : Int) := ⟨_, rfl⟩
    rw [<- hn]
    refine Gs 4 O (zjA (σ := Bool) (fun q => [(0, .string s), (14, .int .i64 s.size), (15, .int .i64 i), (3, .int .i64 i), (4, .int .u8 n), (5, .bool q)]) (fun q => fun w' => q = yK n /\ w' = w1) ?_ ?_)
    ·
     refine Gs 4 O (zlf 23 O (fun a => ?_) (fun a => ?_))
     . refine Gs 5 O (zjC (decide (n <= 122)) (zl4 O) (⟨by unfold yK; congr 1; simp; omega, rfl⟩))
     . refine Gs 5 O (zjC (false) (Sub.cons O (Sub.cons O (Sub.cons O (Sub.cons O (Sub.cons O (Sub.cons (by first | rfl | (show some (Value.bool false) = some (Value.bool _); simp [*])) Sub.nil)))))) (⟨by unfold yK; rw [znq (by omega)], rfl⟩))
    rintro q w3 ⟨hq, hw⟩
    subst hq
    have hstep : okB i n = true -> ∀ (j : Nat) (h : j < s.size), j < i + 1 -> okB j (s[j].toNat : Int) = true := by
     intro h0 j h h1
     by_cases e : j = i
     . subst e; rw [<- hn]; exact h0
     . exact hall j h (by omega)
    have hbad : okB i n = false -> zaN s = false := by
     intro h0
     rw [zaN, znq]
     rintro ⟨_, _, h3⟩
     have := h3 i hlt'
     rw [<- hn, h0] at this
     cases this
    refine Gs 4 O (zlk O O (zkO O (by first | exact zb | rfl)) (Gs 1 O (zli 29 O (fun l => ?_) (fun l => ?_))))
    ·
     have l' : yK n = false := by simpa using l
     refine Gs 3 O (zlf 32 O (fun z => ?_) (fun z => ?_))
     . refine Gs 30 O (zjG tr144 O ⟨_, rfl, by rw [hbad (by unfold okB; rw [l', znq (by omega)]; rfl)], by rw [hw]; exact Keep.refl _ _⟩)
     ·
      have z' : decide (i ≠ 0) = true := znp (by omega)
      have fin : (ye n = false -> False) -> okB i n = true := fun h => by
       unfold okB; rw [z']
       cases ho : ye n
       . exact (h ho).elim
       . simp
      have bad : ye n = false -> zaN s = false := fun h => hbad (by unfold okB; rw [l', h]; simp)
      refine Gs 3 O (zlf 35 O (fun a => ?_) (fun a => ?_))
      ·
       refine Gs 8 O (zlf 43 O (fun b => ?_) (fun b => ?_))
       ·
        refine Gs 7 O (zjm O (fun c => ?_) (fun c => ?_))
        ·
         have ho : ye n = false := by unfold ye; exact znq (by omega)
         refine Gs 11 O (zjG tr144 O ⟨_, rfl, by rw [bad ho], by rw [hw]; exact Keep.refl _ _⟩)
        . refine Ga 7 O (by omega) (zjx (i + 1) (zl4 O) (⟨by omega, hstep (fin (fun h => by unfold ye at h; have := of_decide_eq_false h; omega)), hw⟩) (by first | omega | (dsimp only; omega)))
       . refine Ga 15 O (by omega) (zjx (i + 1) (zl4 O) (⟨by omega, hstep (fin (fun h => by unfold ye at h; have := of_decide_eq_false h; omega)), hw⟩) (by first | omega | (dsimp only; omega)))
      ·
       refine Gs 4 O (zlf 39 O (fun b0 => ?_) (fun b0 => ?_))
       ·
        refine Gs 4 O (zlf 43 O (fun b => ?_) (fun b => ?_))
        ·
         refine Gs 7 O (zjm O (fun c => ?_) (fun c => ?_))
         ·
          have ho : ye n = false := by unfold ye; exact znq (by omega)
          refine Gs 11 O (zjG tr144 O ⟨_, rfl, by rw [bad ho], by rw [hw]; exact Keep.refl _ _⟩)
         . refine Ga 7 O (by omega) (zjx (i + 1) (zl4 O) (⟨by omega, hstep (fin (fun h => by unfold ye at h; have := of_decide_eq_false h; omega)), hw⟩) (by first | omega | (dsimp only; omega)))
        . refine Ga 15 O (by omega) (zjx (i + 1) (zl4 O) (⟨by omega, hstep (fin (fun h => by unfold ye at h; have := of_decide_eq_false h; omega)), hw⟩) (by first | omega | (dsimp only; omega)))
       . refine Ga 19 O (by omega) (zjx (i + 1) (zl4 O) (⟨by omega, hstep (fin (fun h => by unfold ye at h; have := of_decide_eq_false h; omega)), hw⟩) (by first | omega | (dsimp only; omega)))
    ·
     have l' : yK n = true := by simpa using l
     refine Ga 29 O (by omega) (zjx (i + 1) (zl4 O) (⟨by omega, hstep (by unfold okB; rw [l']; rfl), hw⟩) (by first | omega | (dsimp only; omega)))
   . refine Gs 11 O (zjG tr144 O ⟨_, rfl, by rw [zaN, znp ⟨by omega, by omega, fun j h => hall j h (by omega)⟩], Keep.refl _ _⟩)
@[irreducible] def zbh (low high : Int) : Bool := decide (low <= high /\ -1048576 <= low /\ high <= 1048576)
theorem zfQ (a b : Int) (w : World) : Calls Tryz.prog 56 #[.int .i64 a, .int .i64 b] w (Ret fun r w' => r = .bool (zbh a b) /\ Ext w w') := by
 refine zlu Tryz.func56 O Tryz.ntmps56 O (Gs 11 O (zlf 8 O (fun h1 => ?_) (fun h1 => ?_)))
 ·
  refine Gs 4 O (zlf 12 O (fun h2 => ?_) (fun h2 => ?_))
  . refine Gs 7 O (zjG Tryz.results56 O ⟨_, rfl, by unfold zbh; congr 2; simp; omega, Keep.refl _ _⟩)
  . refine Gs 7 O (zjG Tryz.results56 O ⟨_, rfl, by rw [zbh, znq (by omega)], Keep.refl _ _⟩)
 . refine Gs 11 O (zjG Tryz.results56 O ⟨_, rfl, by rw [zbh, znq (by omega)], Keep.refl _ _⟩)
theorem qv (a b : Int) (w : World) : Calls Tryz.prog 146 #[.int .i64 a, .int .i64 b] w (Ret fun r w' => r = .bool (zbh a b) /\ Ext w w') := by
 refine zlu Tryz.func146 O Tryz.ntmps146 O (Gs 11 O (zlf 8 O (fun h1 => ?_) (fun h1 => ?_)))
 ·
  refine Gs 4 O (zlf 12 O (fun h2 => ?_) (fun h2 => ?_))
  . refine Gs 7 O (zjG Tryz.results146 O ⟨_, rfl, by unfold zbh; congr 2; simp; omega, Keep.refl _ _⟩)
  . refine Gs 7 O (zjG Tryz.results146 O ⟨_, rfl, by rw [zbh, znq (by omega)], Keep.refl _ _⟩)
 . refine Gs 11 O (zjG Tryz.results146 O ⟨_, rfl, by rw [zbh, znq (by omega)], Keep.refl _ _⟩)
def yu (op : Int) (n : Nat) : Bool := if 0 <= zr op then decide ((n : Int) = zr op) else decide (zr op = -2 /\ 2 <= n /\ n <= 33)
def zaO (vs : List Vr) (n : Int) : Bool := match vs[n.toNat]? with
 | some v => decide (v.kind = 0)
 | none => false
def xR (vs : List Vr) (inputs : Bool) (op n : Int) : Bool := if op = 24 then decide (0 <= n /\ n < vs.length) && !(inputs && zaO vs n) else decide (op = 0 \/ n = 0)
mutual
def zw (vs : List Vr) (inputs : Bool) : Tm -> Bool
 | .mk op n ks => yu op ks.length && xR vs inputs op n && zL vs inputs ks
def zL (vs : List Vr) (inputs : Bool) : List Tm -> Bool
 | [] => true
 | k :: r => zw vs inputs k && zL vs inputs r
end
section
variable {vs : List Vr} {inp : Bool}
theorem yT (t : Tm) : zw vs inp t = (yu t.op t.kids.length && xR vs inp t.op t.n && zL vs inp t.kids) := by cases t; rw [zw]; rfl
theorem qw (a b : List Tm) : zL vs inp (a ++ b) = (zL vs inp a && zL vs inp b) := by
 induction a with
 | nil => simp [zL]
 | cons x r ih => simp [zL, ih, Bool.and_assoc]
theorem zbG {l : List Tm} {i : Nat} {x : Tm} (h : l[i]? = some x) : zL vs inp (l.take (i + 1)) = (zL vs inp (l.take i) && zw vs inp x) := by rw [zh h, qw]; simp [zL]
theorem zR {l : List Tm} {x : Tm} (h : zL vs inp l = true) (hx : x ∈ l) : zw vs inp x = true := by
 obtain ⟨i, hi⟩ := List.mem_iff_getElem?.1 hx
 rw [xa hi, qw] at h
 simp [zL] at h
 exact h.2.1
theorem zcq {l : List Tm} {x : Tm} (hx : x ∈ l) (h : zw vs inp x = false) : zL vs inp l = false := by
 cases h1 : zL vs inp l with
 | false => rfl
 | true => rw [zR h1 hx] at h; cases h
theorem yv {op : Int} {n : Nat} (h : zr op = -1 \/ (0 <= zr op /\ (n : Int) ≠ zr op) \/ (zr op = -2 /\ (n < 2 \/ 33 < n))) : yu op n = false := by
 unfold yu
 split
 . exact znq (by omega)
 . exact znq (by omega)
theorem kI {op : Int} {n : Nat} (h : (0 <= zr op /\ (n : Int) = zr op) \/ (zr op = -2 /\ 2 <= n /\ n <= 33)) : yu op n = true := by
 unfold yu
 split
 . exact znp (by omega)
 . exact znp (by omega)
theorem jq (op : Int) : zr op = 0 \/ zr op = 1 \/ zr op = 2 \/ zr op = 3 \/ zr op = -2 \/ zr op = -1 := by
 unfold zr; (repeat' split); all_goals omega
theorem zdy {n : Int} (h : 0 <= n /\ n < vs.length) {v : Vr} (hv : vs[n.toNat]? = some v) : xR vs inp 24 n = !(inp && decide (v.kind = 0)) := by
 unfold xR zaO
 rw [zno rfl, znp h, hv, Bool.true_and]
theorem zdz {n : Int} (h : ¬ (0 <= n /\ n < vs.length)) : xR vs inp 24 n = false := by
 unfold xR
 rw [zno rfl, znq h]; rfl
theorem kJ {op n : Int} (h : op ≠ 24) : xR vs inp op n = decide (op = 0 \/ n = 0) := by
 unfold xR
 rw [znn h]
end
theorem zaP (vs : List Vr) (inp : Bool) (vv : Value) (Dv : Nat -> Prop) (t : Tm) : ∀ (cs : List Value) (D : Nat -> Prop) (w : World), SlR 5 RVr Dv w vv vs -> RTm D w t cs -> Calls Tryz.prog 197 #[vv, .agg cs.toArray, .bool inp] w (Ret fun r w' => r = .bool (zw vs inp t) /\ Ext w w') := by
 induction t using zkV with
 | h t ih =>
 intro cs D w hvs ht
 have hcs1 := ht.one
 obtain ⟨v, rfl, hk⟩ := ht.get
 have hmx := hk.max
 obtain ⟨ao, cap, rfl⟩ := hk.form
 obtain ⟨av, nv, rfl⟩ := hvs.form
 have hfe := yT (vs := vs) (inp := inp) t
 have hkv := jq t.op
 have hE := Keep.refl (fun _ => False) w
 refine zlv Tryz.func197 O Tryz.ntmps197 O (Gs 2 O (G.mem O O (M.box O O) ?_))
 rintro _ w_b ⟨b, rfl, hg_b, hs_b, hB_b, hk_b⟩
 have hge_b : _ <= b := znj hE.size (Nat.le_of_eq hg_b.symm)
 obtain ⟨hE, hvs, hk⟩ := Tr3 hk_b hE hvs hk
 refine Gs 6 O (zlo O tg83 (hB_b.cells 0 _ O) (G.call O Tryz.call221 (zcp t.op _) ?_))
 rintro _ wz1 ⟨⟨la, mo, rfl, hk1, hk2, hk3⟩, hz1⟩
 obtain ⟨hE, hvs, hk, hB_b⟩ := Tr4 hz1 hE hvs hk hB_b
 refine Gs 9 O (zjA (σ := Bool) (fun q => [(0, .slice av vs.length nv), (2, .bool inp), (4, .pointer (some ⟨b, 0, none⟩)), (32, .bool q)]) (fun q => fun w' => q = (!yu t.op t.kids.length) /\ w' = wz1) ?_ ?_)
 ·
  refine Gs 4 O (zlf 19 O (fun h1 => ?_) (fun h1 => ?_))
  . refine Gs 14 O (zjC (true) (Sub.cons O (Sub.cons O (Sub.cons O (Sub.cons (by first | rfl | (show some (Value.bool true) = some (Value.bool _); simp [*])) Sub.nil)))) (⟨by rw [yv (.inl (hk1.1 h1))]; rfl, rfl⟩))
  ·
   have h1' : zr t.op ≠ -1 := fun h => h1 (hk1.2 h)
   refine Gs 1 O (zlo O tg84 (hB_b.cells 2 _ O) (Gs 5 O (zlf 26 O (fun h2 => ?_) (fun h2 => ?_))))
   ·
    refine Gs 7 O (zjC (true) (Sub.cons O (Sub.cons O (Sub.cons O (Sub.cons (by first | rfl | (show some (Value.bool true) = some (Value.bool _); simp [*])) Sub.nil)))) (⟨?_, rfl⟩))
    rcases (show 0 <= zr t.op \/ zr t.op = -2 by omega) with h | h
    ·
     have := hk2 h
     rw [yv (.inr (.inl ⟨h, by omega⟩))]; rfl
    ·
     have := hk3 h
     rw [yv (.inr (.inr ⟨h, by omega⟩))]; rfl
   ·
    refine Gs 1 O (zlo O tg84 (hB_b.cells 2 _ O) (Gs 5 O (zjC (decide (mo < (t.kids.length : Int))) (zl4 O) (⟨?_, rfl⟩))))
    rcases (show 0 <= zr t.op \/ zr t.op = -2 by omega) with h | h
    ·
     have := hk2 h
     by_cases h3 : mo < (t.kids.length : Int)
     . rw [yv (.inr (.inl ⟨h, by omega⟩)), znp h3]; rfl
     . rw [kI (.inl ⟨h, by omega⟩), znq h3]; rfl
    ·
     have := hk3 h
     by_cases h3 : mo < (t.kids.length : Int)
     . rw [yv (.inr (.inr ⟨h, by omega⟩)), znp h3]; rfl
     . rw [kI (.inr ⟨h, by omega, by omega⟩), znq h3]; rfl
 rintro q w2 ⟨hq, hw2⟩
 subst hw2
 refine Gs 1 O (G.bool O (fun hq1 => ?_) (fun hq1 => ?_))
 ·
  have hf : yu t.op t.kids.length = false := by rw [hq1] at hq; simpa using hq.symm
  refine Gs 7 O (zjG tr197 O ⟨_, rfl, by rw [hfe, hf]; rfl, hE⟩)
 ·
  have hf : yu t.op t.kids.length = true := by rw [hq1] at hq; simpa using hq.symm
  rw [hf, Bool.true_and] at hfe
  refine Gs 6 O (zlo O tg83 (hB_b.cells 0 _ O) (Gs 2 O (zjA (σ := Unit) (fun u => [(0, .slice av vs.length nv), (2, .bool inp), (4, .pointer (some ⟨b, 0, none⟩))]) (fun u => fun w' => xR vs inp t.op t.n = true /\ w' = w2) ?_ ?_)))
  ·
   refine Gs 7 O (zjm O (fun h0 => ?_) (fun h0 => ?_))
   ·
    have hrf := kJ (vs := vs) (inp := inp) (n := t.n) (show t.op ≠ 24 by omega)
    refine Gs 2 O (zjC (()) (zl4 O) (⟨by rw [hrf, znp (by omega)], rfl⟩))
   ·
    refine Gs 6 O (zjm O (fun h24 => ?_) (fun h24 => ?_))
    ·
     have hrn : ¬ (0 <= t.n /\ t.n < vs.length) -> zw vs inp t = false := fun h => by rw [hfe, h24, zdz h]; rfl
     refine Gs 3 O (zlo O tg3 (hB_b.cells 1 _ O) (Gs 2 O (zlf 45 O (fun n0 => ?_) (fun n0 => ?_))))
     . refine Gs 30 O (zjG tr197 O ⟨_, rfl, by rw [hrn (by omega)], hE⟩)
     ·
      refine Gs 1 O (zlo O tg3 (hB_b.cells 1 _ O) (Gs 5 O (zlf 52 O (fun n1 => ?_) (fun n1 => ?_))))
      . refine Gs 23 O (zjG tr197 O ⟨_, rfl, by rw [hrn (by omega)], hE⟩)
      ·
       obtain ⟨x, he_x, hm_x⟩ := gE_ vs (t.n.toNat) (by omega)
       obtain ⟨b_x, o_x, c_x, ha_x, _, hc_x, hR_x⟩ := hvs.at he_x
       have h1_x := RVr.one hR_x
       obtain rfl := hR_x
       have hlt_x : b_x < _ := znf _ _ (hc_x 0 _ rfl)
       have hrf := zdy (vs := vs) (inp := inp) (n := t.n) ⟨by omega, by omega⟩ he_x
       refine Gs 2 O (zli 54 O (fun hi => ?_) (fun hi => ?_))
       ·
        refine Gs 2 O (zlo O tg3 (hB_b.cells 1 _ O) (zlk O O (zk5 tR22 ts89 O O ha_x (by omega)) (Gs 1 O (zlo O tg53 (hc_x 1 _ O) (Gs 5 O (zjm O (fun hk0 => ?_) (fun hk0 => ?_)))))))
        . refine Gs 9 O (zjG tr197 O ⟨_, rfl, by rw [hfe, h24, hrf, hi, znp hk0]; rfl, hE⟩)
        . refine Gs 2 O (zjC (()) (zl4 O) (⟨by rw [h24, hrf, hi, znq hk0]; rfl, rfl⟩))
       . refine Gs 14 O (zjC (()) (zl4 O) (⟨by rw [h24, hrf, hi]; rfl, rfl⟩))
    ·
     have hrf := kJ (vs := vs) (inp := inp) (n := t.n) h24
     refine Gs 3 O (zlo O tg3 (hB_b.cells 1 _ O) (Gs 3 O (zjm O (fun n0 => ?_) (fun n0 => ?_))))
     . refine Gs 9 O (zjG tr197 O ⟨_, rfl, by rw [hfe, hrf, znq (by omega)]; rfl, hE⟩)
     . refine Gs 2 O (zjC (()) (zl4 O) (⟨by rw [hrf, znp (by omega)], rfl⟩))
  rintro u w3 ⟨hrf, hw3⟩
  subst hw3
  rw [hrf, Bool.true_and] at hfe
  refine Gs 5 O (zlo O tg84 (hB_b.cells 2 _ O) (Gs 5 O (G.loop (σ := Nat) (fun i => [(0, .slice av vs.length nv), (2, .bool inp), (65, .slice ao t.kids.length cap), (66, .int .i64 t.kids.length), (67, .int .i64 i)]) (fun i => fun w' => i <= t.kids.length /\ zL vs inp (t.kids.take i) = true /\ Ext w3 w') (fun i => t.kids.length - i) (0) (zl4 O) (⟨zns _, by simp [zL], Keep.refl _ _⟩) ?_)))
  rintro i w4 ⟨hi, hall, hL1⟩
  obtain ⟨hE, hvs, hk, hB_b⟩ := Tr4 hL1 hE hvs hk hB_b
  refine Gs 6 O (zjm O (fun hlt => ?_) (fun hlt => ?_))
  ·
   obtain ⟨k, he_k, hm_k⟩ := gE_ t.kids (i) (by omega)
   obtain ⟨b_k, o_k, c_k, ha_k, _, hc_k, hR_k⟩ := hk.at he_k
   have h1_k := RTm.one hR_k
   obtain ⟨v1_k, rfl, hk_k⟩ := hR_k.get
   obtain ⟨a1_k, n1_k, rfl⟩ := hk_k.form
   have hlt_k : b_k < _ := znf _ _ (hc_k 0 _ rfl)
   refine Gs 6 O (zlk O O (zk5 tR84 ts86 O O ha_k (by omega)) (zlq O tg86 ts86 hc_k O (G.mem O O (M.alloc (cs := _) tz86 O) ?_)))
   rintro _ wa2 ⟨c, rfl, hg_c, hs_c, hB_c, hk_c⟩
   refine zke O (zkf ts86 O O O O h1_k hB_c (by simp)) ?_
   rintro w_c ⟨_, hB_c, hkk_c⟩
   replace hk_c := hk_c.trans hkk_c (fun q hq h => by have h : q = c := h; omega)
   have hn_b_c : b ≠ c := by have := hB_b.lt; omega
   have hge_c : _ <= c := znj hE.size (Nat.le_of_eq hg_c.symm)
   obtain ⟨hE, hvs, hk, hB_b, hL1, hc_k, hk_k⟩ := Tr7 hk_c hE hvs hk hB_b hL1 hc_k hk_k
   refine Gs 5 O (zlq O tg86 ts86 hB_c.cells O (Gs 1 O (G.call O Tryz.call197 (ih k hm_k _ D _ hvs (RTm.put hk_k)) ?_)))
   rintro _ wz3 ⟨rfl, hz3⟩
   obtain ⟨hE, hvs, hk, hB_b, hL1, hc_k, hk_k⟩ := Tr7 hz3 hE hvs hk hB_b hL1 hc_k hk_k
   replace hB_c := Tr1 hz3 hB_c
   refine zlk O O (zkO O (by first | exact zb | rfl)) (Gs 2 O (G.bool O (fun hb => ?_) (fun hb => ?_)))
   ·
    have hb' : zw vs inp k = false := by simpa using hb
    refine Gs 11 O (zjG tr197 O ⟨_, rfl, by rw [hfe, zcq hm_k hb'], hE⟩)
   ·
    have hb' : zw vs inp k = true := by simpa using hb
    refine Ga 7 O (by omega) (zjx (i + 1) (zl4 O) (⟨by omega, by rw [zbG he_k, hall, hb']; rfl, hL1⟩) (by first | omega | (dsimp only; omega)))
  ·
   have : i = t.kids.length := by omega
   subst this
   rw [zni] at hall
   refine Gs 11 O (zjG tr197 O ⟨_, rfl, by rw [hfe, hall], hE⟩)
open Go.GL
abbrev Rg := Int × Int
def okR (r : Rg) : Bool := decide (-1048576 <= r.1 /\ r.2 <= 1048576)
def ym (r : Rg) : Prop := -1048576 <= r.1 /\ r.1 <= r.2 /\ r.2 <= 1048576
def yG (x : Rg) (l : List Rg) : Rg := l.foldl (fun o r => (min o.1 r.1, max o.2 r.2)) x
def xB (a b : Rg) : Rg := yG (a.1 * b.1, a.1 * b.1) [(a.1 * b.2, a.1 * b.2), (a.2 * b.1, a.2 * b.1), (a.2 * b.2, a.2 * b.2)]
theorem zaq {x : Rg} {l : List Rg} {i : Nat} {r : Rg} (h : l[i]? = some r) : yG x (l.take (i + 1)) = (min (yG x (l.take i)).1 r.1, max (yG x (l.take i)).2 r.2) := by
 rw [zh h]; simp [yG]
theorem zei {x y : Int} (hx : -1048576 <= x /\ x <= 1048576) (hy : -1048576 <= y /\ y <= 1048576) : -1099511627776 <= x * y /\ x * y <= 1099511627776 := by
 have h1 := Int.natAbs_mul x y
 have h2 : x.natAbs * y.natAbs <= 1048576 * 1048576 := Nat.mul_le_mul (by omega) (by omega)
 omega
theorem zej (a b : Rg) (w : World) : Calls Tryz.prog 236 #[.agg #[.int .i64 a.1, .int .i64 a.2], .agg #[.int .i64 b.1, .int .i64 b.2]] w (Ret fun r w' => r = .agg #[.int .i64 (min a.1 b.1), .int .i64 (max a.2 b.2)] /\ Ext w w') := by
 have hE := Keep.refl (fun _ => False) w
 refine zlu Tryz.func236 O Tryz.ntmps236 O (Gs 2 O (G.mem O O (M.box O O) ?_))
 rintro _ w_x ⟨x, rfl, hg_x, hs_x, hB_x, hk_x⟩
 have hge_x : _ <= x := znj hE.size (Nat.le_of_eq hg_x.symm)
 replace hE := Tr1 hk_x hE
 refine G.mem O O (M.box O O) ?_
 rintro _ w_y ⟨y, rfl, hg_y, hs_y, hB_y, hk_y⟩
 have hn_x_y : x ≠ y := by have := hB_x.lt; omega
 have hge_y : _ <= y := znj hE.size (Nat.le_of_eq hg_y.symm)
 obtain ⟨hE, hB_x⟩ := Tr2 hk_y hE hB_x
 refine G.mem O O (M.alloc (cs := _) tz226 O) ?_
 rintro _ w_r ⟨r, rfl, hg_r, hs_r, hB_r, hk_r⟩
 have hn_x_r : x ≠ r := by have := hB_x.lt; omega
 have hn_y_r : y ≠ r := by have := hB_y.lt; omega
 have hge_r : _ <= r := znj hE.size (Nat.le_of_eq hg_r.symm)
 obtain ⟨hE, hB_x, hB_y⟩ := Tr3 hk_r hE hB_x hB_y
 refine Gs 5 O (zlo O tg3 (hB_x.cells 0 _ O) (Gs 1 O (zlo O tg3 (hB_y.cells 0 _ O) (Gs 2 O (zlo O tg3 (hB_x.cells 1 _ O) (Gs 1 O (zlo O tg3 (hB_y.cells 1 _ O) (Gs 1 O (zlk O O (R.build (v := .agg #[.int .i64 (min a.1 b.1), .int .i64 (max a.2 b.2)]) [(0, _), (1, _)] O (fun _ => by kernel_rfl)) (zke O (zkf ts226 O O O O (by simp [Value.oneCell']) hB_r (by simp)) ?_))))))))))
 rintro wf ⟨_, hBf, hkf⟩
 refine Gs 3 O (zjO Tryz.results236 O (zj tg226 ts226 O hBf.cells) ?_)
 exact ⟨_, rfl, rfl, hE.trans hkf (fun q hq h => by have h : q = r := h; omega)⟩
theorem zaQ (a b : Int) (w : World) (ha : -1048576 <= a /\ a <= 1048576) (hb : -1048576 <= b /\ b <= 1048576) : Calls Tryz.prog 235 #[.int .i64 a, .int .i64 b] w (Ret fun r w' => r = .int .i64 (a * b) /\ Ext w w') := by
 have := zei ha hb
 refine zlu Tryz.func235 O Tryz.ntmps235 O (Ga 14 O (by omega) (zjG Tryz.results235 O ⟨_, rfl, rfl, Keep.refl _ _⟩))
theorem zdA (a b : Rg) (w : World) (ha : ym a) (hb : ym b) : Calls Tryz.prog 234 #[.agg #[.int .i64 a.1, .int .i64 a.2], .agg #[.int .i64 b.1, .int .i64 b.2], .func (.func 235) #[] #[]] w (Ret fun r w' => r = .agg #[.int .i64 (xB a b).1, .int .i64 (xB a b).2] /\ Ext w w') := by
 unfold ym at ha hb
 have hE := Keep.refl (fun _ => False) w
 refine zlv Tryz.func234 O Tryz.ntmps234 O (Gs 2 O (G.mem O O (M.box O O) ?_))
 rintro _ w_x ⟨x, rfl, hg_x, hs_x, hB_x, hk_x⟩
 have hge_x : _ <= x := znj hE.size (Nat.le_of_eq hg_x.symm)
 replace hE := Tr1 hk_x hE
 refine G.mem O O (M.box O O) ?_
 rintro _ w_y ⟨y, rfl, hg_y, hs_y, hB_y, hk_y⟩
 have hn_x_y : x ≠ y := by have := hB_x.lt; omega
 have hge_y : _ <= y := znj hE.size (Nat.le_of_eq hg_y.symm)
 obtain ⟨hE, hB_x⟩ := Tr2 hk_y hE hB_x
 refine G.mem O O (M.alloc (cs := _) tz226 O) ?_
 rintro _ w_r ⟨r, rfl, hg_r, hs_r, hB_r, hk_r⟩
 have hn_x_r : x ≠ r := by have := hB_x.lt; omega
 have hn_y_r : y ≠ r := by have := hB_y.lt; omega
 have hge_r : _ <= r := znj hE.size (Nat.le_of_eq hg_r.symm)
 obtain ⟨hE, hB_x, hB_y⟩ := Tr3 hk_r hE hB_x hB_y
 refine Gs 6 O (zlo O tg3 (hB_x.cells 0 _ O) (Gs 1 O (zlo O tg3 (hB_y.cells 0 _ O) (zkb O Tryz.call235 (zaQ a.1 b.1 _ (by omega) (by omega)) ?_))))
 rintro _ wz1 ⟨rfl, hz1⟩
 obtain ⟨hE, hB_x, hB_y, hB_r⟩ := Tr4 hz1 hE hB_x hB_y hB_r
 refine Gs 7 O (zlk O O (R.build (v := .agg #[.int .i64 (a.1 * b.1), .int .i64 (a.1 * b.1)]) [(0, _), (1, _)] O (fun _ => by kernel_rfl)) (G.mem O O (M.alloc (cs := _) tz226 O) ?_))
 rintro _ wa2 ⟨o, rfl, hg_o, hs_o, hB_o, hk_o⟩
 refine zke O (zkf ts226 O O O O (by simp [Value.oneCell']) hB_o (by simp)) ?_
 rintro w_o ⟨_, hB_o, hkk_o⟩
 replace hk_o := hk_o.trans hkk_o (fun q hq h => by have h : q = o := h; omega)
 have hn_x_o : x ≠ o := by have := hB_x.lt; omega
 have hn_y_o : y ≠ o := by have := hB_y.lt; omega
 have hn_r_o : r ≠ o := by have := hB_r.lt; omega
 have hge_o : _ <= o := znj hE.size (Nat.le_of_eq hg_o.symm)
 obtain ⟨hE, hB_x, hB_y, hB_r⟩ := Tr4 hk_o hE hB_x hB_y hB_r
 refine Gs 4 O (Dw (fun q => Ext w_o q) [] (fun wd3 hD _ => ?_))
 refine Ds [0, 1] (by kernel_rfl) O (WD.take 2 O (by kernel_rfl) O O O hD (fun w1 hw1 => R.load tg3 O ((hw1.blk hB_x (fun h => h)).cells 0 _ O)) (Ds [3] (by kernel_rfl) O (WD.take 4 O (by kernel_rfl) O O O hD (fun w1 hw1 => R.load tg3 O ((hw1.blk hB_y (fun h => h)).cells 1 _ O)) (Ds [6, 7] (by kernel_rfl) O (WD.take 8 O (by kernel_rfl) O O O hD (fun w1 hw1 => R.load tg3 O ((hw1.blk hB_x (fun h => h)).cells 1 _ O)) (Ds [9] (by kernel_rfl) O (WD.take 10 O (by kernel_rfl) O O O hD (fun w1 hw1 => R.load tg3 O ((hw1.blk hB_y (fun h => h)).cells 0 _ O)) ?_)))))))
 refine Ds [12, 13] (by kernel_rfl) O (WD.take 14 O (by kernel_rfl) O O O hD (fun w1 hw1 => R.load tg3 O ((hw1.blk hB_x (fun h => h)).cells 1 _ O)) (Ds [15] (by kernel_rfl) O (WD.take 16 O (by kernel_rfl) O O O hD (fun w1 hw1 => R.load tg3 O ((hw1.blk hB_y (fun h => h)).cells 1 _ O)) (Ds [20] (by kernel_rfl) O (WD.call 5 O (by kernel_rfl) O O O (zka (vs := [_, _]) Tryz.call235 O O) (zaQ a.1 b.2 _ (by omega) (by omega)) ?_)))))
 rintro _ wz4 ⟨rfl, hz4⟩
 replace hD := hD.ext hz4
 refine ⟨fun _ => hD, ?_⟩
 refine WD.call 11 O (by kernel_rfl) O O O (zka (vs := [_, _]) Tryz.call235 O O) (zaQ a.2 b.1 _ (by omega) (by omega)) ?_
 rintro _ wz5 ⟨rfl, hz5⟩
 replace hD := hD.ext hz5
 refine ⟨fun _ => hD, ?_⟩
 refine WD.call 17 O (by kernel_rfl) O O O (zka (vs := [_, _]) Tryz.call235 O O) (zaQ a.2 b.2 _ (by omega) (by omega)) ?_
 rintro _ wz6 ⟨rfl, hz6⟩
 replace hD := hD.ext hz6
 refine ⟨fun _ => hD, ?_⟩
 refine WD.mem 18 O (by kernel_rfl) O O O (M.buildSlice (cs := [.int .i64 (a.1 * b.2), .int .i64 (a.2 * b.1), .int .i64 (a.2 * b.2)]) [(0, _), (1, _), (2, _)] tR27 ts3 tz3 (by decide) O (by kernel_rfl)) ?_
 rintro _ ws ⟨s, rfl, hg_s, hs_s, hB_s, hk_s⟩
 have hEs := hD.ext hk_s
 have hso : s ≠ o := by have := hB_o.lt; have := hD.size; omega
 refine ⟨fun _ => hEs, ?_⟩
 refine Ds [19] (by kernel_rfl) O (zkq (by kernel_rfl) ?_ _)
 obtain ⟨hE, hB_x, hB_y, hB_r, hB_o⟩ := Tr5 hEs hE hB_x hB_y hB_r hB_o
 obtain ⟨es, hes⟩ : ∃ es : List Int, es = [a.1 * b.2, a.2 * b.1, a.2 * b.2] := ⟨_, rfl⟩
 have hel : es.length = 3 := by rw [hes]; rfl
 have hBs : Blk ws s (es.map (.int .i64)) 3 := by rw [hes]; exact hB_s
 have hp := zei (x := a.1) (y := b.1) (by omega) (by omega)
 refine Gs 2 O (G.loop (σ := Nat) (fun k => [(6, .pointer (some ⟨r, 0, none⟩)), (8, .pointer (some ⟨o, 0, none⟩)), (38, .slice (some ⟨s, 0, none⟩) 3 3), (39, .int .i64 3), (40, .int .i64 k)]) (fun k => fun w' => k <= 3 /\ Blk w' o [.int .i64 (yG (a.1 * b.1, a.1 * b.1) ((es.map (fun x => (x, x))).take k)).1, .int .i64 (yG (a.1 * b.1, a.1 * b.1) ((es.map (fun x => (x, x))).take k)).2] 226 /\ Keep (fun q => q = o) ws w') (fun k => 3 - k) (0) (zl4 O) (⟨zns _, hB_o, Keep.refl _ _⟩) ?_)
 rintro k w1 ⟨hk, hB_o, hk1⟩
 refine Gs 6 O (zjm O (fun hlt => ?_) (fun hlt => ?_))
 ·
  obtain ⟨x, hx⟩ : ∃ x, es[k]? = some x := ⟨_, znd (by omega)⟩
  refine Ga 7 O (by omega) (zlo O tg3 ((hk1.blk hBs hso).cells.el1 k O (by rw [znu, hx]; rfl)) ?_)
  refine Gs 4 O (zlq O tg226 ts226 hB_o.cells O (Gs 2 O (zlk O O (R.build (v := .agg #[.int .i64 x, .int .i64 x]) [(0, _), (1, _)] O (fun _ => by kernel_rfl)) (G.call O Tryz.call236 (zej (yG (a.1 * b.1, a.1 * b.1) ((es.map (fun x => (x, x))).take k)) (x, x) w1) ?_))))
  rintro _ w2 ⟨rfl, hk2⟩
  refine zke O (zkf ts226 O O O O (by simp [Value.oneCell']) (hk2.blk hB_o (fun h => h)) (by simp)) ?_
  rintro w3 ⟨_, hB3, hk3⟩
  refine Ga 7 O (by omega) (zjx (k + 1) (zl4 O) (⟨by omega, ?_, (hk1.ext hk2).trans hk3 (fun _ _ h => h)⟩) (by first | omega | (dsimp only; omega)))
  rw [zaq (show (es.map (fun x => (x, x)))[k]? = some (x, x) by rw [znu, hx]; rfl)]
  exact hB3
 ·
  have hk3 : k = 3 := by omega
  subst hk3
  have hr1 := hk1.blk hB_r hn_r_o
  have e : yG (a.1 * b.1, a.1 * b.1) ((es.map (fun x => (x, x))).take 3) = xB a b := by rw [hes]; rfl
  rw [e] at hB_o
  refine Gs 7 O (zlq O tg226 ts226 hB_o.cells O (zke O (zkf ts226 O O O O (by simp [Value.oneCell']) hr1 (by simp)) ?_))
  rintro wf ⟨_, hBf, hkf⟩
  refine Gs 3 O (zjO Tryz.results234 O (zj tg226 ts226 O hBf.cells) ?_)
  exact ⟨_, rfl, rfl, (hE.trans hk1 (fun q hq h => by have h : q = o := h; omega)).trans hkf (fun q hq h => by have h : q = r := h; omega)⟩
def at2 (l : List Rg) (i : Nat) : Rg := l[i]?.getD (0, 0)
theorem xb {l : List Rg} {i : Nat} {x : Rg} (h : l[i]? = some x) : at2 l i = x := by simp [at2, h]
def vat (vs : List Vr) (n : Int) : Rg := match vs[n.toNat]? with
 | some v => (v.low, v.high)
 | none => (0, 0)
theorem zgS {vs : List Vr} {n : Int} {v : Vr} (h : vs[n.toNat]? = some v) : vat vs n = (v.low, v.high) := by simp [vat, h]
def zp (vs : List Vr) (op n : Int) (l : List Rg) : Rg :=
 if op = 0 then (n, n)
 else if op = 24 then vat vs n
 else if op = 6 then (-(at2 l 0).2, -(at2 l 0).1)
 else if op = 8 then ((at2 l 0).1 + (at2 l 1).1, (at2 l 0).2 + (at2 l 1).2)
 else if op = 9 then ((at2 l 0).1 - (at2 l 1).2, (at2 l 0).2 - (at2 l 1).1)
 else if op = 10 then xB (at2 l 0) (at2 l 1)
 else if op = 11 then (if 0 <= (at2 l 0).1 /\ 0 <= (at2 l 1).1 then 0 else -(max (at2 l 0).2 (-(at2 l 0).1)), max (at2 l 0).2 (-(at2 l 0).1))
 else if op = 12 then (if (at2 l 1).1 < 0 then min ((at2 l 1).1 + 1) 0 else 0, if 0 < (at2 l 1).2 then max ((at2 l 1).2 - 1) 0 else 0)
 else if op = 21 then (min (at2 l 0).1 (at2 l 1).1, min (at2 l 0).2 (at2 l 1).2)
 else if op = 22 then (max (at2 l 0).1 (at2 l 1).1, max (at2 l 0).2 (at2 l 1).2)
 else if op = 23 \/ op = 25 then yG (at2 l 1) (l.drop 2)
 else (0, 1)
structure NodeOk (vs : List Vr) (op n : Int) (l : List Rg) : Prop where
 k0 : op = 0 \/ op = 24 -> l.length = 0
 k1 : op = 6 \/ op = 7 -> l.length = 1
 k2 : 8 <= op /\ op <= 22 -> l.length = 2
 k3 : op = 23 \/ op = 25 -> 2 <= l.length /\ l.length <= 33
 good : ∀ r ∈ l, ym r
 var : op = 24 -> 0 <= n /\ n < vs.length
 vars : ∀ v ∈ vs, ym (v.low, v.high)
theorem qY {vs : List Vr} {inp : Bool} {op n : Int} {l : List Rg} {k : Nat} (hl : l.length = k) (h1 : yu op k = true) (h2 : xR vs inp op n = true) (hg : ∀ r ∈ l, ym r) (hv : ∀ v ∈ vs, ym (v.low, v.high)) : NodeOk vs op n l := by
 have h3 : (0 <= zr op -> (l.length : Int) = zr op) /\ (¬ 0 <= zr op -> 2 <= l.length /\ l.length <= 33) := by
  unfold yu at h1
  rw [hl]
  constructor
  . intro h; rw [zno h] at h1; exact of_decide_eq_true h1
  . intro h; rw [znn h] at h1; exact (of_decide_eq_true h1).2
 unfold zr at h3
 refine ⟨fun h => ?_, fun h => ?_, fun h => ?_, fun h => ?_, hg, fun h => ?_, hv⟩
 . rw [zno h] at h3; have := h3.1 (by omega); omega
 . rw [znn (by omega), zno h] at h3; have := h3.1 (by omega); omega
 . rw [znn (by omega), znn (by omega), zno h] at h3; have := h3.1 (by omega); omega
 ·
  rcases h with h | h
  . rw [znn (by omega), znn (by omega), znn (by omega), zno h] at h3; have := h3.1 (by omega); omega
  . rw [znn (by omega), znn (by omega), znn (by omega), znn (by omega), zno h] at h3; exact h3.2 (by omega)
 ·
  unfold xR at h2
  rw [zno h, Bool.and_eq_true] at h2
  exact of_decide_eq_true h2.1
theorem zhn (vs : List Vr) (t : Tm) (ks : List Rg) (vv kv : Value) (cs : List Value) (Dv D Dk : Nat -> Prop) (w : World) (hvs : SlR 5 RVr Dv w vv vs) (ht : RTm D w t cs) (hks : SlR 2 ze4 Dk w kv ks) (hn : NodeOk vs t.op t.n ks) : Calls Tryz.prog 222 #[vv, .agg cs.toArray, kv] w (Ret fun r w' => r = .agg #[.int .i64 (zp vs t.op t.n ks).1, .int .i64 (zp vs t.op t.n ks).2] /\ Ext w w') := by
 obtain ⟨v, rfl, hk⟩ := ht.get
 obtain ⟨av, nv, rfl⟩ := hvs.form
 obtain ⟨ak, nk, rfl⟩ := hks.form
 have hmx := hks.max
 have hE := Keep.refl (fun _ => False) w
 refine zlv Tryz.func222 O Tryz.ntmps222 O (Gs 2 O (G.mem O O (M.box O O) ?_))
 rintro _ w_b ⟨b, rfl, hg_b, hs_b, hB_b, hk_b⟩
 have hge_b : _ <= b := znj hE.size (Nat.le_of_eq hg_b.symm)
 obtain ⟨hE, hvs, hks⟩ := Tr3 hk_b hE hvs hks
 refine G.mem O O (M.alloc (cs := _) tz226 O) ?_
 rintro _ w_r ⟨r, rfl, hg_r, hs_r, hB_r, hk_r⟩
 have hn_b_r : b ≠ r := by have := hB_b.lt; omega
 have hge_r : _ <= r := znj hE.size (Nat.le_of_eq hg_r.symm)
 obtain ⟨hE, hvs, hks, hB_b⟩ := Tr4 hk_r hE hvs hks hB_b
 refine Gs 6 O (zlo O tg83 (hB_b.cells 0 _ O) (Gs 9 O (zjm O (fun h0 => ?_) (fun h0 => ?_))))
 ·
  have e : zp vs t.op t.n ks = (t.n, t.n) := by rw [zp, zno h0]
  refine Gs 3 O (zlo O tg3 (hB_b.cells 1 _ O) (Gs 1 O (zlo O tg3 (hB_b.cells 1 _ O) (zlk O O (R.build (v := .agg #[.int .i64 t.n, .int .i64 t.n]) [(0, _), (1, _)] O (fun _ => by kernel_rfl)) (zke O (zkf ts226 O O O O (by simp [Value.oneCell']) hB_r (by simp)) ?_)))))
  rintro wf ⟨_, hBf, hkf⟩
  refine Gs 5 O (zjO tr222 O (zj tg226 ts226 O hBf.cells) ?_)
  exact ⟨_, rfl, by rw [e] <;> rfl, hE.trans hkf (fun q hq h => by have h : q = r := h; omega)⟩
 ·
  refine Gs 6 O (zjm O (fun h24 => ?_) (fun h24 => ?_))
  ·
   have hv := hn.var h24
   obtain ⟨x, he_x, hm_x⟩ := gE_ vs (t.n.toNat) (by omega)
   obtain ⟨b_x, o_x, c_x, ha_x, _, hc_x, hR_x⟩ := hvs.at he_x
   have h1_x := RVr.one hR_x
   obtain rfl := hR_x
   have hlt_x : b_x < _ := znf _ _ (hc_x 0 _ rfl)
   have e : zp vs t.op t.n ks = (x.low, x.high) := by rw [zp, znn h0, zno h24, zgS he_x]
   refine Gs 1 O (Dw (fun q => Ext w_r q) [13] (fun wd1 hD _ => ?_))
   refine Ds [0, 1] (by kernel_rfl) O (WD.take 2 O (by kernel_rfl) O O O hD (fun w1 hw1 => R.load tg3 O ((hw1.blk hB_b (fun h => h)).cells 1 _ O)) (zkt 3 O (by kernel_rfl) O O O (fun w1 => zk5 tR22 ts89 O O ha_x (by omega)) (Ds [4] (by kernel_rfl) O (WD.take 5 O (by kernel_rfl) O O O hD (fun w1 hw1 => R.load tg3 O ((hw1.cells hc_x (fun h => h)) 2 _ O)) (Ds [6, 7] (by kernel_rfl) O (WD.take 8 O (by kernel_rfl) O O O hD (fun w1 hw1 => R.load tg3 O ((hw1.blk hB_b (fun h => h)).cells 1 _ O)) ?_))))))
   refine zkt 9 O (by kernel_rfl) O O O (fun w1 => zk5 tR22 ts89 O O ha_x (by omega)) (Ds [10] (by kernel_rfl) O (WD.take 11 O (by kernel_rfl) O O O hD (fun w1 hw1 => R.load tg3 O ((hw1.cells hc_x (fun h => h)) 3 _ O)) (zkt 12 O (by kernel_rfl) O O O (fun w1 => R.build (v := .agg #[.int .i64 x.low, .int .i64 x.high]) [(0, _), (1, _)] O (fun _ => by kernel_rfl)) (zkd 13 O (by kernel_rfl) O O (zkf ts226 O O O O (by simp [Value.oneCell']) (hD.blk hB_r (fun h => h)) (by simp)) ?_))))
   rintro wf ⟨_, hBf, hkf⟩
   refine ⟨fun h => absurd (by simp) h, ?_⟩
   refine zkq (by kernel_rfl) ?_ _
   refine Gs 4 O (zjO tr222 O (zj tg226 ts226 O hBf.cells) ?_)
   exact ⟨_, rfl, by rw [e] <;> rfl, (hE.ext hD).trans hkf (fun q hq h => by have h : q = r := h; omega)⟩
  ·
   refine Gs 6 O (zjm O (fun h6 => ?_) (fun h6 => ?_))
   ·
    have hl := hn.k1 (.inl h6)
    obtain ⟨x, he_x, hm_x⟩ := gE_ ks (0) (by omega)
    obtain ⟨b_x, o_x, c_x, ha_x, _, hc_x, hR_x⟩ := hks.at he_x
    obtain rfl := hR_x
    have hlt_x : b_x < _ := znf _ _ (hc_x 0 _ rfl)
    have hgx := hn.good x hm_x
    unfold ym at hgx
    have e : zp vs t.op t.n ks = (-x.2, -x.1) := by rw [zp, znn h0, znn h24, zno h6, xb he_x]
    refine Gs 1 O (Dw (fun q => Ext w_r q) [11] (fun wd2 hD _ => ?_))
    refine Ds [0] (by kernel_rfl) O (zkt 1 O (by kernel_rfl) O O O (fun w1 => zk5 tR245 ts226 O O ha_x (by omega)) (Ds [2] (by kernel_rfl) O (WD.take 3 O (by kernel_rfl) O O O hD (fun w1 hw1 => R.load tg3 O ((hw1.cells hc_x (fun h => h)) 1 _ O)) (Da [4, 5] (by kernel_rfl) O (by omega) (zkt 6 O (by kernel_rfl) O O O (fun w1 => zk5 tR245 ts226 O O ha_x (by omega)) (Ds [7] (by kernel_rfl) O (WD.take 8 O (by kernel_rfl) O O O hD (fun w1 hw1 => R.load tg3 O ((hw1.cells hc_x (fun h => h)) 0 _ O)) ?_)))))))
    refine Da [9] (by kernel_rfl) O (by omega) (zkt 10 O (by kernel_rfl) O O O (fun w1 => R.build (v := .agg #[.int .i64 (-x.2), .int .i64 (-x.1)]) [(0, _), (1, _)] O (fun _ => by kernel_rfl)) (zkd 11 O (by kernel_rfl) O O (zkf ts226 O O O O (by simp [Value.oneCell']) (hD.blk hB_r (fun h => h)) (by simp)) ?_))
    rintro wf ⟨_, hBf, hkf⟩
    refine ⟨fun h => absurd (by simp) h, ?_⟩
    refine zkq (by kernel_rfl) ?_ _
    refine Gs 4 O (zjO tr222 O (zj tg226 ts226 O hBf.cells) ?_)
    exact ⟨_, rfl, by rw [e] <;> rfl, (hE.ext hD).trans hkf (fun q hq h => by have h : q = r := h; omega)⟩
   ·
    refine Gs 6 O (zjm O (fun h8 => ?_) (fun h8 => ?_))
    ·
     have hl := hn.k2 (by omega)
     obtain ⟨x, he_x, hm_x⟩ := gE_ ks (0) (by omega)
     obtain ⟨b_x, o_x, c_x, ha_x, _, hc_x, hR_x⟩ := hks.at he_x
     obtain rfl := hR_x
     have hlt_x : b_x < _ := znf _ _ (hc_x 0 _ rfl)
     obtain ⟨y, he_y, hm_y⟩ := gE_ ks (1) (by omega)
     obtain ⟨b_y, o_y, c_y, ha_y, _, hc_y, hR_y⟩ := hks.at he_y
     obtain rfl := hR_y
     have hlt_y : b_y < _ := znf _ _ (hc_y 0 _ rfl)
     have hgx := hn.good x hm_x
     have hgy := hn.good y hm_y
     unfold ym at hgx hgy
     have e : zp vs t.op t.n ks = (x.1 + y.1, x.2 + y.2) := by rw [zp, znn h0, znn h24, znn h6, zno h8, xb he_x, xb he_y]
     refine Gs 1 O (Dw (fun q => Ext w_r q) [19] (fun wd3 hD _ => ?_))
     refine Ds [0] (by kernel_rfl) O (zkt 1 O (by kernel_rfl) O O O (fun w1 => zk5 tR245 ts226 O O ha_x (by omega)) (Ds [2] (by kernel_rfl) O (WD.take 3 O (by kernel_rfl) O O O hD (fun w1 hw1 => R.load tg3 O ((hw1.cells hc_x (fun h => h)) 0 _ O)) (Ds [4] (by kernel_rfl) O (zkt 5 O (by kernel_rfl) O O O (fun w1 => zk5 tR245 ts226 O O ha_y (by omega)) (Ds [6] (by kernel_rfl) O (WD.take 7 O (by kernel_rfl) O O O hD (fun w1 hw1 => R.load tg3 O ((hw1.cells hc_y (fun h => h)) 0 _ O)) ?_)))))))
     refine Da [8, 9] (by kernel_rfl) O (by omega) (zkt 10 O (by kernel_rfl) O O O (fun w1 => zk5 tR245 ts226 O O ha_x (by omega)) (Ds [11] (by kernel_rfl) O (WD.take 12 O (by kernel_rfl) O O O hD (fun w1 hw1 => R.load tg3 O ((hw1.cells hc_x (fun h => h)) 1 _ O)) (Ds [13] (by kernel_rfl) O (zkt 14 O (by kernel_rfl) O O O (fun w1 => zk5 tR245 ts226 O O ha_y (by omega)) (Ds [15] (by kernel_rfl) O (WD.take 16 O (by kernel_rfl) O O O hD (fun w1 hw1 => R.load tg3 O ((hw1.cells hc_y (fun h => h)) 1 _ O)) ?_)))))))
     refine Da [17] (by kernel_rfl) O (by omega) (zkt 18 O (by kernel_rfl) O O O (fun w1 => R.build (v := .agg #[.int .i64 (x.1 + y.1), .int .i64 (x.2 + y.2)]) [(0, _), (1, _)] O (fun _ => by kernel_rfl)) (zkd 19 O (by kernel_rfl) O O (zkf ts226 O O O O (by simp [Value.oneCell']) (hD.blk hB_r (fun h => h)) (by simp)) ?_))
     rintro wf ⟨_, hBf, hkf⟩
     refine ⟨fun h => absurd (by simp) h, ?_⟩
     refine zkq (by kernel_rfl) ?_ _
     refine Gs 4 O (zjO tr222 O (zj tg226 ts226 O hBf.cells) ?_)
     exact ⟨_, rfl, by rw [e] <;> rfl, (hE.ext hD).trans hkf (fun q hq h => by have h : q = r := h; omega)⟩
    ·
     refine Gs 6 O (zjm O (fun h9 => ?_) (fun h9 => ?_))
     ·
      have hl := hn.k2 (by omega)
      obtain ⟨x, he_x, hm_x⟩ := gE_ ks (0) (by omega)
      obtain ⟨b_x, o_x, c_x, ha_x, _, hc_x, hR_x⟩ := hks.at he_x
      obtain rfl := hR_x
      have hlt_x : b_x < _ := znf _ _ (hc_x 0 _ rfl)
      obtain ⟨y, he_y, hm_y⟩ := gE_ ks (1) (by omega)
      obtain ⟨b_y, o_y, c_y, ha_y, _, hc_y, hR_y⟩ := hks.at he_y
      obtain rfl := hR_y
      have hlt_y : b_y < _ := znf _ _ (hc_y 0 _ rfl)
      have hgx := hn.good x hm_x
      have hgy := hn.good y hm_y
      unfold ym at hgx hgy
      have e : zp vs t.op t.n ks = (x.1 - y.2, x.2 - y.1) := by rw [zp, znn h0, znn h24, znn h6, znn h8, zno h9, xb he_x, xb he_y]
      refine Gs 1 O (Dw (fun q => Ext w_r q) [19] (fun wd4 hD _ => ?_))
      refine Ds [0] (by kernel_rfl) O (zkt 1 O (by kernel_rfl) O O O (fun w1 => zk5 tR245 ts226 O O ha_x (by omega)) (Ds [2] (by kernel_rfl) O (WD.take 3 O (by kernel_rfl) O O O hD (fun w1 hw1 => R.load tg3 O ((hw1.cells hc_x (fun h => h)) 0 _ O)) (Ds [4] (by kernel_rfl) O (zkt 5 O (by kernel_rfl) O O O (fun w1 => zk5 tR245 ts226 O O ha_y (by omega)) (Ds [6] (by kernel_rfl) O (WD.take 7 O (by kernel_rfl) O O O hD (fun w1 hw1 => R.load tg3 O ((hw1.cells hc_y (fun h => h)) 1 _ O)) ?_)))))))
      refine Da [8, 9] (by kernel_rfl) O (by omega) (zkt 10 O (by kernel_rfl) O O O (fun w1 => zk5 tR245 ts226 O O ha_x (by omega)) (Ds [11] (by kernel_rfl) O (WD.take 12 O (by kernel_rfl) O O O hD (fun w1 hw1 => R.load tg3 O ((hw1.cells hc_x (fun h => h)) 1 _ O)) (Ds [13] (by kernel_rfl) O (zkt 14 O (by kernel_rfl) O O O (fun w1 => zk5 tR245 ts226 O O ha_y (by omega)) (Ds [15] (by kernel_rfl) O (WD.take 16 O (by kernel_rfl) O O O hD (fun w1 hw1 => R.load tg3 O ((hw1.cells hc_y (fun h => h)) 0 _ O)) ?_)))))))
      refine Da [17] (by kernel_rfl) O (by omega) (zkt 18 O (by kernel_rfl) O O O (fun w1 => R.build (v := .agg #[.int .i64 (x.1 - y.2), .int .i64 (x.2 - y.1)]) [(0, _), (1, _)] O (fun _ => by kernel_rfl)) (zkd 19 O (by kernel_rfl) O O (zkf ts226 O O O O (by simp [Value.oneCell']) (hD.blk hB_r (fun h => h)) (by simp)) ?_))
      rintro wf ⟨_, hBf, hkf⟩
      refine ⟨fun h => absurd (by simp) h, ?_⟩
      refine zkq (by kernel_rfl) ?_ _
      refine Gs 4 O (zjO tr222 O (zj tg226 ts226 O hBf.cells) ?_)
      exact ⟨_, rfl, by rw [e] <;> rfl, (hE.ext hD).trans hkf (fun q hq h => by have h : q = r := h; omega)⟩
     ·
      refine Gs 6 O (zjm O (fun h10 => ?_) (fun h10 => ?_))
      ·
       have hl := hn.k2 (by omega)
       obtain ⟨x, he_x, hm_x⟩ := gE_ ks (0) (by omega)
       obtain ⟨b_x, o_x, c_x, ha_x, _, hc_x, hR_x⟩ := hks.at he_x
       obtain rfl := hR_x
       have hlt_x : b_x < _ := znf _ _ (hc_x 0 _ rfl)
       obtain ⟨y, he_y, hm_y⟩ := gE_ ks (1) (by omega)
       obtain ⟨b_y, o_y, c_y, ha_y, _, hc_y, hR_y⟩ := hks.at he_y
       obtain rfl := hR_y
       have hlt_y : b_y < _ := znf _ _ (hc_y 0 _ rfl)
       have e : zp vs t.op t.n ks = xB x y := by rw [zp, znn h0, znn h24, znn h6, znn h8, znn h9, zno h10, xb he_x, xb he_y]
       refine Gs 1 O (Dw (fun q => Ext w_r q) [7] (fun wd5 hD _ => ?_))
       refine Ds [0] (by kernel_rfl) O (zkt 1 O (by kernel_rfl) O O O (fun w1 => zk5 tR245 ts226 O O ha_x (by omega)) (WD.take 2 O (by kernel_rfl) O O O hD (fun w1 hw1 => zk7 tg226 ts226 O (by rfl) (hw1.cells hc_x (fun h => h))) (Ds [3] (by kernel_rfl) O (zkt 4 O (by kernel_rfl) O O O (fun w1 => zk5 tR245 ts226 O O ha_y (by omega)) (WD.take 5 O (by kernel_rfl) O O O hD (fun w1 hw1 => zk7 tg226 ts226 O (by rfl) (hw1.cells hc_y (fun h => h))) ?_)))))
       refine WD.call 6 O (by kernel_rfl) O O O (F.call (vs := [_, _, _]) Tryz.call234 O) (zdA x y _ (hn.good x hm_x) (hn.good y hm_y)) ?_
       rintro _ wz6 ⟨rfl, hz6⟩
       replace hD := hD.ext hz6
       refine ⟨fun _ => hD, ?_⟩
       refine zkd 7 O (by kernel_rfl) O O (zkf ts226 O O O O (by simp [Value.oneCell']) (hD.blk hB_r (fun h => h)) (by simp)) ?_
       rintro wf ⟨_, hBf, hkf⟩
       refine ⟨fun h => absurd (by simp) h, ?_⟩
       refine zkq (by kernel_rfl) ?_ _
       refine Gs 4 O (zjO tr222 O (zj tg226 ts226 O hBf.cells) ?_)
       exact ⟨_, rfl, by rw [e] <;> rfl, (hE.ext hD).trans hkf (fun q hq h => by have h : q = r := h; omega)⟩
      ·
       refine Gs 6 O (zjm O (fun h11 => ?_) (fun h11 => ?_))
       ·
        have hl := hn.k2 (by omega)
        obtain ⟨x, he_x, hm_x⟩ := gE_ ks (0) (by omega)
        obtain ⟨b_x, o_x, c_x, ha_x, _, hc_x, hR_x⟩ := hks.at he_x
        obtain rfl := hR_x
        have hlt_x : b_x < _ := znf _ _ (hc_x 0 _ rfl)
        obtain ⟨y, he_y, hm_y⟩ := gE_ ks (1) (by omega)
        obtain ⟨b_y, o_y, c_y, ha_y, _, hc_y, hR_y⟩ := hks.at he_y
        obtain rfl := hR_y
        have hlt_y : b_y < _ := znf _ _ (hc_y 0 _ rfl)
        have hgx := hn.good x hm_x
        have hgy := hn.good y hm_y
        unfold ym at hgx hgy
        have e : zp vs t.op t.n ks = (if 0 <= x.1 /\ 0 <= y.1 then 0 else -(max x.2 (-x.1)), max x.2 (-x.1)) := by rw [zp, znn h0, znn h24, znn h6, znn h8, znn h9, znn h10, zno h11, xb he_x, xb he_y]
        have hmx2 : 0 <= max x.2 (-x.1) /\ max x.2 (-x.1) <= 1048576 := by omega
        refine Gs 1 O (Dw (fun q => Ext w_r q) [] (fun wd7 hD _ => ?_))
        refine Ds [0] (by kernel_rfl) O (zkt 1 O (by kernel_rfl) O O O (fun w1 => zk5 tR245 ts226 O O ha_x (by omega)) (Ds [2] (by kernel_rfl) O (WD.take 3 O (by kernel_rfl) O O O hD (fun w1 hw1 => R.load tg3 O ((hw1.cells hc_x (fun h => h)) 1 _ O)) (Ds [4] (by kernel_rfl) O (zkt 5 O (by kernel_rfl) O O O (fun w1 => zk5 tR245 ts226 O O ha_x (by omega)) (Ds [6] (by kernel_rfl) O (WD.take 7 O (by kernel_rfl) O O O hD (fun w1 hw1 => R.load tg3 O ((hw1.cells hc_x (fun h => h)) 0 _ O)) ?_)))))))
        refine Da [8, 9, 10] (by kernel_rfl) O (by omega) (zkq (by kernel_rfl) ?_ _)
        obtain ⟨hE, hvs, hks, hB_b, hB_r, hc_x, hc_y⟩ := Tr7 hD hE hvs hks hB_b hB_r hc_x hc_y
        refine Gs 5 O (zlk O O (zk5 tR245 ts226 O O ha_x (by omega)) (Gs 1 O (zlo O tg3 (hc_x 0 _ O) (Gs 2 O (zlf 117 O (fun p0 => ?_) (fun p0 => ?_))))))
        ·
         refine Gs 1 O (zlk O O (zk5 tR245 ts226 O O ha_y (by omega)) (Gs 1 O (zlo O tg3 (hc_y 0 _ O) (Gs 4 O (zjm O (fun p1 => ?_) (fun p1 => ?_))))))
         ·
          refine Gs 3 O (zlk O O (R.build (v := .agg #[.int .i64 0, .int .i64 (max x.2 (-x.1))]) [(0, _), (1, _)] O (fun _ => by kernel_rfl)) (zke O (zkf ts226 O O O O (by simp [Value.oneCell']) hB_r (by simp)) ?_))
          rintro wf ⟨_, hBf, hkf⟩
          refine Gs 6 O (zjO tr222 O (zj tg226 ts226 O hBf.cells) ?_)
          exact ⟨_, rfl, by rw [e, zno ⟨p0, p1⟩] <;> rfl, hE.trans hkf (fun q hq h => by have h : q = r := h; omega)⟩
         ·
          refine Ga 7 O (by omega) (zlk O O (R.build (v := .agg #[.int .i64 (-(max x.2 (-x.1))), .int .i64 (max x.2 (-x.1))]) [(0, _), (1, _)] O (fun _ => by kernel_rfl)) (zke O (zkf ts226 O O O O (by simp [Value.oneCell']) hB_r (by simp)) ?_))
          rintro wf ⟨_, hBf, hkf⟩
          refine Gs 5 O (zjO tr222 O (zj tg226 ts226 O hBf.cells) ?_)
          exact ⟨_, rfl, by rw [e, znn (fun h => p1 h.2)] <;> rfl, hE.trans hkf (fun q hq h => by have h : q = r := h; omega)⟩
        ·
         refine Ga 16 O (by omega) (zlk O O (R.build (v := .agg #[.int .i64 (-(max x.2 (-x.1))), .int .i64 (max x.2 (-x.1))]) [(0, _), (1, _)] O (fun _ => by kernel_rfl)) (zke O (zkf ts226 O O O O (by simp [Value.oneCell']) hB_r (by simp)) ?_))
         rintro wf ⟨_, hBf, hkf⟩
         refine Gs 5 O (zjO tr222 O (zj tg226 ts226 O hBf.cells) ?_)
         exact ⟨_, rfl, by rw [e, znn (fun h => p0 h.1)] <;> rfl, hE.trans hkf (fun q hq h => by have h : q = r := h; omega)⟩
       ·
        refine Gs 6 O (zjm O (fun h12 => ?_) (fun h12 => ?_))
        ·
         have hl := hn.k2 (by omega)
         obtain ⟨y, he_y, hm_y⟩ := gE_ ks (1) (by omega)
         obtain ⟨b_y, o_y, c_y, ha_y, _, hc_y, hR_y⟩ := hks.at he_y
         obtain rfl := hR_y
         have hlt_y : b_y < _ := znf _ _ (hc_y 0 _ rfl)
         have hgy := hn.good y hm_y
         unfold ym at hgy
         have e : zp vs t.op t.n ks = (if y.1 < 0 then min (y.1 + 1) 0 else 0, if 0 < y.2 then max (y.2 - 1) 0 else 0) := by rw [zp, znn h0, znn h24, znn h6, znn h8, znn h9, znn h10, znn h11, zno h12, xb he_y]
         refine Gs 2 O (zlk O O (R.build (v := .agg #[.int .i64 0, .int .i64 0]) [] O (fun _ => by kernel_rfl)) (G.mem O O (M.alloc (cs := _) tz226 O) ?_))
         rintro _ wa8 ⟨o, rfl, hg_o, hs_o, hB_o, hk_o⟩
         refine zke O (zkf ts226 O O O O (by simp [Value.oneCell']) hB_o (by simp)) ?_
         rintro w_o ⟨_, hB_o, hkk_o⟩
         replace hk_o := hk_o.trans hkk_o (fun q hq h => by have h : q = o := h; omega)
         have hn_b_o : b ≠ o := by have := hB_b.lt; omega
         have hn_r_o : r ≠ o := by have := hB_r.lt; omega
         have hge_o : _ <= o := znj hE.size (Nat.le_of_eq hg_o.symm)
         obtain ⟨hE, hvs, hks, hB_b, hB_r, hc_y⟩ := Tr6 hk_o hE hvs hks hB_b hB_r hc_y
         refine Gs 6 O (zlk O O (zk5 tR245 ts226 O O ha_y (by omega)) (Gs 1 O (zlo O tg3 (hc_y 0 _ O) (Gs 3 O (zjm O (fun p0 => ?_) (fun p0 => ?_))))))
         ·
          refine Gs 2 O (zlk O O (zk5 tR245 ts226 O O ha_y (by omega)) (Gs 1 O (zlo O tg3 (hc_y 0 _ O) (Ga 3 O (by omega) (zke O (M.store ts3 O O O O hB_o (by simp)) ?_)))))
          rintro ws9 ⟨_, hB_o, hs9⟩
          replace hE := hE.trans hs9 (fun q hq h => by have h : q = o := h; omega)
          replace hB_b := hs9.blk hB_b hn_b_o
          replace hB_r := hs9.blk hB_r hn_r_o
          replace hc_y := hs9.cells hc_y (show b_y ≠ o by omega)
          refine Gs 6 O (zlk O O (zk5 tR245 ts226 O O ha_y (by omega)) (Gs 1 O (zlo O tg3 (hc_y 1 _ O) (Gs 3 O (zjm O (fun p1 => ?_) (fun p1 => ?_))))))
          ·
           refine Gs 2 O (zlk O O (zk5 tR245 ts226 O O ha_y (by omega)) (Gs 1 O (zlo O tg3 (hc_y 1 _ O) (Ga 3 O (by omega) (zke O (M.store ts3 O O O O hB_o (by simp)) ?_)))))
           rintro ws10 ⟨_, hB_o, hs10⟩
           replace hE := hE.trans hs10 (fun q hq h => by have h : q = o := h; omega)
           replace hB_b := hs10.blk hB_b hn_b_o
           replace hB_r := hs10.blk hB_r hn_r_o
           replace hc_y := hs10.cells hc_y (show b_y ≠ o by omega)
           refine Gs 4 O (zlq O tg226 ts226 hB_o.cells O (zke O (zkf ts226 O O O O (by simp [Value.oneCell']) hB_r (by simp)) ?_))
           rintro wf ⟨_, hBf, hkf⟩
           refine Gs 5 O (zjO tr222 O (zj tg226 ts226 O hBf.cells) ?_)
           exact ⟨_, rfl, by rw [e, zno p0, zno p1] <;> rfl, hE.trans hkf (fun q hq h => by have h : q = r := h; omega)⟩
          ·
           refine Gs 4 O (zlq O tg226 ts226 hB_o.cells O (zke O (zkf ts226 O O O O (by simp [Value.oneCell']) hB_r (by simp)) ?_))
           rintro wf ⟨_, hBf, hkf⟩
           refine Gs 5 O (zjO tr222 O (zj tg226 ts226 O hBf.cells) ?_)
           exact ⟨_, rfl, by rw [e, zno p0, znn p1] <;> rfl, hE.trans hkf (fun q hq h => by have h : q = r := h; omega)⟩
         ·
          refine Gs 6 O (zlk O O (zk5 tR245 ts226 O O ha_y (by omega)) (Gs 1 O (zlo O tg3 (hc_y 1 _ O) (Gs 3 O (zjm O (fun p1 => ?_) (fun p1 => ?_))))))
          ·
           refine Gs 2 O (zlk O O (zk5 tR245 ts226 O O ha_y (by omega)) (Gs 1 O (zlo O tg3 (hc_y 1 _ O) (Ga 3 O (by omega) (zke O (M.store ts3 O O O O hB_o (by simp)) ?_)))))
           rintro ws11 ⟨_, hB_o, hs11⟩
           replace hE := hE.trans hs11 (fun q hq h => by have h : q = o := h; omega)
           replace hB_b := hs11.blk hB_b hn_b_o
           replace hB_r := hs11.blk hB_r hn_r_o
           replace hc_y := hs11.cells hc_y (show b_y ≠ o by omega)
           refine Gs 4 O (zlq O tg226 ts226 hB_o.cells O (zke O (zkf ts226 O O O O (by simp [Value.oneCell']) hB_r (by simp)) ?_))
           rintro wf ⟨_, hBf, hkf⟩
           refine Gs 5 O (zjO tr222 O (zj tg226 ts226 O hBf.cells) ?_)
           exact ⟨_, rfl, by rw [e, znn p0, zno p1] <;> rfl, hE.trans hkf (fun q hq h => by have h : q = r := h; omega)⟩
          ·
           refine Gs 4 O (zlq O tg226 ts226 hB_o.cells O (zke O (zkf ts226 O O O O (by simp [Value.oneCell']) hB_r (by simp)) ?_))
           rintro wf ⟨_, hBf, hkf⟩
           refine Gs 5 O (zjO tr222 O (zj tg226 ts226 O hBf.cells) ?_)
           exact ⟨_, rfl, by rw [e, znn p0, znn p1] <;> rfl, hE.trans hkf (fun q hq h => by have h : q = r := h; omega)⟩
        ·
         refine Gs 6 O (zjm O (fun h21 => ?_) (fun h21 => ?_))
         ·
          have hl := hn.k2 (by omega)
          obtain ⟨x, he_x, hm_x⟩ := gE_ ks (0) (by omega)
          obtain ⟨b_x, o_x, c_x, ha_x, _, hc_x, hR_x⟩ := hks.at he_x
          obtain rfl := hR_x
          have hlt_x : b_x < _ := znf _ _ (hc_x 0 _ rfl)
          obtain ⟨y, he_y, hm_y⟩ := gE_ ks (1) (by omega)
          obtain ⟨b_y, o_y, c_y, ha_y, _, hc_y, hR_y⟩ := hks.at he_y
          obtain rfl := hR_y
          have hlt_y : b_y < _ := znf _ _ (hc_y 0 _ rfl)
          have e : zp vs t.op t.n ks = (min x.1 y.1, min x.2 y.2) := by rw [zp, znn h0, znn h24, znn h6, znn h8, znn h9, znn h10, znn h11, znn h12, zno h21, xb he_x, xb he_y]
          refine Gs 1 O (Dw (fun q => Ext w_r q) [19] (fun wd12 hD _ => ?_))
          refine Ds [0] (by kernel_rfl) O (zkt 1 O (by kernel_rfl) O O O (fun w1 => zk5 tR245 ts226 O O ha_x (by omega)) (Ds [2] (by kernel_rfl) O (WD.take 3 O (by kernel_rfl) O O O hD (fun w1 hw1 => R.load tg3 O ((hw1.cells hc_x (fun h => h)) 0 _ O)) (Ds [4] (by kernel_rfl) O (zkt 5 O (by kernel_rfl) O O O (fun w1 => zk5 tR245 ts226 O O ha_y (by omega)) (Ds [6] (by kernel_rfl) O (WD.take 7 O (by kernel_rfl) O O O hD (fun w1 hw1 => R.load tg3 O ((hw1.cells hc_y (fun h => h)) 0 _ O)) ?_)))))))
          refine Ds [8, 9] (by kernel_rfl) O (zkt 10 O (by kernel_rfl) O O O (fun w1 => zk5 tR245 ts226 O O ha_x (by omega)) (Ds [11] (by kernel_rfl) O (WD.take 12 O (by kernel_rfl) O O O hD (fun w1 hw1 => R.load tg3 O ((hw1.cells hc_x (fun h => h)) 1 _ O)) (Ds [13] (by kernel_rfl) O (zkt 14 O (by kernel_rfl) O O O (fun w1 => zk5 tR245 ts226 O O ha_y (by omega)) (Ds [15] (by kernel_rfl) O (WD.take 16 O (by kernel_rfl) O O O hD (fun w1 hw1 => R.load tg3 O ((hw1.cells hc_y (fun h => h)) 1 _ O)) ?_)))))))
          refine Ds [17] (by kernel_rfl) O (zkt 18 O (by kernel_rfl) O O O (fun w1 => R.build (v := .agg #[.int .i64 (min x.1 y.1), .int .i64 (min x.2 y.2)]) [(0, _), (1, _)] O (fun _ => by kernel_rfl)) (zkd 19 O (by kernel_rfl) O O (zkf ts226 O O O O (by simp [Value.oneCell']) (hD.blk hB_r (fun h => h)) (by simp)) ?_))
          rintro wf ⟨_, hBf, hkf⟩
          refine ⟨fun h => absurd (by simp) h, ?_⟩
          refine zkq (by kernel_rfl) ?_ _
          refine Gs 4 O (zjO tr222 O (zj tg226 ts226 O hBf.cells) ?_)
          exact ⟨_, rfl, by rw [e] <;> rfl, (hE.ext hD).trans hkf (fun q hq h => by have h : q = r := h; omega)⟩
         ·
          refine Gs 6 O (zjm O (fun h22 => ?_) (fun h22 => ?_))
          ·
           have hl := hn.k2 (by omega)
           obtain ⟨x, he_x, hm_x⟩ := gE_ ks (0) (by omega)
           obtain ⟨b_x, o_x, c_x, ha_x, _, hc_x, hR_x⟩ := hks.at he_x
           obtain rfl := hR_x
           have hlt_x : b_x < _ := znf _ _ (hc_x 0 _ rfl)
           obtain ⟨y, he_y, hm_y⟩ := gE_ ks (1) (by omega)
           obtain ⟨b_y, o_y, c_y, ha_y, _, hc_y, hR_y⟩ := hks.at he_y
           obtain rfl := hR_y
           have hlt_y : b_y < _ := znf _ _ (hc_y 0 _ rfl)
           have e : zp vs t.op t.n ks = (max x.1 y.1, max x.2 y.2) := by rw [zp, znn h0, znn h24, znn h6, znn h8, znn h9, znn h10, znn h11, znn h12, znn h21, zno h22, xb he_x, xb he_y]
           refine Gs 1 O (Dw (fun q => Ext w_r q) [19] (fun wd13 hD _ => ?_))
           refine Ds [0] (by kernel_rfl) O (zkt 1 O (by kernel_rfl) O O O (fun w1 => zk5 tR245 ts226 O O ha_x (by omega)) (Ds [2] (by kernel_rfl) O (WD.take 3 O (by kernel_rfl) O O O hD (fun w1 hw1 => R.load tg3 O ((hw1.cells hc_x (fun h => h)) 0 _ O)) (Ds [4] (by kernel_rfl) O (zkt 5 O (by kernel_rfl) O O O (fun w1 => zk5 tR245 ts226 O O ha_y (by omega)) (Ds [6] (by kernel_rfl) O (WD.take 7 O (by kernel_rfl) O O O hD (fun w1 hw1 => R.load tg3 O ((hw1.cells hc_y (fun h => h)) 0 _ O)) ?_)))))))
           refine Ds [8, 9] (by kernel_rfl) O (zkt 10 O (by kernel_rfl) O O O (fun w1 => zk5 tR245 ts226 O O ha_x (by omega)) (Ds [11] (by kernel_rfl) O (WD.take 12 O (by kernel_rfl) O O O hD (fun w1 hw1 => R.load tg3 O ((hw1.cells hc_x (fun h => h)) 1 _ O)) (Ds [13] (by kernel_rfl) O (zkt 14 O (by kernel_rfl) O O O (fun w1 => zk5 tR245 ts226 O O ha_y (by omega)) (Ds [15] (by kernel_rfl) O (WD.take 16 O (by kernel_rfl) O O O hD (fun w1 hw1 => R.load tg3 O ((hw1.cells hc_y (fun h => h)) 1 _ O)) ?_)))))))
           refine Ds [17] (by kernel_rfl) O (zkt 18 O (by kernel_rfl) O O O (fun w1 => R.build (v := .agg #[.int .i64 (max x.1 y.1), .int .i64 (max x.2 y.2)]) [(0, _), (1, _)] O (fun _ => by kernel_rfl)) (zkd 19 O (by kernel_rfl) O O (zkf ts226 O O O O (by simp [Value.oneCell']) (hD.blk hB_r (fun h => h)) (by simp)) ?_))
           rintro wf ⟨_, hBf, hkf⟩
           refine ⟨fun h => absurd (by simp) h, ?_⟩
           refine zkq (by kernel_rfl) ?_ _
           refine Gs 4 O (zjO tr222 O (zj tg226 ts226 O hBf.cells) ?_)
           exact ⟨_, rfl, by rw [e] <;> rfl, (hE.ext hD).trans hkf (fun q hq h => by have h : q = r := h; omega)⟩
          ·
           have hbase : ¬ (t.op = 23 \/ t.op = 25) -> zp vs t.op t.n ks = (0, 1) := fun h => by rw [zp, znn h0, znn h24, znn h6, znn h8, znn h9, znn h10, znn h11, znn h12, znn h21, znn h22, znn h]
           refine Gs 7 O (zjA (σ := Bool) (fun p => [(2, .slice ak ks.length nk), (6, .pointer (some ⟨r, 0, none⟩)), (200, .bool p)]) (fun p => fun w' => (p = true ↔ t.op = 23 \/ t.op = 25) /\ w' = w_r) ?_ ?_)
           ·
            refine zjm O (fun h23 => ?_) (fun h23 => ?_)
            . refine Gs 1 O (zjC (decide (t.op = 23)) (Sub.cons O (Sub.cons O (Sub.cons (by first | rfl | (show some (Value.bool true) = some (Value.bool _); simp [*])) Sub.nil))) (⟨by simp [h23], rfl⟩))
            . refine Gs 4 O (zjC (decide (t.op = 25)) (zl4 O) (⟨by simp [h23], rfl⟩))
           rintro p w2 ⟨hp, hw2⟩
           subst hw2
           refine Gs 1 O (G.bool O (fun p1 => ?_) (fun p1 => ?_))
           ·
            have hl := hn.k3 (hp.1 p1)
            obtain ⟨y, he_y, hm_y⟩ := gE_ ks (1) (by omega)
            obtain ⟨b_y, o_y, c_y, ha_y, _, hc_y, hR_y⟩ := hks.at he_y
            obtain rfl := hR_y
            have hlt_y : b_y < _ := znf _ _ (hc_y 0 _ rfl)
            have e : zp vs t.op t.n ks = yG y (ks.drop 2) := by rw [zp, znn h0, znn h24, znn h6, znn h8, znn h9, znn h10, znn h11, znn h12, znn h21, znn h22, zno (hp.1 p1), xb he_y]
            have hdr := hks.drop 2 (by omega)
            have hdl : (ks.drop 2).length = ks.length - 2 := List.length_drop
            refine Gs 3 O (zlk O O (zk5 tR245 ts226 O O ha_y (by omega)) (zlq O tg226 ts226 hc_y O (G.mem O O (M.alloc (cs := _) tz226 O) ?_)))
            rintro _ wa14 ⟨o, rfl, hg_o, hs_o, hB_o, hk_o⟩
            refine zke O (zkf ts226 O O O O (by simp [Value.oneCell']) hB_o (by simp)) ?_
            rintro w_o ⟨_, hB_o, hkk_o⟩
            replace hk_o := hk_o.trans hkk_o (fun q hq h => by have h : q = o := h; omega)
            have hn_b_o : b ≠ o := by have := hB_b.lt; omega
            have hn_r_o : r ≠ o := by have := hB_r.lt; omega
            have hge_o : _ <= o := znj hE.size (Nat.le_of_eq hg_o.symm)
            obtain ⟨hE, hvs, hks, hB_b, hB_r, hc_y⟩ := Tr6 hk_o hE hvs hks hB_b hB_r hc_y
            refine Gs 6 O (zlk O O (zk8 tR245 ts226 O O (by omega)) (Gs 5 O (G.loop (σ := Nat) (fun k => [(6, .pointer (some ⟨r, 0, none⟩)), (9, .pointer (some ⟨o, 0, none⟩)), (207, .slice (if nk = 2 then ak else ak.map (·.add (2 * 2))) (ks.length - 2) (nk - 2)), (208, .int .i64 (ks.length - 2 : Nat)), (209, .int .i64 k)]) (fun k => fun w' => k <= ks.length - 2 /\ Blk w' o [.int .i64 (yG y ((ks.drop 2).take k)).1, .int .i64 (yG y ((ks.drop 2).take k)).2] 226 /\ Keep (fun q => q = o) w_o w') (fun k => ks.length - 2 - k) (0) (zl4 O) (⟨zns _, hB_o, Keep.refl _ _⟩) ?_)))
            rintro k w1 ⟨hk, hB_o, hk1⟩
            refine Gs 6 O (zjm O (fun hlt => ?_) (fun hlt => ?_))
            ·
             obtain ⟨z, he_z, hm_z⟩ := gE_ (ks.drop 2) (k) (by omega)
             obtain ⟨b_z, o_z, c_z, ha_z, _, hc_z, hR_z⟩ := hdr.at he_z
             obtain rfl := hR_z
             have hlt_z : b_z < _ := znf _ _ (hc_z 0 _ rfl)
             replace hc_z := hk1.cells (hk_o.cells hc_z (fun h => h)) (show b_z ≠ o by omega)
             refine Gs 6 O (zlk O O (zk5 tR245 ts226 O O ha_z (by omega)) (zlq O tg226 ts226 hc_z O (G.mem O O (M.alloc (cs := _) tz226 O) ?_)))
             rintro _ wa ⟨c, rfl, hg_c, hs_c, hB_c, hk_c⟩
             refine zke O (zkf ts226 O O O O (by simp [Value.oneCell']) hB_c (by simp)) ?_
             rintro w3 ⟨_, hB_c, hk3⟩
             have hk13 : Ext w1 w3 := hk_c.trans hk3 (fun q hq h => by have h : q = c := h; omega)
             replace hB_o := hk13.blk hB_o (fun h => h)
             refine Gs 3 O (zlq O tg226 ts226 hB_o.cells O (zlq O tg226 ts226 hB_c.cells O (G.call O Tryz.call236 (zej (yG y ((ks.drop 2).take k)) z w3) ?_)))
             rintro _ w4 ⟨rfl, hk4⟩
             refine zke O (zkf ts226 O O O O (by simp [Value.oneCell']) (hk4.blk hB_o (fun h => h)) (by simp)) ?_
             rintro w5 ⟨_, hB5, hk5⟩
             refine Ga 7 O (by omega) (zjx (k + 1) (zl4 O) (⟨by omega, ?_, (hk1.ext (hk13.ext hk4)).trans hk5 (fun _ _ h => h)⟩) (by first | omega | (dsimp only; omega)))
             rw [zaq he_z]
             exact hB5
            ·
             have hkk : k = ks.length - 2 := by omega
             have hr1 := hk1.blk hB_r hn_r_o
             rw [hkk, <- hdl, zni, <- e] at hB_o
             refine Gs 7 O (zlq O tg226 ts226 hB_o.cells O (zke O (zkf ts226 O O O O (by simp [Value.oneCell']) hr1 (by simp)) ?_))
             rintro wf ⟨_, hBf, hkf⟩
             refine Gs 5 O (zjO tr222 O (zj tg226 ts226 O hBf.cells) ?_)
             exact ⟨_, rfl, rfl, (hE.trans hk1 (fun q hq h => by have h : q = o := h; omega)).trans hkf (fun q hq h => by have h : q = r := h; omega)⟩
           ·
            have e := hbase (fun h => by rw [hp.2 h] at p1; cases p1)
            refine Gs 5 O (zlk O O (R.build (v := .agg #[.int .i64 0, .int .i64 1]) [(0, _), (1, _)] O (fun _ => by kernel_rfl)) (zke O (zkf ts226 O O O O (by simp [Value.oneCell']) hB_r (by simp)) ?_))
            rintro wf ⟨_, hBf, hkf⟩
            refine Gs 3 O (zjO tr222 O (zj tg226 ts226 O hBf.cells) ?_)
            exact ⟨_, rfl, by rw [e] <;> rfl, hE.trans hkf (fun q hq h => by have h : q = r := h; omega)⟩
end Go.Proofs.YtaenledoagbddaaGreatDoor
namespace Go.GL.Gr
def okE (n : Int) (e : Int × Int) : Bool := decide (0 <= e.1 /\ e.1 < n) && decide (0 <= e.2 /\ e.2 < n)
def check (n : Int) (es : List (Int × Int)) : Int := if n < 0 then 1 else if 4096 < n \/ 1048576 < es.length then 4 else if es.all (okE n) then 0 else 3
end Go.GL.Gr
namespace Go.Proofs.YtaenledoagbddaaGreatDoor
open Go.GL
def zi5 (e : Int × Int) : List Value := [.int .i64 e.1, .int .i64 e.2]
theorem zfR (e : Int × Int) : (zi5 e).length = 2 := rfl
theorem zfS (e : Int × Int) : ∀ u ∈ zi5 e, u.oneCell' = true := by simp [zi5, Value.oneCell']
mutual
/-- The range of a term whose nodes all lie within the limit. -/
def rng (vs : List Vr) : Tm -> Option Rg
 | .mk op n ks => (jr vs ks).bind fun l => if okR (zp vs op n l) then some (zp vs op n l) else none
def jr (vs : List Vr) : List Tm -> Option (List Rg)
 | [] => some []
 | k :: r => (rng vs k).bind fun x => (jr vs r).map fun l => x :: l
end
section
variable {vs : List Vr}
theorem zbH (t : Tm) : rng vs t = (jr vs t.kids).bind fun l => if okR (zp vs t.op t.n l) then some (zp vs t.op t.n l) else none := by cases t; rw [rng]; rfl
theorem kK (a b : List Tm) : jr vs (a ++ b) = (jr vs a).bind fun l => (jr vs b).map fun m => l ++ m := by
 induction a with
 | nil => simp [jr]
 | cons x r ih =>
  simp only [List.cons_append, jr, ih]
  cases rng vs x <;> cases jr vs r <;> cases jr vs b <;> simp
theorem zek {l : List Tm} {i : Nat} {x : Tm} {m : List Rg} {r : Rg} (h : l[i]? = some x) (h1 : jr vs (l.take i) = some m) (h2 : rng vs x = some r) : jr vs (l.take (i + 1)) = some (m ++ [r]) := by
 rw [zh h, kK, h1]; simp [jr, h2]
theorem zel {l : List Tm} {i : Nat} {x : Tm} (h : l[i]? = some x) (h2 : rng vs x = none) : jr vs l = none := by
 rw [xa h, kK]
 cases jr vs (l.take i) <;> simp [jr, h2]
theorem qo : ∀ (l : List Tm) (m : List Rg), jr vs l = some m -> m.length = l.length
 | [], m, h => by simp [jr] at h; subst h; rfl
 | x :: r, m, h => by
  simp only [jr, Option.bind_eq_some_iff, Option.map_eq_some_iff] at h
  obtain ⟨y, _, z, h2, rfl⟩ := h
  simp [qo r z h2]
theorem qZ : ∀ (l : List Tm) (m : List Rg), jr vs l = some m -> ∀ r ∈ m, ∃ t ∈ l, rng vs t = some r
 | [], m, h, r, hr => by simp [jr] at h; subst h; simp at hr
 | x :: l, m, h, r, hr => by
  simp only [jr, Option.bind_eq_some_iff, Option.map_eq_some_iff] at h
  obtain ⟨y, h1, z, h2, rfl⟩ := h
  rcases znt.1 hr with rfl | hr
  . exact ⟨x, znh .., h1⟩
  ·
   obtain ⟨t, h3, h4⟩ := qZ l z h2 r hr
   exact ⟨t, zng _ h3, h4⟩
theorem zd3 (x : Rg) (h : x.1 <= x.2) : ∀ l : List Rg, (yG x l).1 <= x.1 /\ x.2 <= (yG x l).2 := by
 intro l
 induction l generalizing x with
 | nil => simp [yG]
 | cons y r ih =>
  have := ih (min x.1 y.1, max x.2 y.2) (by dsimp only; omega)
  simp only [yG, List.foldl_cons] at this ⊢
  constructor <;> omega
theorem zem {l : List Rg} {i : Nat} (h : i < l.length) : at2 l i ∈ l := by
 unfold at2
 rw [znd h]
 exact List.getElem_mem h
theorem zfT {n : Int} (hv : ∀ v ∈ vs, ym (v.low, v.high)) (hn : 0 <= n /\ n < vs.length) : ym (vat vs n) := by
 unfold vat
 rw [znd (show n.toNat < vs.length by omega)]
 exact hv _ (List.getElem_mem _)
theorem zen {op n : Int} {l : List Rg} (h : NodeOk vs op n l) : (zp vs op n l).1 <= (zp vs op n l).2 := by
 have hg : ∀ i, i < l.length -> ym (at2 l i) := fun i hi => h.good _ (zem hi)
 unfold ym at hg
 unfold zp
 split
 . exact Int.le_refl _
 split
 . rename_i h1 h2; exact (zfT h.vars (h.var h2)).2.1
 split
 . rename_i h1 h2 h3; have := h.k1 (.inl h3); have := hg 0 (by omega); dsimp only; omega
 split
 . have := h.k2 (by omega); have := hg 0 (by omega); have := hg 1 (by omega); dsimp only; omega
 split
 . have := h.k2 (by omega); have := hg 0 (by omega); have := hg 1 (by omega); dsimp only; omega
 split
 ·
  have := zd3 ((at2 l 0).1 * (at2 l 1).1, (at2 l 0).1 * (at2 l 1).1) (Int.le_refl _) [((at2 l 0).1 * (at2 l 1).2, (at2 l 0).1 * (at2 l 1).2), ((at2 l 0).2 * (at2 l 1).1, (at2 l 0).2 * (at2 l 1).1), ((at2 l 0).2 * (at2 l 1).2, (at2 l 0).2 * (at2 l 1).2)]
  unfold xB
  exact Int.le_trans this.1 this.2
 split
 . have := h.k2 (by omega); have := hg 0 (by omega); dsimp only; split <;> omega
 split
 . have := h.k2 (by omega); have := hg 1 (by omega); dsimp only; split <;> split <;> omega
 split
 . have := h.k2 (by omega); have := hg 0 (by omega); have := hg 1 (by omega); dsimp only; omega
 split
 . have := h.k2 (by omega); have := hg 0 (by omega); have := hg 1 (by omega); dsimp only; omega
 split
 ·
  rename_i hk
  have := h.k3 hk; have h2 := hg 1 (by omega)
  have := zd3 (at2 l 1) h2.2.1 (l.drop 2)
  omega
 . decide
theorem ja {inp : Bool} (hv : ∀ v ∈ vs, ym (v.low, v.high)) (t : Tm) : zw vs inp t = true -> ∀ r, rng vs t = some r -> ym r := by
 induction t using zkV with
 | h t ih =>
  intro hf r hr
  rw [yT, Bool.and_eq_true, Bool.and_eq_true] at hf
  rw [zbH, Option.bind_eq_some_iff] at hr
  obtain ⟨l, h1, h2⟩ := hr
  have hn : NodeOk vs t.op t.n l := qY (qo _ _ h1) hf.1.1 hf.1.2 (fun x hx => by
   obtain ⟨k, hk, hkx⟩ := qZ _ _ h1 x hx
   exact ih k hk (zR hf.2 hk) x hkx) hv
  have := zen hn
  split at h2
  ·
   rename_i hok
   cases h2
   have := of_decide_eq_true hok
   exact ⟨this.1, by omega, this.2⟩
  . cases h2
end
theorem zeo (vs : List Vr) (inp : Bool) (vv : Value) (Dv : Nat -> Prop) (hvb : ∀ v ∈ vs, ym (v.low, v.high)) (t : Tm) : ∀ (cs : List Value) (D : Nat -> Prop) (w : World), SlR 5 RVr Dv w vv vs -> RTm D w t cs -> zw vs inp t = true -> t.nodes <= 1000000 ->
  Calls Tryz.prog 198 #[vv, .agg cs.toArray] w (Ret fun r w' => (∃ a b : Int, r = .tuple #[.agg #[.int .i64 a, .int .i64 b], .bool (rng vs t).isSome] /\ ∀ x, rng vs t = some x -> (a, b) = x) /\ Ext w w') := by
 induction t using zkV with
 | h t ih =>
 intro cs D w hvs ht hf hsz
 have hft := hf
 rw [yT, Bool.and_eq_true, Bool.and_eq_true] at hf
 have hlen := zed t.kids
 have hse := t.nodes_eq
 obtain ⟨v, rfl, hk⟩ := ht.get
 obtain ⟨ao, cap, rfl⟩ := hk.form
 obtain ⟨av, nv, rfl⟩ := hvs.form
 have hE := Keep.refl (fun _ => False) w
 refine zlu Tryz.func198 O Tryz.ntmps198 O (Gs 2 O (G.mem O O (M.box O O) ?_))
 rintro _ w_b ⟨b, rfl, hg_b, hs_b, hB_b, hk_b⟩
 have hge_b : _ <= b := znj hE.size (Nat.le_of_eq hg_b.symm)
 obtain ⟨hE, hvs, hk⟩ := Tr3 hk_b hE hvs hk
 refine G.mem O O (M.alloc (cs := _) tz226 O) ?_
 rintro _ w_r ⟨r, rfl, hg_r, hs_r, hB_r, hk_r⟩
 have hn_b_r : b ≠ r := by have := hB_b.lt; omega
 have hge_r : _ <= r := znj hE.size (Nat.le_of_eq hg_r.symm)
 obtain ⟨hE, hvs, hk, hB_b⟩ := Tr4 hk_r hE hvs hk hB_b
 refine Gs 12 O (zlo O tg84 (hB_b.cells 2 _ O) (Gs 5 O (G.loop (σ := Nat × List Rg × Value) (fun ⟨i, l, vk⟩ => [(0, .slice av vs.length nv), (3, .pointer (some ⟨b, 0, none⟩)), (4, .pointer (some ⟨r, 0, none⟩)), (6, vk), (13, .slice ao t.kids.length cap), (14, .int .i64 t.kids.length), (15, .int .i64 i)]) (fun ⟨i, l, vk⟩ => fun w' => i <= t.kids.length /\ jr vs (t.kids.take i) = some l /\ w'.ownsRow 0 226 2 vk l.length (l.flatMap zi5) /\ (∀ q, vk.ownBlock = some q -> w_r.heap.size <= q) /\ Ext w_r w') (fun ⟨i, l, vk⟩ => t.kids.length - i) ((0, [], .slice none 0 0)) (zl4 O) (⟨zns _, rfl, kr _ _ _, fun q hq => by simp [Value.ownBlock] at hq, Keep.refl _ _⟩) ?_)))
 rintro ⟨i, l, vk⟩ w1 ⟨hi, hl, hown, hfr, hL1⟩
 show G _ _ _ _ _ [(0, .slice av vs.length nv), (3, .pointer (some ⟨b, 0, none⟩)), (4, .pointer (some ⟨r, 0, none⟩)), (6, vk), (13, .slice ao t.kids.length cap), (14, .int .i64 t.kids.length), (15, .int .i64 i)] _
 obtain ⟨hE, hvs, hk, hB_b, hB_r⟩ := Tr5 hL1 hE hvs hk hB_b hB_r
 refine Gs 6 O (zjm O (fun hlt => ?_) (fun hlt => ?_))
 ·
  obtain ⟨k, he_k, hm_k⟩ := gE_ t.kids (i) (by omega)
  obtain ⟨b_k, o_k, c_k, ha_k, _, hc_k, hR_k⟩ := hk.at he_k
  have h1_k := RTm.one hR_k
  obtain ⟨v1_k, rfl, hk_k⟩ := hR_k.get
  obtain ⟨a1_k, n1_k, rfl⟩ := hk_k.form
  have hlt_k : b_k < _ := znf _ _ (hc_k 0 _ rfl)
  have hsp := jI he_k
  have hll := qo _ _ hl
  rw [znH] at hll
  refine Gs 6 O (zlk O O (zk5 tR84 ts86 O O ha_k (by omega)) (zlq O tg86 ts86 hc_k O (G.mem O O (M.alloc (cs := _) tz86 O) ?_)))
  rintro _ wa1 ⟨c, rfl, hg_c, hs_c, hB_c, hk_c⟩
  refine zke O (zkf ts86 O O O O h1_k hB_c (by simp)) ?_
  rintro w_c ⟨_, hB_c, hkk_c⟩
  replace hk_c := hk_c.trans hkk_c (fun q hq h => by have h : q = c := h; omega)
  have hn_b_c : b ≠ c := by have := hB_b.lt; omega
  have hn_r_c : r ≠ c := by have := hB_r.lt; omega
  have hge_c : _ <= c := znj hE.size (Nat.le_of_eq hg_c.symm)
  obtain ⟨hE, hvs, hk, hB_b, hB_r, hL1, hown⟩ := Tr7 hk_c hE hvs hk hB_b hB_r hL1 hown
  obtain ⟨hc_k, hk_k⟩ := Tr2 hk_c hc_k hk_k
  refine Gs 5 O (zlq O tg86 ts86 hB_c.cells O (G.call O Tryz.call198 (ih k hm_k _ D _ hvs (RTm.put hk_k) (zR hf.2 hm_k) (by omega)) ?_))
  rintro _ wz2 ⟨⟨ka, kb, rfl, hval⟩, hz2⟩
  obtain ⟨hE, hvs, hk, hB_b, hB_r, hL1, hown⟩ := Tr7 hz2 hE hvs hk hB_b hB_r hL1 hown
  obtain ⟨hc_k, hk_k, hB_c⟩ := Tr3 hz2 hc_k hk_k hB_c
  refine Gs 3 O (G.mem O O (M.alloc (cs := _) tz226 O) ?_)
  rintro _ wa3 ⟨d, rfl, hg_d, hs_d, hB_d, hk_d⟩
  refine zke O (zkf ts226 O O O O (by simp [Value.oneCell']) hB_d (by simp)) ?_
  rintro w_d ⟨_, hB_d, hkk_d⟩
  replace hk_d := hk_d.trans hkk_d (fun q hq h => by have h : q = d := h; omega)
  have hn_b_d : b ≠ d := by have := hB_b.lt; omega
  have hn_r_d : r ≠ d := by have := hB_r.lt; omega
  have hn_c_d : c ≠ d := by have := hB_c.lt; omega
  have hge_d : _ <= d := znj hE.size (Nat.le_of_eq hg_d.symm)
  obtain ⟨hE, hvs, hk, hB_b, hB_r, hL1, hown⟩ := Tr7 hk_d hE hvs hk hB_b hB_r hL1 hown
  obtain ⟨hc_k, hk_k, hB_c⟩ := Tr3 hk_d hc_k hk_k hB_c
  refine Gs 7 O (zlk O O (zkO O (by first | exact zb | rfl)) (Gs 2 O (G.bool O (fun hb => ?_) (fun hb => ?_))))
  ·
   have hb' : rng vs k = none := by cases h : rng vs k <;> simp [h] at hb ⊢
   have hnone : rng vs t = none := by rw [zbH, zel he_k hb']; rfl
   refine Gs 2 O (zlk O O (R.build (v := .agg #[.int .i64 0, .int .i64 0]) [] O (fun _ => by kernel_rfl)) (zke O (zkf ts226 O O O O (by simp [Value.oneCell']) hB_r (by simp)) ?_))
   rintro wf ⟨_, hBf, hkf⟩
   refine Gs 10 O (zjR Tryz.results198 O (zj tg226 ts226 O hBf.cells) O ?_)
   exact ⟨_, rfl, ⟨0, 0, by rw [hnone]; rfl, fun x hx => by rw [hnone] at hx; cases hx⟩, hE.trans hkf (fun q hq h => by have h : q = r := h; omega)⟩
  ·
   obtain ⟨x, hx⟩ : ∃ x, rng vs k = some x := by cases h : rng vs k with
    | none => simp [h] at hb
    | some x => exact ⟨x, rfl⟩
   have hxv := hval x hx
   subst hxv
   refine Gs 4 O (zlq O tg226 ts226 hB_d.cells O (G.mem O O (M.buildSlice (cs := zi5 (ka, kb)) [(0, _)] tR245 ts226 tz226 (by decide) O (by kernel_rfl)) ?_))
   rintro _ w5 ⟨b5, rfl, hg_b5, hs_b5, hB_b5, hk_b5⟩
   obtain ⟨hE, hvs, hk, hB_b, hB_r, hL1, hown⟩ := Tr7 hk_b5 hE hvs hk hB_b hB_r hL1 hown
   obtain ⟨hc_k, hk_k, hB_c, hB_d⟩ := Tr4 hk_b5 hc_k hk_k hB_c hB_d
   refine G.mem O O (M.append Tryz.underlying245 Tryz.el226 O (by decide) O O hown O (Cells.add hB_b5.cells) (zfS _) (by omega) (by omega)) ?_
   rintro vk' w6 ⟨hown6, hfr6, hk6, _⟩
   have hszL := hL1.size
   have hE6 : Ext w_r w6 := hL1.trans hk6 (fun q hq h => by have := hfr q h; omega)
   refine Ga 8 O (by omega) (zjx ((i + 1, l ++ [(ka, kb)], vk')) (zl4 O) (⟨by omega, zek he_k hl hx, ?_, ?_, hE6⟩) (by first | omega | (dsimp only; omega)))
   ·
    rw [znl, List.flatMap_append]
    exact hown6
   ·
    intro q hq
    rcases hfr6 with h | ⟨q', h, h'⟩
    . exact hfr q (by rw [<- h]; exact hq)
    . rw [h] at hq; cases hq; omega
 ·
  have hii : i = t.kids.length := by omega
  subst hii
  rw [zni] at hl
  have hll := qo _ _ hl
  have hsl : SlR 2 ze4 (fun _ => True) w1 vk l := zky (by omega) zi5 zfR (fun x _ => rfl) hown (fun _ _ => trivial)
  have hn : NodeOk vs t.op t.n l := qY hll hf.1.1 hf.1.2 (fun x hx => by
   obtain ⟨k, hk, hkx⟩ := qZ _ _ hl x hx
   exact ja hvb k (zR hf.2 hk) x hkx) hvb
  have hrg : rng vs t = if okR (zp vs t.op t.n l) then some (zp vs t.op t.n l) else none := by rw [zbH, hl]; rfl
  refine Gs 8 O (zlq O tg86 ts86 hB_b.cells O (Gs 1 O (G.call O Tryz.call222 (zhn vs t l _ vk _ Dv D (fun _ => True) _ hvs (RTm.put hk) hsl hn) ?_)))
  rintro _ wz4 ⟨rfl, hz4⟩
  obtain ⟨hE, hvs, hk, hB_b, hB_r, hL1, hown⟩ := Tr7 hz4 hE hvs hk hB_b hB_r hL1 hown
  refine G.mem O O (M.alloc (cs := _) tz226 O) ?_
  rintro _ wa5 ⟨o, rfl, hg_o, hs_o, hB_o, hk_o⟩
  refine zke O (zkf ts226 O O O O (by simp [Value.oneCell']) hB_o (by simp)) ?_
  rintro w_o ⟨_, hB_o, hkk_o⟩
  replace hk_o := hk_o.trans hkk_o (fun q hq h => by have h : q = o := h; omega)
  have hn_b_o : b ≠ o := by have := hB_b.lt; omega
  have hn_r_o : r ≠ o := by have := hB_r.lt; omega
  have hge_o : _ <= o := znj hE.size (Nat.le_of_eq hg_o.symm)
  obtain ⟨hE, hvs, hk, hB_b, hB_r, hL1, hown⟩ := Tr7 hk_o hE hvs hk hB_b hB_r hL1 hown
  obtain ⟨p, hp⟩ : ∃ p, p = zp vs t.op t.n l := ⟨_, rfl⟩
  rw [<- hp] at hrg hB_o ⊢
  have hso : (rng vs t).isSome = okR p := by rw [hrg]; cases okR p <;> rfl
  have hval : ∀ x, rng vs t = some x -> (p.1, p.2) = x := by
   intro x hx
   rw [hrg] at hx
   split at hx
   . exact Option.some.inj hx
   . cases hx
  refine Gs 3 O (Dw (fun q => Keep (fun k => k = r) w_o q) [] (fun wd6 hD0 _ => ?_))
  have hD : Keep (fun k => k = r) _ _ := hD0.mono (fun _ _ h => h.elim)
  refine WD.take 0 O (by kernel_rfl) O O O hD (fun w1 hw1 => zk7 tg226 ts226 O (by rfl) (hw1.blk hB_o (fun h => hn_r_o h.symm)).cells) (Ds [1] (by kernel_rfl) O (WD.take 2 O (by kernel_rfl) O O O hD (fun w1 hw1 => R.load tg3 O ((hw1.blk hB_o (fun h => hn_r_o h.symm)).cells 0 _ O)) (Ds [3, 4] (by kernel_rfl) O (zlg 41 O (fun g1 => ?_) (fun g1 => ?_)))))
  ·
   have ho : okR p = decide (p.2 <= 1048576) := by unfold okR; congr 1; simp; omega
   refine Ds [5] (by kernel_rfl) O (zl7 6 O (by kernel_rfl) O O hD (.inl ⟨fun a ha => zdu ha O O O rfl, fun w1 hw1 => R.load tg3 O ((hw1.blk hB_o (fun h => hn_r_o h.symm)).cells 1 _ O)⟩) (Ds [7, 8] (by kernel_rfl) O (zkd 9 O (by kernel_rfl) O O (zkf ts226 O O O O (by simp [Value.oneCell']) (hD0.blk hB_r (fun h => h)) (by simp)) ?_)))
   rintro wf ⟨_, hBf, hkf⟩
   refine ⟨fun _ => hD.trans hkf (fun _ _ h => h), ?_⟩
   refine Ds [10] (by kernel_rfl) O (zkq (by kernel_rfl) ?_ _)
   refine Gs 2 O (zjR Tryz.results198 O (zj tg226 ts226 O hBf.cells) O ?_)
   exact ⟨_, rfl, ⟨p.1, p.2, by rw [hso, ho]; rfl, hval⟩, (hE.ext hD0).trans hkf (fun q hq h => by have h : q = r := h; omega)⟩
  ·
   have ho : okR p = false := by unfold okR; exact znq (by omega)
   refine Ds [5, 6, 7, 8] (by kernel_rfl) O (zkd 9 O (by kernel_rfl) O O (zkf ts226 O O O O (by simp [Value.oneCell']) (hD0.blk hB_r (fun h => h)) (by simp)) ?_)
   rintro wf ⟨_, hBf, hkf⟩
   refine ⟨fun _ => hD.trans hkf (fun _ _ h => h), ?_⟩
   refine Ds [10] (by kernel_rfl) O (zkq (by kernel_rfl) ?_ _)
   refine Gs 2 O (zjR Tryz.results198 O (zj tg226 ts226 O hBf.cells) O ?_)
   exact ⟨_, rfl, ⟨p.1, p.2, by rw [hso, ho]; rfl, hval⟩, (hE.ext hD0).trans hkf (fun q hq h => by have h : q = r := h; omega)⟩
open Go.GL
def zM (vs : List Vr) (inp : Bool) (t : Tm) : Int := if zw vs inp t then (if (rng vs t).isSome then 0 else 3) else 1
theorem kL (vs : List Vr) (inp : Bool) (vv : Value) (cs : List Value) (Dv D : Nat -> Prop) (w : World) (t : Tm) (hvb : ∀ v ∈ vs, ym (v.low, v.high)) (hvs : SlR 5 RVr Dv w vv vs) (ht : RTm D w t cs) (hsz : t.nodes <= 1000000) : Calls Tryz.prog 149 #[vv, .agg cs.toArray, .bool inp] w (Ret fun r w' => r = .int .i64 (zM vs inp t) /\ Ext w w') := by
 obtain ⟨v, rfl, hk⟩ := ht.get
 have hE := Keep.refl (fun _ => False) w
 refine zlv Tryz.func149 O Tryz.ntmps149 O (Gs 2 O (G.mem O O (M.box O O) ?_))
 rintro _ w_b ⟨b, rfl, hg_b, hs_b, hB_b, hk_b⟩
 have hge_b : _ <= b := znj hE.size (Nat.le_of_eq hg_b.symm)
 obtain ⟨hE, hvs, hk⟩ := Tr3 hk_b hE hvs hk
 refine Gs 7 O (zlq O tg86 ts86 hB_b.cells O (Gs 1 O (G.call O Tryz.call197 (zaP vs inp vv Dv t _ D _ hvs (RTm.put hk)) ?_)))
 rintro _ wz1 ⟨rfl, hz1⟩
 obtain ⟨hE, hvs, hk, hB_b⟩ := Tr4 hz1 hE hvs hk hB_b
 refine zlk O O (zkO O (by first | exact zb | rfl)) (Gs 2 O (G.bool O (fun hf => ?_) (fun hf => ?_)))
 ·
  have hf' : zw vs inp t = false := by simpa using hf
  refine Gs 7 O (zjG Tryz.results149 O ⟨_, rfl, by rw [zM, hf']; rfl, hE⟩)
 ·
  have hf' : zw vs inp t = true := by simpa using hf
  refine Gs 6 O (zlq O tg86 ts86 hB_b.cells O (G.call O Tryz.call198 (zeo vs inp vv Dv hvb t _ D _ hvs (RTm.put hk) hf' hsz) ?_))
  rintro _ wz2 ⟨⟨a, c, rfl, _⟩, hz2⟩
  obtain ⟨hE, hvs, hk, hB_b⟩ := Tr4 hz2 hE hvs hk hB_b
  refine Gs 3 O (G.mem O O (M.alloc (cs := _) tz226 O) ?_)
  rintro _ wa3 ⟨o, rfl, hg_o, hs_o, hB_o, hk_o⟩
  refine zke O (zkf ts226 O O O O (by simp [Value.oneCell']) hB_o (by simp)) ?_
  rintro w_o ⟨_, hB_o, hkk_o⟩
  replace hk_o := hk_o.trans hkk_o (fun q hq h => by have h : q = o := h; omega)
  have hn_b_o : b ≠ o := by have := hB_b.lt; omega
  have hge_o : _ <= o := znj hE.size (Nat.le_of_eq hg_o.symm)
  obtain ⟨hE, hvs, hk, hB_b⟩ := Tr4 hk_o hE hvs hk hB_b
  refine Gs 6 O (zlk O O (zkO O (by first | exact zb | rfl)) (Gs 2 O (G.bool O (fun ho => ?_) (fun ho => ?_))))
  ·
   have ho' : (rng vs t).isSome = false := by simpa using ho
   refine Gs 7 O (zjG Tryz.results149 O ⟨_, rfl, by rw [zM, hf', ho']; rfl, hE⟩)
  ·
   have ho' : (rng vs t).isSome = true := by simpa using ho
   refine Gs 8 O (zjG Tryz.results149 O ⟨_, rfl, by rw [zM, hf', ho']; rfl, hE⟩)
def yc (k : Int) : List Vr -> Int -> Option Int
 | [], n => some n
 | v :: r, n => if v.kind = k then (if 4096 < n * (v.high - v.low + 1) then none else yc k r (n * (v.high - v.low + 1))) else yc k r n
def zn (k : Int) (vs : List Vr) : Option Int := yc k vs 1
theorem zX (k : Int) : ∀ (a b : List Vr) (n : Int), yc k (a ++ b) n = (yc k a n).bind (yc k b)
 | [], b, n => rfl
 | v :: r, b, n => by
  simp only [List.cons_append, yc]
  split
  ·
   split
   . rfl
   . exact zX k r b _
  . exact zX k r b _
theorem yh (k : Int) : ∀ (a : List Vr) (n m : Int), (∀ v ∈ a, ym (v.low, v.high)) -> 1 <= n -> n <= 4096 -> yc k a n = some m -> 1 <= m /\ m <= 4096
 | [], n, m, _, h1, h2, h => by simp [yc] at h; omega
 | v :: r, n, m, hg, h1, h2, h => by
  have hv := hg v (znh ..)
  have hr := fun x hx => hg x (zng _ hx)
  unfold ym at hv
  simp only [yc] at h
  split at h
  ·
   split at h
   . cases h
   ·
    rename_i h3
    refine yh k r _ m hr ?_ (by omega) h
    have : (1 : Int) * 1 <= n * (v.high - v.low + 1) := Int.mul_le_mul h1 (by dsimp only at hv; omega) (by omega) (by omega)
    omega
  . exact yh k r n m hr h1 h2 h
theorem zho {n s : Int} (h1 : 1 <= n) (h2 : n <= 4096) (h3 : 1 <= s) (h4 : s <= 2097153) : 1 <= n * s /\ n * s <= 4096 * 2097153 := by
 have a : (1 : Int) * 1 <= n * s := Int.mul_le_mul h1 h3 (by omega) (by omega)
 have b : n * s <= 4096 * 2097153 := Int.mul_le_mul h2 h4 (by omega) (by omega)
 omega
theorem js (v : Vr) (w : World) (hg : ym (v.low, v.high)) : Calls Tryz.prog 120 #[.agg #[.string v.name, .int .i64 v.kind, .int .i64 v.low, .int .i64 v.high, .int .i64 v.init]] w (Ret fun r w' => r = .int .i64 (v.high - v.low + 1) /\ Ext w w') := by
 unfold ym at hg
 dsimp only at hg
 have hE := Keep.refl (fun _ => False) w
 refine zlt Tryz.func120 O Tryz.ntmps120 O (Gs 2 O (G.mem O O (M.box O O) ?_))
 rintro _ w_b ⟨b, rfl, hg_b, hs_b, hB_b, hk_b⟩
 have hge_b : _ <= b := znj hE.size (Nat.le_of_eq hg_b.symm)
 replace hE := Tr1 hk_b hE
 refine Gs 6 O (zlo O tg3 (hB_b.cells 3 _ O) (Gs 1 O (zlo O tg3 (hB_b.cells 2 _ O) (Ga 6 O (by omega) (zjG Tryz.results120 O ⟨_, rfl, rfl, hE⟩)))))
def ze0 (v : Vr) : List Value := [.string v.name, .int .i64 v.kind, .int .i64 v.low, .int .i64 v.high, .int .i64 v.init]
theorem zfU (v : Vr) : (ze0 v).length = 5 := rfl
theorem zfV (v : Vr) : ∀ u ∈ ze0 v, u.oneCell' = true := by simp [ze0, Value.oneCell']
def zg (k : Int) (vs : List Vr) : List Vr := vs.filter fun v => decide (v.kind = k)
theorem zcr {k : Int} {vs : List Vr} {i : Nat} {x : Vr} (h : vs[i]? = some x) : zg k (vs.take (i + 1)) = zg k (vs.take i) ++ (if x.kind = k then [x] else []) := by
 unfold zg
 rw [zh h, List.filter_append]
 congr 1
 by_cases e : x.kind = k <;> simp [e]
theorem jt (k : Int) (vs : List Vr) : (zg k vs).length <= vs.length := List.length_filter_le _ _
theorem yQ (k : Int) : ∀ (vs : List Vr) (n : Int), yc k (zg k vs) n = yc k vs n
 | [], n => rfl
 | v :: r, n => by
  unfold zg
  by_cases e : v.kind = k
  ·
   rw [List.filter_cons_of_pos (by simpa using e)]
   simp only [yc, e, if_true]
   split
   . rfl
   . exact yQ k r _
  ·
   rw [List.filter_cons_of_neg (by simpa using e)]
   simp only [yc, e, if_false]
   exact yQ k r n
theorem qb (vs : List Vr) (k : Int) (vv : Value) (D : Nat -> Prop) (w : World) (hk : 0 <= k /\ k <= 3) (hg : ∀ v ∈ vs, ym (v.low, v.high)) (hvs : SlR 5 RVr D w vv vs) (hlen : vs.length <= 1000000) : Calls Tryz.prog 119 #[vv, .int .i64 k] w (Ret fun r w' => (∃ vl, r = .tuple #[vl, .int .i64 ((zn k vs).getD 0), .int .i64 (if (zn k vs).isSome then 0 else 4)] /\ ((zn k vs).isSome = true -> SlR 5 RVr (fun b => w.heap.size <= b) w' vl (zg k vs)) /\ ((zn k vs).isSome = false -> vl = .slice none 0 0)) /\ Ext w w') := by
 obtain ⟨av, nv, rfl⟩ := hvs.form
 have hE := Keep.refl (fun _ => False) w
 refine zlu Tryz.func119 O Tryz.ntmps119 O (Gs 13 O (zjA (σ := Unit) (fun u => [(0, .slice av vs.length nv), (1, .int .i64 k)]) (fun u => fun w' => w' = w) ?_ ?_))
 ·
  refine Gs 8 O (zjm O (fun h0 => ?_) (fun h0 => ?_))
  . refine Gs 5 O (zjC (()) (zl4 O) (rfl))
  ·
   refine Gs 6 O (zjm O (fun h1 => ?_) (fun h1 => ?_))
   . refine Gs 5 O (zjC (()) (zl4 O) (rfl))
   ·
    refine Gs 6 O (zjm O (fun h2 => ?_) (fun h2 => ?_))
    . refine Gs 5 O (zjC (()) (zl4 O) (rfl))
    ·
     refine Gs 5 O (zjm O (fun h3 => ?_) (fun h3 => ?_))
     . refine Gs 2 O (zjC (()) (zl4 O) (rfl))
     . exact absurd hk (by omega)
 rintro u w1 hw1
 subst hw1
 refine Gs 14 O (zjA (σ := Value) (fun vl => [(0, .slice av vs.length nv), (1, .int .i64 k), (7, vl)]) (fun vl => fun w' => w'.ownsRow 0 89 5 vl (zg k vs).length ((zg k vs).flatMap ze0) /\ (∀ q, vl.ownBlock = some q -> w1.heap.size <= q) /\ Ext w1 w') ?_ ?_)
 ·
  refine Gs 1 O (G.loop (σ := Nat × Value) (fun ⟨i, vl⟩ => [(0, .slice av vs.length nv), (1, .int .i64 k), (7, vl), (19, .slice av vs.length nv), (20, .int .i64 vs.length), (21, .int .i64 i)]) (fun ⟨i, vl⟩ => fun w' => i <= vs.length /\ w'.ownsRow 0 89 5 vl (zg k (vs.take i)).length ((zg k (vs.take i)).flatMap ze0) /\ (∀ q, vl.ownBlock = some q -> w1.heap.size <= q) /\ Ext w1 w') (fun ⟨i, vl⟩ => vs.length - i) ((0, .slice none 0 0)) (zl4 O) (⟨zns _, kr _ _ _, fun q hq => by simp [Value.ownBlock] at hq, Keep.refl _ _⟩) ?_)
  rintro ⟨i, vl⟩ w2 ⟨hi, hown, hfr, hL1⟩
  show G _ _ _ _ _ [(0, .slice av vs.length nv), (1, .int .i64 k), (7, vl), (19, .slice av vs.length nv), (20, .int .i64 vs.length), (21, .int .i64 i)] _
  obtain ⟨hE, hvs⟩ := Tr2 hL1 hE hvs
  refine Gs 6 O (zjm O (fun hlt => ?_) (fun hlt => ?_))
  ·
   obtain ⟨x, he_x, hm_x⟩ := gE_ vs (i) (by omega)
   obtain ⟨b_x, o_x, c_x, ha_x, _, hc_x, hR_x⟩ := hvs.at he_x
   have h1_x := RVr.one hR_x
   obtain rfl := hR_x
   have hlt_x : b_x < _ := znf _ _ (hc_x 0 _ rfl)
   have hgx := hg x hm_x
   unfold ym at hgx
   dsimp only at hgx
   have hot := zcr (k := k) he_x
   have hol := jt k (vs.take i)
   rw [znH] at hol
   refine Gs 6 O (zlk O O (zk5 tR22 ts89 O O ha_x (by omega)) (zlq O tg89 ts89 hc_x O (G.mem O O (M.alloc (cs := _) tz89 O) ?_)))
   rintro _ wa1 ⟨c, rfl, hg_c, hs_c, hB_c, hk_c⟩
   refine zke O (zkf ts89 O O O O h1_x hB_c (by simp)) ?_
   rintro w_c ⟨_, hB_c, hkk_c⟩
   replace hk_c := hk_c.trans hkk_c (fun q hq h => by have h : q = c := h; omega)
   have hge_c : _ <= c := znj hE.size (Nat.le_of_eq hg_c.symm)
   obtain ⟨hE, hvs, hL1, hown, hc_x⟩ := Tr5 hk_c hE hvs hL1 hown hc_x
   refine Gs 6 O (zlo O tg53 (hB_c.cells 1 _ O) (Gs 4 O (zjm O (fun hkx => ?_) (fun hkx => ?_))))
   ·
    rw [znn hkx, List.append_nil] at hot
    refine Ga 8 O (by omega) (zjx ((i + 1, vl)) (zl4 O) (⟨by omega, by rw [hot]; exact hown, hfr, hL1⟩) (by first | omega | (dsimp only; omega)))
   ·
    have hkx' : x.kind = k := znm.1 hkx
    rw [zno hkx'] at hot
    refine Gs 6 O (zlo O tg3 (hB_c.cells 2 _ O) (Gs 1 O (zlo O tg3 (hB_c.cells 3 _ O) (Gs 2 O (zlf 34 O (fun b0 => ?_) (fun b0 => ?_))))))
    . exact absurd b0 (by omega)
    ·
     refine Gs 1 O (zlo O tg3 (hB_c.cells 2 _ O) (Gs 3 O (zlf 39 O (fun b1 => ?_) (fun b1 => ?_))))
     . exact absurd b1 (by omega)
     ·
      refine Gs 1 O (zlo O tg3 (hB_c.cells 3 _ O) (Gs 4 O (zjm O (fun b2 => ?_) (fun b2 => ?_))))
      . exact absurd b2 (by omega)
      ·
       refine Gs 4 O (zlq O tg89 ts89 hB_c.cells O (G.mem O O (M.buildSlice (cs := ze0 x) [(0, _)] tR22 ts89 tz89 (by decide) O (by kernel_rfl)) ?_))
       rintro _ w5 ⟨b5, rfl, hg_b5, hs_b5, hB_b5, hk_b5⟩
       obtain ⟨hE, hvs, hL1, hown, hc_x, hB_c⟩ := Tr6 hk_b5 hE hvs hL1 hown hc_x hB_c
       refine G.mem O O (M.append Tryz.underlying22 Tryz.el89 O (by decide) O O hown O (Cells.add hB_b5.cells) (zfV _) (by omega) (by omega)) ?_
       rintro vl' w6 ⟨hown6, hfr6, hk6, _⟩
       have hszL := hL1.size
       refine Ga 8 O (by omega) (zjx ((i + 1, vl')) (zl4 O) (⟨by omega, ?_, ?_, hL1.trans hk6 (fun q hq h => by have := hfr q h; omega)⟩) (by first | omega | (dsimp only; omega)))
       ·
        rw [hot, znl, List.flatMap_append]
        exact hown6
       ·
        intro q hq
        rcases hfr6 with h | ⟨q', h, h'⟩
        . exact hfr q (by rw [<- h]; exact hq)
        . rw [h] at hq; cases hq; omega
  ·
   have : i = vs.length := by omega
   subst this
   rw [zni] at hown
   refine Gs 4 O (zjC (vl) (zl4 O) (⟨hown, hfr, hL1⟩))
 rintro vl w2 ⟨hown, hfr, hX⟩
 obtain ⟨hE, hvs⟩ := Tr2 hX hE hvs
 have hsl : SlR 5 RVr (fun b => w1.heap.size <= b) w2 vl (zg k vs) := zky (by omega) ze0 zfU (fun x _ => rfl) hown hfr
 obtain ⟨al, nl, rfl⟩ := hsl.form
 have hol := jt k vs
 have hgo : ∀ v ∈ zg k vs, ym (v.low, v.high) := fun v hv => hg v (List.mem_filter.1 hv).1
 have hsp : yc k (zg k vs) 1 = zn k vs := yQ k vs 1
 have hall : ∀ v ∈ zg k vs, v.kind = k := fun v hv => by simpa using (List.mem_filter.1 hv).2
 refine Gs 15 O (G.loop (σ := Nat × Int) (fun ⟨i, n⟩ => [(7, .slice al (zg k vs).length nl), (10, .int .i64 n), (49, .slice al (zg k vs).length nl), (50, .int .i64 (zg k vs).length), (51, .int .i64 i)]) (fun ⟨i, n⟩ => fun w' => i <= (zg k vs).length /\ yc k ((zg k vs).take i) 1 = some n /\ Ext w2 w') (fun ⟨i, n⟩ => (zg k vs).length - i) ((0, 1)) (zl4 O) (⟨zns _, rfl, Keep.refl _ _⟩) ?_)
 rintro ⟨i, n⟩ w3 ⟨hi, hs, hL2⟩
 show G _ _ _ _ _ [(7, .slice al (zg k vs).length nl), (10, .int .i64 n), (49, .slice al (zg k vs).length nl), (50, .int .i64 (zg k vs).length), (51, .int .i64 i)] _
 obtain ⟨hE, hvs, hsl⟩ := Tr3 hL2 hE hvs hsl
 have hn := yh k ((zg k vs).take i) 1 n (fun v hv => hgo v (List.mem_of_mem_take hv)) (by omega) (by omega) hs
 refine Gs 6 O (zjm O (fun hlt => ?_) (fun hlt => ?_))
 ·
  obtain ⟨x, he_x, hm_x⟩ := gE_ (zg k vs) (i) (by omega)
  obtain ⟨b_x, o_x, c_x, ha_x, _, hc_x, hR_x⟩ := hsl.at he_x
  have h1_x := RVr.one hR_x
  obtain rfl := hR_x
  have hlt_x : b_x < _ := znf _ _ (hc_x 0 _ rfl)
  have hgx := hgo x hm_x
  have hgx' := hgx
  unfold ym at hgx'
  dsimp only at hgx'
  have hp := zho (n := n) (s := x.high - x.low + 1) hn.1 hn.2 (by omega) (by omega)
  have hst : yc k ((zg k vs).take (i + 1)) 1 = if 4096 < n * (x.high - x.low + 1) then none else some (n * (x.high - x.low + 1)) := by
   rw [zh he_x, zX, hs]; simp [yc, hall x hm_x]
  refine Gs 6 O (zlk O O (zk5 tR22 ts89 O O ha_x (by omega)) (zlq O tg89 ts89 hc_x O (G.mem O O (M.alloc (cs := _) tz89 O) ?_)))
  rintro _ wa2 ⟨c, rfl, hg_c, hs_c, hB_c, hk_c⟩
  refine zke O (zkf ts89 O O O O h1_x hB_c (by simp)) ?_
  rintro w_c ⟨_, hB_c, hkk_c⟩
  replace hk_c := hk_c.trans hkk_c (fun q hq h => by have h : q = c := h; omega)
  have hge_c : _ <= c := znj hE.size (Nat.le_of_eq hg_c.symm)
  obtain ⟨hE, hvs, hsl, hL2, hc_x⟩ := Tr5 hk_c hE hvs hsl hL2 hc_x
  refine Gs 5 O (zlq O tg89 ts89 hB_c.cells O (G.call O Tryz.call120 (js x _ hgx) ?_))
  rintro _ wz3 ⟨rfl, hz3⟩
  obtain ⟨hE, hvs, hsl, hL2, hc_x, hB_c⟩ := Tr6 hz3 hE hvs hsl hL2 hc_x hB_c
  refine Ga 10 O (by omega) (zjm O (fun hb => ?_) (fun hb => ?_))
  ·
   rw [zno hb] at hst
   have hnone : zn k vs = none := by
    rw [<- hsp, <- List.take_append_drop (i + 1) (zg k vs), zX, hst]; rfl
   refine Gs 13 O (zjM Tryz.results119 O O O ⟨_, rfl, ⟨.slice none 0 0, by rw [hnone]; rfl, (fun (h : (zn k vs).isSome = true) => by rw [hnone] at h; cases h), fun _ => rfl⟩, hE⟩)
  . refine Ga 7 O (by omega) (zjx ((i + 1, n * (x.high - x.low + 1))) (zl4 O) (⟨by omega, by rw [hst, znn hb], hL2⟩) (by first | omega | (dsimp only; omega)))
 ·
  have : i = (zg k vs).length := by omega
  subst this
  rw [zni, hsp] at hs
  refine Gs 15 O (zjM Tryz.results119 O O O ⟨_, rfl, ⟨_, by rw [hs]; rfl, fun _ => hsl, (fun (h : (zn k vs).isSome = false) => by rw [hs] at h; cases h)⟩, hE⟩)
theorem qy (vs : List Vr) (k : Int) (vv : Value) (D : Nat -> Prop) (w : World) (hk : 0 <= k /\ k <= 3) (hg : ∀ v ∈ vs, ym (v.low, v.high)) (hvs : SlR 5 RVr D w vv vs) (hlen : vs.length <= 1000000) : Calls Tryz.prog 62 #[vv, .int .i64 k] w (Ret fun r w' => r = .tuple #[.int .i64 ((zn k vs).getD 0), .int .i64 (if (zn k vs).isSome then 0 else 4)] /\ Ext w w') := by
 have hE := Keep.refl (fun _ => False) w
 refine zlu Tryz.func62 O Tryz.ntmps62 O (Gs 10 O (G.call O tc119 (qb vs k vv D w hk hg hvs hlen) ?_))
 rintro _ wz1 ⟨⟨vl, rfl, _, _⟩, hz1⟩
 replace hE := Tr1 hz1 hE
 refine Gs 18 O (zjJ Tryz.results62 O O ⟨_, rfl, rfl, hE⟩)
def zY (f : Nat -> Int) : Nat -> Nat -> Int
 | _, 0 => 0
 | i, n + 1 => if f i ≠ 0 then f i else zY f (i + 1) n
theorem xC (f : Nat -> Int) : ∀ (k i m : Nat), (∀ j, i <= j -> j < i + k -> f j = 0) -> zY f i (k + m) = zY f (i + k) m
 | 0, i, m, _ => by simp
 | k + 1, i, m, h => by
  rw [show k + 1 + m = (k + m) + 1 by omega, zY, znn (by simp [h i (znC _) (by omega)]), xC f k (i + 1) m (fun j h1 h2 => h j (by omega) (by omega))]
  congr 1; omega
theorem kM {f : Nat -> Int} {i n : Nat} (h : ∀ j, j < i -> f j = 0) (hi : i < n) (hb : f i ≠ 0) : zY f 0 n = f i := by
 obtain ⟨m, rfl⟩ : ∃ m, n = i + (m + 1) := ⟨n - i - 1, by omega⟩
 rw [xC f i 0 (m + 1) (fun j _ h2 => h j (by omega)), Nat.zero_add, zY, zno hb]
theorem jb {f : Nat -> Int} {n : Nat} (h : ∀ j, j < n -> f j = 0) : zY f 0 n = 0 := by
 have := xC f n 0 0 (fun j _ h2 => h j (by omega))
 simpa [zY] using this
theorem yH {f : Nat -> Int} : ∀ (n i : Nat), zY f i n = 0 -> ∀ j, i <= j -> j < i + n -> f j = 0
 | 0, i, _, j, h1, h2 => by omega
 | n + 1, i, h, j, h1, h2 => by
  rw [zY] at h
  split at h
  . rename_i h3; exact absurd h h3
  ·
   rename_i h3
   by_cases e : j = i
   . subst e; simpa using h3
   . exact yH n (i + 1) h j (by omega) (by omega)
def xn (a b : ByteArray) : Bool := decide (a.toList = b.toList)
def zS (prev : List Vr) (v : Vr) : Int :=
 if zaN v.name = false then 7
 else if prev.any (fun u => xn u.name v.name) = true then 8
 else if ¬ (0 <= v.kind /\ v.kind <= 3) then 1
 else if zbh v.low v.high = false then 3
 else if v.kind = 0 /\ (v.init < v.low \/ v.high < v.init) \/ v.kind ≠ 0 /\ v.init ≠ 0 then 3
 else 0
def kN (vs : List Vr) (i : Nat) : Int := match vs[i]? with
 | some v => zS (vs.take i) v
 | none => 0
theorem zaR {vs : List Vr} {i : Nat} {v : Vr} (h : vs[i]? = some v) : kN vs i = zS (vs.take i) v := by simp [kN, h]
def xD (vs : List Vr) : Bool := (zn 1 vs).isNone || (zn 2 vs).isNone || (match zn 3 vs with
 | some n => decide (256 < n)
 | none => true)
def zx (vs : List Vr) : Int := if zY (kN vs) 0 vs.length ≠ 0 then zY (kN vs) 0 vs.length else if xD vs then 4 else 0
theorem zbI {prev : List Vr} {v : Vr} (h : zS prev v = 0) : ym (v.low, v.high) /\ 0 <= v.kind /\ v.kind <= 3 := by
 unfold zS at h
 split at h
 . cases h
 split at h
 . cases h
 split at h
 . cases h
 split at h
 . cases h
 ·
  rename_i h1 h2 h3 h4
  have h5 : zbh v.low v.high = true := by simpa using h4
  unfold zbh at h5
  have := of_decide_eq_true h5
  have h3 := znm.1 h3
  exact ⟨⟨this.2.1, this.1, this.2.2⟩, h3.1, h3.2⟩
theorem qc {vs : List Vr} (h : ∀ j, j < vs.length -> kN vs j = 0) : ∀ v ∈ vs, ym (v.low, v.high) /\ 0 <= v.kind /\ v.kind <= 3 := by
 intro v hv
 obtain ⟨i, hi⟩ := List.mem_iff_getElem?.1 hv
 have := h i (znr.1 hi).1
 rw [zaR hi] at this
 exact zbI this
theorem jK {α : Type} {p : α -> Bool} {l : List α} {k : Nat} {x : α} (hx : l[k]? = some x) (h : (l.take k).any p = false) (hp : p x = false) : (l.take (k + 1)).any p = false := by rw [zh hx, List.any_append, h]; simp [hp]
theorem zgT {α : Type} {p : α -> Bool} {l : List α} {x : α} (hx : x ∈ l) (hp : p x = true) : l.any p = true := List.any_eq_true.2 ⟨x, hx, hp⟩
theorem zep (vs : List Vr) (vv : Value) (D : Nat -> Prop) (w : World) (hvs : SlR 5 RVr D w vv vs) (p : Vr -> Bool) (g : FuncId) (cp : Value) (hf : ∀ args w, (callFunc g args).run Tryz.prog w = .ok (.enter g args) w)
  (hc : ∀ x ∈ vs, ∀ w', Ext w w' -> Calls Tryz.prog g #[.agg (ze0 x).toArray, cp] w' (Ret fun r w'' => r = .bool (p x) /\ Ext w' w'')) :
  Calls Tryz.prog 195 #[vv, .func (.func g) #[] #[cp]] w (Ret fun r w' => (∃ i : Int, r = .int .i64 i /\ (0 <= i ↔ vs.any p = true)) /\ Ext w w') := by
 have hmx := hvs.max
 obtain ⟨av, nv, rfl⟩ := hvs.form
 refine zlu Tryz.func195 O Tryz.ntmps195 O (Gs 14 O (G.loop (σ := Nat) (fun i => [(0, .slice av vs.length nv), (1, .func (.func g) #[] #[cp]), (7, .int .i64 vs.length), (8, .int .i64 i)]) (fun i => fun w' => i <= vs.length /\ (vs.take i).any p = false /\ Ext w w') (fun i => vs.length - i) (0) (zl4 O) (⟨zns _, rfl, Keep.refl _ _⟩) ?_))
 rintro i w1 ⟨hi, hno, hL1⟩
 replace hvs := Tr1 hL1 hvs
 refine Gs 6 O (zjm O (fun hlt => ?_) (fun hlt => ?_))
 ·
  obtain ⟨x, he_x, hm_x⟩ := gE_ vs (i) (by omega)
  obtain ⟨b_x, o_x, c_x, ha_x, _, hc_x, hR_x⟩ := hvs.at he_x
  have h1_x := RVr.one hR_x
  obtain rfl := hR_x
  have hlt_x : b_x < _ := znf _ _ (hc_x 0 _ rfl)
  refine Gs 15 O (zlk O O (zk5 tR22 ts89 O O ha_x (by omega)) (zlq O tg89 ts89 hc_x O (zkb O hf (hc x hm_x _ hL1) ?_)))
  rintro _ wz1 ⟨rfl, hz1⟩
  obtain ⟨hvs, hL1, hc_x⟩ := Tr3 hz1 hvs hL1 hc_x
  refine Gs 2 O (G.bool O (fun hp => ?_) (fun hp => ?_))
  . refine Gs 12 O (zjG Tryz.results195 O ⟨_, rfl, ⟨_, rfl, by rw [zgT hm_x hp]; simp⟩, hL1⟩)
  . refine Ga 7 O (by omega) (zjx (i + 1) (zl4 O) (⟨by omega, jK he_x hno hp, hL1⟩) (by first | omega | (dsimp only; omega)))
 ·
  have : i = vs.length := by omega
  subst this
  rw [zni] at hno
  refine Gs 11 O (zjG Tryz.results195 O ⟨_, rfl, ⟨_, rfl, by rw [hno]; simp⟩, hL1⟩)
theorem zbJ (vs : List Vr) (vv : Value) (D : Nat -> Prop) (w : World) (hvs : SlR 5 RVr D w vv vs) (p : Vr -> Bool) (g : FuncId) (cp : Value) (hf : ∀ args w, (callFunc g args).run Tryz.prog w = .ok (.enter g args) w)
  (hc : ∀ x ∈ vs, ∀ w', Ext w w' -> Calls Tryz.prog g #[.agg (ze0 x).toArray, cp] w' (Ret fun r w'' => r = .bool (p x) /\ Ext w' w'')) :
  Calls Tryz.prog 145 #[vv, .func (.func g) #[] #[cp]] w (Ret fun r w' => r = .bool (vs.any p) /\ Ext w w') := by
 have hE := Keep.refl (fun _ => False) w
 refine zlu Tryz.func145 O Tryz.ntmps145 O (Gs 9 O (G.call O Tryz.call195 (zep vs vv D w hvs p g cp hf hc) ?_))
 rintro _ wz1 ⟨⟨i, rfl, hi⟩, hz1⟩
 replace hE := Tr1 hz1 hE
 refine Gs 5 O (zjG Tryz.results145 O ⟨_, rfl, by cases h : vs.any p <;> simp [h] at hi ⊢ <;> omega, hE⟩)
theorem zfW (v x : Vr) (c : Nat) (w : World) (hB : Blk w c (ze0 x) 89) : Calls Tryz.prog 143 #[.agg (ze0 v).toArray, .pointer (some ⟨c, 0, none⟩)] w (Ret fun r w' => r = .bool (xn v.name x.name) /\ Ext w w') := by
 have hE := Keep.refl (fun _ => False) w
 refine zlu Tryz.func143 O Tryz.ntmps143 O (Gs 2 O (G.mem O O (M.box O O) ?_))
 rintro _ w_b ⟨b, rfl, hg_b, hs_b, hB_b, hk_b⟩
 have hge_b : _ <= b := znj hE.size (Nat.le_of_eq hg_b.symm)
 obtain ⟨hE, hB⟩ := Tr2 hk_b hE hB
 refine Gs 6 O (zlo O tg9 (hB_b.cells 0 _ O) (Gs 1 O (zlo O tg9 (hB.cells 0 _ O) (Gs 5 O (zjG Tryz.results143 O ⟨_, rfl, rfl, hE⟩)))))
theorem zcs (vs : List Vr) (vv : Value) (D : Nat -> Prop) (w : World) (hvs : SlR 5 RVr D w vv vs) (hlen : vs.length <= 1000000) : Calls Tryz.prog 115 #[vv] w (Ret fun r w' => r = .int .i64 (zx vs) /\ Ext w w') := by
 obtain ⟨av, nv, rfl⟩ := hvs.form
 have hlc := hvs.len_cap.2
 refine zlt Tryz.func115 O Tryz.ntmps115 O (Gs 13 O (zjA (σ := Unit) (fun u => [(0, .slice av vs.length nv)]) (fun u => fun w' => (∀ j, j < vs.length -> kN vs j = 0) /\ Ext w w') ?_ ?_))
 ·
  refine Gs 1 O (G.loop (σ := Nat) (fun i => [(0, .slice av vs.length nv), (10, .slice av vs.length nv), (11, .int .i64 vs.length), (12, .int .i64 i)]) (fun i => fun w' => i <= vs.length /\ (∀ j, j < i -> kN vs j = 0) /\ Ext w w') (fun i => vs.length - i) (0) (zl4 O) (⟨zns _, fun j h => absurd h (Nat.not_lt_zero _), Keep.refl _ _⟩) ?_)
  rintro i w1 ⟨hi, hall, hL1⟩
  replace hvs := Tr1 hL1 hvs
  refine Gs 6 O (zjm O (fun hlt => ?_) (fun hlt => ?_))
  ·
   obtain ⟨x, he_x, hm_x⟩ := gE_ vs (i) (by omega)
   obtain ⟨b_x, o_x, c_x, ha_x, _, hc_x, hR_x⟩ := hvs.at he_x
   have h1_x := RVr.one hR_x
   obtain rfl := hR_x
   have hlt_x : b_x < _ := znf _ _ (hc_x 0 _ rfl)
   have hat := zaR he_x
   have hbad : ∀ c : Int, zS (vs.take i) x = c -> c ≠ 0 -> zx vs = c := by
    intro c h1 h2
    have h3 : kN vs i ≠ 0 := by rw [hat, h1]; exact h2
    rw [zx, kM hall (by omega) h3, zno h3, hat, h1]
   have hnext : zS (vs.take i) x = 0 -> ∀ j, j < i + 1 -> kN vs j = 0 := by
    intro h j hj
    by_cases e : j = i
    . subst e; rw [hat, h]
    . exact hall j (by omega)
   refine Gs 7 O (zlk O O (zk5 tR22 ts89 O O ha_x (by omega)) (zlq O tg89 ts89 hc_x O (G.mem O O (M.alloc (cs := _) tz89 O) ?_)))
   rintro _ wa1 ⟨c, rfl, hg_c, hs_c, hB_c, hk_c⟩
   refine Gs 1 O (zke O (zkf ts89 O O O O h1_x hB_c (by simp)) ?_)
   rintro w_c ⟨_, hB_c, hkk_c⟩
   replace hk_c := hk_c.trans hkk_c (fun q hq h => by have h : q = c := h; omega)
   obtain ⟨hvs, hL1, hc_x⟩ := Tr3 hk_c hvs hL1 hc_x
   refine Gs 12 O (zlo O tg9 (hB_c.cells 0 _ O) (G.call O Tryz.call144 (qX x.name _) ?_))
   rintro _ wz2 ⟨rfl, hz2⟩
   obtain ⟨hvs, hL1, hc_x, hB_c⟩ := Tr4 hz2 hvs hL1 hc_x hB_c
   refine zlk O O (zkO O (by first | exact zb | rfl)) (Gs 3 O (G.bool O (fun n0 => ?_) (fun n0 => ?_)))
   ·
    have n0' : zaN x.name = false := by simpa using n0
    refine Gs 13 O (zjG tr115 O ⟨_, rfl, by rw [hbad 7 (by rw [zS, zno n0']) (by decide)], hL1⟩)
   ·
    have n0' : ¬ zaN x.name = false := by simpa using n0
    refine Gs 4 O (zlk O O (zkH tR22 ts89 O O (by omega)) (Gs 1 O ?_))
    have htk := hvs.take i (by omega)
    have hBx : Blk _ c (ze0 x) 89 := hB_c
    refine G.call O Tryz.call145 (zbJ (vs.take i) _ D _ htk (fun u => xn u.name x.name) 143 (.pointer (some ⟨c, 0, none⟩)) Tryz.call143 (fun y _ w' hw' => zfW y x c w' (hw'.blk hBx (fun h => h)))) ?_
    rintro _ wz3 ⟨rfl, hz3⟩
    obtain ⟨hvs, hL1, hc_x, hB_c⟩ := Tr4 hz3 hvs hL1 hc_x hB_c
    refine Gs 3 O (G.bool O (fun d0 => ?_) (fun d0 => ?_))
    . refine Gs 13 O (zjG tr115 O ⟨_, rfl, by rw [hbad 8 (by rw [zS, znn n0', zno d0]) (by decide)], hL1⟩)
    ·
     have n1 : ¬ (vs.take i).any (fun u => xn u.name x.name) = true := by rw [d0]; decide
     refine Gs 3 O (zlo O tg53 (hB_c.cells 1 _ O) (Gs 2 O (zlf 33 O (fun k0 => ?_) (fun k0 => ?_))))
     ·
      have n2 : ¬ (0 <= x.kind /\ x.kind <= 3) := by omega
      refine Gs 21 O (zjG tr115 O ⟨_, rfl, by rw [hbad 1 (by rw [zS, znn n0', znn n1, zno n2]) (by decide)], hL1⟩)
     ·
      refine Gs 1 O (zlo O tg53 (hB_c.cells 1 _ O) (Gs 5 O (zjm O (fun k1 => ?_) (fun k1 => ?_))))
      ·
       have n2 : ¬ (0 <= x.kind /\ x.kind <= 3) := by omega
       refine Gs 13 O (zjG tr115 O ⟨_, rfl, by rw [hbad 1 (by rw [zS, znn n0', znn n1, zno n2]) (by decide)], hL1⟩)
      ·
       have n2 : ¬ ¬ (0 <= x.kind /\ x.kind <= 3) := by omega
       refine Gs 4 O (zlo O tg3 (hB_c.cells 2 _ O) (Gs 1 O (zlo O tg3 (hB_c.cells 3 _ O) (G.call O Tryz.call146 (qv x.low x.high _) ?_))))
       rintro _ wz4 ⟨rfl, hz4⟩
       obtain ⟨hvs, hL1, hc_x, hB_c⟩ := Tr4 hz4 hvs hL1 hc_x hB_c
       refine zlk O O (zkO O (by first | exact zb | rfl)) (Gs 3 O (G.bool O (fun n3 => ?_) (fun n3 => ?_)))
       ·
        have n3' : zbh x.low x.high = false := by simpa using n3
        refine Gs 16 O (zjG tr115 O ⟨_, rfl, by rw [hbad 3 (by rw [zS, znn n0', znn n1, znn n2, zno n3']) (by decide)], hL1⟩)
       ·
        have n3' : ¬ zbh x.low x.high = false := by simpa using n3
        have b4 : x.kind = 0 /\ (x.init < x.low \/ x.high < x.init) \/ x.kind ≠ 0 /\ x.init ≠ 0 -> zx vs = 3 := fun h => hbad 3 (by rw [zS, znn n0', znn n1, znn n2, znn n3', zno h]) (by decide)
        have g4 : ¬ (x.kind = 0 /\ (x.init < x.low \/ x.high < x.init) \/ x.kind ≠ 0 /\ x.init ≠ 0) -> zS (vs.take i) x = 0 := fun h => by rw [zS, znn n0', znn n1, znn n2, znn n3', znn h]
        refine Gs 3 O (zlo O tg53 (hB_c.cells 1 _ O) (Gs 2 O (zlf 48 O (fun kk => ?_) (fun kk => ?_))))
        ·
         refine Gs 1 O (zlo O tg3 (hB_c.cells 4 _ O) (Gs 5 O (zjm O (fun i2 => ?_) (fun i2 => ?_))))
         . refine Gs 16 O (zjG tr115 O ⟨_, rfl, by rw [b4 (by omega)], hL1⟩)
         ·
          refine Gs 2 O (zlo O tg53 (hB_c.cells 1 _ O) (Gs 2 O (zlf 56 O (fun k0' => ?_) (fun k0' => ?_))))
          . exact absurd k0' kk
          . refine Ga 25 O (by omega) (zjx (i + 1) (zl4 O) (⟨by omega, hnext (g4 (by omega)), hL1⟩) (by first | omega | (dsimp only; omega)))
        ·
         refine Gs 10 O (zlo O tg53 (hB_c.cells 1 _ O) (Gs 2 O (zlf 56 O (fun k0' => ?_) (fun k0' => ?_))))
         ·
          refine Gs 1 O (zlo O tg3 (hB_c.cells 4 _ O) (Gs 1 O (zlo O tg3 (hB_c.cells 2 _ O) (Gs 2 O (zlf 62 O (fun i0 => ?_) (fun i0 => ?_))))))
          . refine Gs 24 O (zjG tr115 O ⟨_, rfl, by rw [b4 (by omega)], hL1⟩)
          ·
           refine Gs 1 O (zlo O tg3 (hB_c.cells 4 _ O) (Gs 1 O (zlo O tg3 (hB_c.cells 3 _ O) (Gs 6 O (zjm O (fun i1 => ?_) (fun i1 => ?_))))))
           . refine Gs 13 O (zjG tr115 O ⟨_, rfl, by rw [b4 (by omega)], hL1⟩)
           . refine Ga 8 O (by omega) (zjx (i + 1) (zl4 O) (⟨by omega, hnext (g4 (by omega)), hL1⟩) (by first | omega | (dsimp only; omega)))
         . exact absurd k0' kk
  ·
   have hii : i = vs.length := by omega
   subst hii
   refine Gs 4 O (zjC (()) (zl4 O) (⟨hall, hL1⟩))
 rintro u w2 ⟨hall, hX⟩
 replace hvs := Tr1 hX hvs
 have hg := qc hall
 have hz := jb hall
 have hgo : ∀ v ∈ vs, ym (v.low, v.high) := fun v hv => (hg v hv).1
 have hv : zx vs = if xD vs then 4 else 0 := by rw [zx, znn (by simp [hz])]
 refine Gs 4 O (G.mem O O (M.buildSlice (cs := [.int .i64 1, .int .i64 2, .int .i64 3]) [(0, _), (1, _), (2, _)] Tryz.runUnderlying186 ts53 Tryz.zeroValue53 (by decide) O (by kernel_rfl)) ?_)
 rintro _ w3 ⟨b3, rfl, hg_b3, hs_b3, hB_b3, hk_b3⟩
 obtain ⟨hvs, hX⟩ := Tr2 hk_b3 hvs hX
 have hBe : Blk w3 b3 (((List.range 3).map (fun (j : Nat) => (j : Int) + 1)).map (.int .i64)) 53 := hB_b3
 refine Gs 5 O (G.loop (σ := Nat) (fun k => [(0, .slice av vs.length nv), (71, .slice (some ⟨b3, 0, none⟩) 3 3), (72, .int .i64 3), (73, .int .i64 k)]) (fun k => fun w' => k <= 3 /\ (∀ j, j < k -> ∃ n, zn ((j : Int) + 1) vs = some n /\ (j = 2 -> n <= 256)) /\ Ext w3 w') (fun k => 3 - k) (0) (zl4 O) (⟨zns _, fun j h => absurd h (Nat.not_lt_zero _), Keep.refl _ _⟩) ?_)
 rintro k w4 ⟨hk, hall2, hL2⟩
 obtain ⟨hvs, hX, hB_b3, hBe⟩ := Tr4 hL2 hvs hX hB_b3 hBe
 refine Gs 6 O (zjm O (fun hlt => ?_) (fun hlt => ?_))
 ·
  have hkx : ((List.range 3).map (fun (j : Nat) => (j : Int) + 1))[k]? = some ((k : Int) + 1) := by
   rw [znu, List.getElem?_range (by omega)]; rfl
  have hbadk : (zn ((k : Int) + 1) vs = none \/ ∃ n, zn ((k : Int) + 1) vs = some n /\ k = 2 /\ 256 < n) -> zx vs = 4 := by
   intro h
   rw [hv]
   have : xD vs = true := by
    unfold xD
    rcases (show k = 0 \/ k = 1 \/ k = 2 by omega) with rfl | rfl | rfl
    ·
     rcases h with h | ⟨n, h, h2, _⟩
     . simp at h; simp [h]
     . omega
    ·
     rcases h with h | ⟨n, h, h2, _⟩
     . simp at h; simp [h]
     . omega
    ·
     rcases h with h | ⟨n, h, _, h3⟩
     . simp at h; simp [h]
     . simp at h; simp [h, h3]
   rw [this]; rfl
  refine Ga 7 O (by omega) (zlo O tg53 (hBe.cells.el1 k O (by rw [znu, hkx]; rfl)) ?_)
  refine Gs 7 O (G.call O Tryz.call62 (qy vs ((k : Int) + 1) _ D _ (by omega) hgo hvs hlen) ?_)
  rintro _ wz5 ⟨rfl, hz5⟩
  obtain ⟨hvs, hX, hB_b3, hBe, hL2⟩ := Tr5 hz5 hvs hX hB_b3 hBe hL2
  refine Gs 12 O ?_
  have hstep : (∃ n, zn ((k : Int) + 1) vs = some n /\ (k = 2 -> n <= 256)) -> ∀ j, j < k + 1 -> ∃ n, zn ((j : Int) + 1) vs = some n /\ (j = 2 -> n <= 256) := by
   intro h j hj
   by_cases e : j = k
   . subst e; exact h
   . exact hall2 j (by omega)
  rcases hs : zn ((k : Int) + 1) vs with _ | n
  ·
   refine zlf 85 O (fun c0 => ?_) (fun c0 => ?_)
   . refine Gs 21 O (zjG tr115 O ⟨_, rfl, by rw [hbadk (.inl hs)], hX⟩)
   . exact absurd (by decide) c0
  ·
   refine zlf 85 O (fun c0 => ?_) (fun c0 => ?_)
   . exact absurd c0 (by simp)
   ·
    refine Gs 3 O (zlf 88 O (fun k3 => ?_) (fun k3 => ?_))
    ·
     refine Gs 6 O (zjm O (fun n3 => ?_) (fun n3 => ?_))
     ·
      have n3' : (256 : Int) < n := n3
      refine Gs 11 O (zjG tr115 O ⟨_, rfl, by rw [hbadk (.inr ⟨n, hs, by omega, n3'⟩)], hX⟩)
     ·
      have n3' : ¬ (256 : Int) < n := n3
      refine Ga 7 O (by omega) (zjx (k + 1) (zl4 O) (⟨by omega, hstep ⟨n, hs, fun _ => by omega⟩, hL2⟩) (by first | omega | (dsimp only; omega)))
    . refine Ga 14 O (by omega) (zjx (k + 1) (zl4 O) (⟨by omega, hstep ⟨n, hs, fun h => absurd (by omega) k3⟩, hL2⟩) (by first | omega | (dsimp only; omega)))
 ·
  have hk3 : k = 3 := by omega
  subst hk3
  obtain ⟨n1, h1, _⟩ := hall2 0 (by omega)
  obtain ⟨n2, h2, _⟩ := hall2 1 (by omega)
  obtain ⟨n3, h3, h4⟩ := hall2 2 (by omega)
  have hsb : xD vs = false := by
   simp at h1 h2 h3
   unfold xD
   simp [h1, h2, h3]
   exact h4 O
  rw [hsb] at hv
  refine Gs 11 O (zjG tr115 O ⟨_, rfl, by rw [hv]; rfl, hX⟩)
def plainB (t : Tm) : Bool := decide (t.op = 0) && decide (t.n = 0) && decide (t.kids.length = 0)
theorem zct (t : Tm) (cs : List Value) (D : Nat -> Prop) (w : World) (ht : RTm D w t cs) : Calls Tryz.prog 202 #[.agg cs.toArray] w (Ret fun r w' => r = .bool (plainB t) /\ Ext w w') := by
 obtain ⟨v, rfl, hk⟩ := ht.get
 obtain ⟨ao, cap, rfl⟩ := hk.form
 have hE := Keep.refl (fun _ => False) w
 refine zlt Tryz.func202 O Tryz.ntmps202 O (Gs 2 O (G.mem O O (M.box O O) ?_))
 rintro _ w_b ⟨b, rfl, hg_b, hs_b, hB_b, hk_b⟩
 have hge_b : _ <= b := znj hE.size (Nat.le_of_eq hg_b.symm)
 replace hE := Tr1 hk_b hE
 refine Gs 6 O (zlo O tg83 (hB_b.cells 0 _ O) (Gs 2 O (zlf 6 O (fun hh1 => ?_) (fun hh1 => ?_))))
 ·
  refine Gs 1 O (zlo O tg3 (hB_b.cells 1 _ O) (Gs 3 O (zlf 11 O (fun hh2 => ?_) (fun hh2 => ?_))))
  . refine Gs 1 O (zlo O tg84 (hB_b.cells 2 _ O) (Gs 7 O (zjG Tryz.results202 O ⟨_, rfl, by simp [plainB, *], hE⟩)))
  . refine Gs 9 O (zjG Tryz.results202 O ⟨_, rfl, by simp [plainB, *], hE⟩)
 . refine Gs 14 O (zjG Tryz.results202 O ⟨_, rfl, by simp [plainB, *], hE⟩)
@[irreducible] def uvB (a : Int) : Bool := decide (a = 0 \/ a = 5)
@[irreducible] def unB (a : Int) : Bool := decide (a = 4 \/ a = 5)
@[irreducible] def utB (a : Int) : Bool := decide (a = 0 \/ a = 1 \/ a = 3 \/ a = 4)
theorem ju (a : Int) (w : World) : Calls Tryz.prog 199 #[.int .i64 a] w (Ret fun r w' => r = .bool (uvB a) /\ Ext w w') := by
 refine zlt Tryz.func199 O Tryz.ntmps199 O (Gs 10 O (zlf 5 O (fun hh1 => ?_) (fun hh1 => ?_)))
 . refine Gs 7 O (zjG Tryz.results199 O ⟨_, rfl, by unfold uvB; simp [*], Keep.refl _ _⟩)
 . refine Gs 7 O (zjG Tryz.results199 O ⟨_, rfl, by unfold uvB; simp [*], Keep.refl _ _⟩)
theorem zfX (a : Int) (w : World) : Calls Tryz.prog 200 #[.int .i64 a] w (Ret fun r w' => r = .bool (unB a) /\ Ext w w') := by
 refine zlt Tryz.func200 O Tryz.ntmps200 O (Gs 10 O (zlf 5 O (fun hh1 => ?_) (fun hh1 => ?_)))
 . refine Gs 7 O (zjG Tryz.results200 O ⟨_, rfl, by unfold unB; simp [*], Keep.refl _ _⟩)
 . refine Gs 7 O (zjG Tryz.results200 O ⟨_, rfl, by unfold unB; simp [*], Keep.refl _ _⟩)
theorem zcu (a : Int) (w : World) : Calls Tryz.prog 201 #[.int .i64 a] w (Ret fun r w' => r = .bool (utB a) /\ Ext w w') := by
 refine zlt Tryz.func201 O Tryz.ntmps201 O (Gs 10 O (zlf 5 O (fun hh1 => ?_) (fun hh1 => ?_)))
 . refine Gs 15 O (zjG tr201 O ⟨_, rfl, by unfold utB; simp [*], Keep.refl _ _⟩)
 ·
  refine Gs 4 O (zlf 9 O (fun hh2 => ?_) (fun hh2 => ?_))
  . refine Gs 11 O (zjG tr201 O ⟨_, rfl, by unfold utB; simp [*], Keep.refl _ _⟩)
  ·
   refine Gs 4 O (zlf 13 O (fun hh3 => ?_) (fun hh3 => ?_))
   . refine Gs 7 O (zjG tr201 O ⟨_, rfl, by unfold utB; simp [*], Keep.refl _ _⟩)
   . refine Gs 7 O (zjG tr201 O ⟨_, rfl, by unfold utB; simp [*], Keep.refl _ _⟩)
def xc : List Int -> Bool
 | x :: y :: r => decide (x < y) && xc (y :: r)
 | _ => true
theorem xE : ∀ l : List Int, xc l = true ↔ ∀ i x y, l[i]? = some x -> l[i + 1]? = some y -> x < y
 | [] => by simp [xc]
 | [a] => by simp [xc]
 | a :: b :: r => by
  simp only [xc, Bool.and_eq_true, decide_eq_true_eq, xE (b :: r)]
  constructor
  ·
   rintro ⟨h1, h2⟩ i x y hx hy
   cases i with
   | zero => simp at hx hy; subst hx; subst hy; exact h1
   | succ i => exact h2 i x y (by simpa using hx) (by simpa using hy)
  ·
   intro h
   exact ⟨h 0 a b O rfl, fun i x y hx hy => h (i + 1) x y (by simpa using hx) (by simpa using hy)⟩
theorem zaS (l : List Int) (v : Value) (D : Nat -> Prop) (w : World) (hl : SlR 1 zt D w v l) : Calls Tryz.prog 203 #[v] w (Ret fun r w' => r = .bool (xc l) /\ Ext w w') := by
 have hmx := hl.max
 obtain ⟨al, nl, rfl⟩ := hl.form
 refine zlt Tryz.func203 O Tryz.ntmps203 O (Gs 14 O (G.loop (σ := Nat) (fun i => [(0, .slice al l.length nl), (5, .int .i64 l.length), (6, .int .i64 i)]) (fun i => fun w' => i <= l.length /\ (∀ j x y, j + 1 < i -> l[j]? = some x -> l[j + 1]? = some y -> x < y) /\ Ext w w') (fun i => l.length - i) (0) (zl4 O) (⟨zns _, fun j x y h => absurd h (Nat.not_lt_zero _), Keep.refl _ _⟩) ?_))
 rintro i w1 ⟨hi, hall, hL1⟩
 replace hl := Tr1 hL1 hl
 refine Gs 6 O (zjm O (fun hlt => ?_) (fun hlt => ?_))
 ·
  refine Gs 11 O (Qt (by kernel_rfl) (Gs 3 O (zlf 11 O (fun h0 => ?_) (fun h0 => ?_))))
  ·
   obtain ⟨k, rfl⟩ : ∃ k, i = k + 1 := ⟨i - 1, by omega⟩
   obtain ⟨x, hx⟩ : ∃ x, l[k]? = some x := ⟨_, znd (by omega)⟩
   obtain ⟨y, hy⟩ : ∃ y, l[k + 1]? = some y := ⟨_, znd (by omega)⟩
   obtain ⟨b_ey, o_ey, c_ey, ha_ey, _, hc_ey, hR_ey⟩ := hl.at (hy)
   obtain rfl := hR_ey
   have hlt_ey : b_ey < _ := znf _ _ (hc_ey 0 _ rfl)
   obtain ⟨b_x, o_x, c_x, ha_x, _, hc_x, hR_x⟩ := hl.at hx
   obtain rfl := hR_x
   have hto : (((k + 1 : Nat) : Int) - 1).toNat = k := by omega
   refine Gs 2 O (zln O O (fun w1 hw1 => zk5 tR27 ts3 O O ha_ey (by omega)) (zlp O tg3 (fun w1 hw1 => ((hw1.cells hc_ey (fun h => h)) 0 _ O)) (Ga 3 O (by omega) (zln O O (fun w1 hw1 => zk5 tR27 ts3 O O ha_x (by omega)) (zlp O tg3 (fun w1 hw1 => (by rw [hto]; exact (hw1.cells hc_x (fun h => h)) 0 _ O)) (Gs 2 O (zlr (fun wz1 hz1 => ?_))))))))
   obtain ⟨hl, hL1, hc_ey⟩ := Tr3 hz1 hl hL1 hc_ey
   refine Gs 1 O (zjm O (fun hb => ?_) (fun hb => ?_))
   ·
    refine Gs 11 O ?_
    have hno : xc l = false := by rw [Bool.eq_false_iff]; intro h; have := (xE l).1 h k x y hx hy; omega
    refine zjG Tryz.results203 O ⟨_, rfl, by rw [hno], hL1⟩
   ·
    refine Ga 7 O (by omega) (zjx (k + 1 + 1) (zl4 O) (⟨by omega, ?_, hL1⟩) (by first | omega | (dsimp only; omega)))
    intro j x' y' hj hx' hy'
    by_cases e : j = k
    ·
     subst e
     rw [hx] at hx'; cases hx'
     rw [hy] at hy'; cases hy'
     omega
    . exact hall j x' y' (by omega) hx' hy'
  ·
   have hi0 : i = 0 := by omega
   subst hi0
   refine Gs 11 O (zlr (fun wz2 hz2 => ?_))
   obtain ⟨hl, hL1⟩ := Tr2 hz2 hl hL1
   refine Ga 9 O (by omega) (zjx (1) (zl4 O) (⟨by omega, fun j x y h => by omega, hL1⟩) (by first | omega | (dsimp only; omega)))
 ·
  refine Gs 11 O ?_
  have hyes : xc l = true := (xE l).2 (fun j x y hx hy => hall j x y (by have := (znr.1 hy).1; omega) hx hy)
  refine zjG Tryz.results203 O ⟨_, rfl, by rw [hyes], hL1⟩
def xd (l : List Int) : Bool := decide (1 <= l.length) && decide (l.length <= 32) && decide ((0 : Int) <= l[0]?.getD 0) && xc l
end Go.Proofs.YtaenledoagbddaaGreatDoor
