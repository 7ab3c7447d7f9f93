/-
  Contracts and the mathematics that the proof needs. Nothing here is a claim.
-/
import Derived.Test.YtgojdedggmehiaaGreatKD1
namespace Go.GL
def pickE (env : Env) : List Nat → Option Env
 | [] => some []
 | k :: r => match get env k with
  | some v => (match pickE env r with
   | some l => some ((k, v) :: l)
   | none => none)
  | none => none
def pickH (H : Hp) : List Nat → Option Hp
 | [] => some []
 | k :: r => match hget H k with
  | some v => (match pickH H r with
   | some l => some ((k, v) :: l)
   | none => none)
  | none => none
def pickA (A : Tgs) : List Nat → Option Tgs
 | [] => some []
 | k :: r => match tgt A k with
  | some v => (match pickA A r with
   | some l => some ((k, some v) :: l)
   | none => none)
  | none => none
theorem pickH_has {H : Hp} : ∀ {ks : List Nat} {H' : Hp}, pickH H ks = some H' → Has H' H
 | [], H', h => by cases h; exact Has.nil
 | k :: r, H', h => by
  unfold pickH at h
  split at h
  ·
   rename_i v hv; split at h
   · rename_i l hl; cases h; exact Has.cons hv (pickH_has hl)
   cases h
  cases h
section
variable {P : Program} {T : Tab} {Z : Szs} {n : Fm} {Q : Exit → Act → World → Prop} {ks : List Fr} {pos : Pos} {env : Env} {A : Tgs} {H : Hp} {Bs : Bases} {ops : Array Oper} {v : Value}
theorem V.fr (k j : Nat) {w : World} {b o : Nat} {c : Value} {cs : List Value} (hn : (hget H k).isNone = true) (hp : Bs[j]? = some (w, fun _ => False)) (hc : Cells w b o (c :: cs)) (h : V P n Q ks pos env A ((k, .fro b o (c :: cs)) :: H) Bs) : V P n Q ks pos env A H Bs :=
 V.fro k (by simpa using hn) (List.mem_of_getElem? hp) (World.block_lt_of_cell? _ _ (hc 0 c rfl)) (fun h => h) hc h
theorem V.frS (k j : Nat) {w : World} {S : Nat → Prop} {b o : Nat} {c : Value} {cs : List Value} (hn : (hget H k).isNone = true) (hp : Bs[j]? = some (w, S)) (hS : ¬ S b) (hc : Cells w b o (c :: cs)) (h : V P n Q ks pos env A ((k, .fro b o (c :: cs)) :: H) Bs) : V P n Q ks pos env A H Bs :=
 V.fro k (by simpa using hn) (List.mem_of_getElem? hp) (World.block_lt_of_cell? _ _ (hc 0 c rfl)) hS hc h
theorem V.elS {α : Type} {kk : Nat} {R : Rel α} {D S : Nat → Prop} {ao : Option Addr} {m cap : Nat} {l : List α} {w : World} (k j i : Nat) (hi : i < l.length) (hl : SlR kk R D w (.slice ao m cap) l) (hn : (hget H k).isNone = true) (hp : Bs[j]? = some (w, S)) (hk : Nat.blt 0 kk = true) (hS : ∀ b, D b → S b → False)
  (h : ∀ x b o cs, l[i]? = some x → x ∈ l → ao = some ⟨b, o, none⟩ → D b → R D w x cs → V P n Q ks pos env A ((k, .fro b (o + i * kk) cs) :: H) Bs) : V P n Q ks pos env A H Bs := by
 obtain ⟨x, hx⟩ : ∃ x, l[i]? = some x := ⟨_, List.getElem?_eq_getElem hi⟩
 obtain ⟨ao', cap', h1, h2, h3, h4⟩ := hl
 cases h1
 obtain ⟨b, o, cs, h5, h6, h7, h8, h9⟩ := h4 i x hx
 have h0 := h x b o cs hx (List.mem_of_getElem? hx) h5 h6 h9
 match cs, h7 with
 | [], h7 => rw [← h7] at hk; cases hk
 | c :: cs, _ => exact V.frS k j hn hp (hS b h6) h8 h0
theorem V.elG {α : Type} {kk : Nat} {R : Rel α} {D : Nat → Prop} {ao : Option Addr} {m cap : Nat} {l : List α} {w : World} (k j i : Nat) (hi : i < l.length) (hl : SlR kk R D w (.slice ao m cap) l) (hn : (hget H k).isNone = true) (hp : Bs[j]? = some (w, fun _ => False)) (hk : Nat.blt 0 kk = true)
  (h : ∀ x b o cs, l[i]? = some x → x ∈ l → ao = some ⟨b, o, none⟩ → R D w x cs → V P n Q ks pos env A ((k, .fro b (o + i * kk) cs) :: H) Bs) : V P n Q ks pos env A H Bs :=
 V.elS k j i hi hl hn hp hk (fun _ _ h => h) fun x b o cs h1 h2 h3 _ h5 => h x b o cs h1 h2 h3 h5
theorem V.elI {D : Nat → Prop} {ao : Option Addr} {m cap : Nat} {l : List Int} {w : World} (k j i : Nat) (hi : i < l.length) (hl : SlR 1 RInt D w (.slice ao m cap) l) (hn : (hget H k).isNone = true) (hp : Bs[j]? = some (w, fun _ => False))
  (h : ∀ x b o, l[i]? = some x → x ∈ l → ao = some ⟨b, o, none⟩ → V P n Q ks pos env A ((k, .fro b (o + i * 1) [.int .i64 x]) :: H) Bs) : V P n Q ks pos env A H Bs :=
 V.elG k j i hi hl hn hp rfl fun x b o cs h1 h2 h3 h5 => by
  obtain rfl : cs = [.int .i64 x] := h5
  exact h x b o h1 h2 h3
theorem V.dat {α : Type} {kk : Nat} {R : Rel α} [Dt R] {D : Nat → Prop} {l : List α} (k j : Nat) {w0 : World} {S : Nat → Prop} (hn : (hget H k).isNone = true) (hp : Bs[j]? = some (w0, S)) (hk : Nat.blt 0 kk = true) (hd : SlR kk R D w0 v l) (hS : ∀ b, D b → b < w0.heap.size → ¬ S b)
  (h : V P n Q ks pos env A ((k, .dat (fun b => D b ∧ b < w0.heap.size) (fun w => SlR kk R (fun b => D b ∧ b < w0.heap.size) w v l)) :: H) Bs) : V P n Q ks pos env A H Bs :=
 fun hA w' hI => h (hA.new (by simpa using hn)) w' (by
  have h1 := hI.dat k (p := (w0, S)) (List.mem_of_getElem? hp) (show 0 < kk by simpa [Nat.blt_eq] using hk) hd hS
  exact h1)
theorem V.heq (k : Nat) {e e' : HE} (hg : hget H k = some e) (he : e = e') (h : V P n Q ks pos env A (hset H k e') Bs) : V P n Q ks pos env A H Bs := by
 subst he
 intro hA w hI
 have hh : ∀ (H : Hp), hget H k = some e → hset H k e = H := by
  intro H
  induction H with
  | nil => intro h; cases h
  | cons x r ih =>
   obtain ⟨k', e'⟩ := x
   intro h
   simp only [hget] at h
   simp only [hset]
   cases hb : Nat.beq k' k with
   | true => rw [hb] at h; cases h; rfl
   | false => rw [hb] at h; simp only [cond_false]; rw [ih h]
 rw [hh H hg] at h
 exact h hA w hI
theorem V.loopK {σ : Type} (es hs ts : List Nat) {E1 : Env} {H1 : Hp} {A1 : Tgs} (_hp : (pickE env es, pickH H hs, pickA A ts) = (some E1, some H1, some A1)) (env' : Env → σ → Env) (H' : Hp → σ → Hp) (I : σ → Prop) (μ : σ → Nat) {c : Code} (s₀ : σ) (h₀ : Sub (env' E1 s₀) env) (hH : Has (H' H1 s₀) H) (hu : ∀ s, uniq ((H' H1 s).map (·.1)) = true)
  (hA' : ∀ s, A1.map (fun p => pval (env' E1 s) p.1) = A1.map (fun p => qval (H' H1 s) p.2)) (hA2 : ∀ s, A1.all (fun p => (qval (H' H1 s) p.2).isSome) = true) (hI : I s₀)
  (h : ∀ s, I s → V P n Q (.k (Back n (env' E1) (fun s w => I s ∧ VI Bs (H' H1 s) w) μ (μ s)) :: ks) (.c c) (env' E1 s) A1 (H' H1 s) Bs) : V P n Q ks (.c (.loop c)) env A H Bs :=
 V.loop (env' E1) A1 (H' H1) I μ s₀ h₀ hH hu (fun s => ⟨hA' s, hA2 s⟩) hI h
theorem V.cutK {σ : Type} (es hs ts : List Nat) {E1 : Env} {H1 : Hp} {A1 : Tgs} (_hp : (pickE env es, pickH H hs, pickA A ts) = (some E1, some H1, some A1)) (env' : Env → σ → Env) (H' : Hp → σ → Hp) (I : σ → Prop) {c : Code}
  (hA' : ∀ s, A1.map (fun p => pval (env' E1 s) p.1) = A1.map (fun p => qval (H' H1 s) p.2)) (hA2 : ∀ s, A1.all (fun p => (qval (H' H1 s) p.2).isSome) = true)
  (h : V P n Q (.k (Meet n (env' E1) (fun s w => I s ∧ VI Bs (H' H1 s) w)) :: ks) (.c c) env A H Bs) (hk : ∀ s, I s → V P n Q ks (.e .normal) (env' E1 s) A1 (H' H1 s) Bs) : V P n Q ks (.c c) env A H Bs :=
 V.cut (env' E1) A1 (H' H1) I (fun s => ⟨hA' s, hA2 s⟩) h hk
theorem V.drawK {id : Nat} {l : List Oper} (hs L : List Nat) {Hs : Hp} (hm : P.follows .mixedOrders = true) (hp : pickH H hs = some Hs) (h : VD P n Q ks l.toArray Hs Bs L l.length (Array.replicate l.length false) env A H Bs) : V P n Q ks (.c (.region id l.toArray true)) env A H Bs := V.draw Hs L hm (pickH_has hp) h
end
def appO : List Value → List Value → Option (List Value)
 | [], l => some l
 | u :: us, l => match appO us l with
  | some r => some (u :: r)
  | none => none
def cellsAll : List Value → Option (List Value)
 | [] => some []
 | v :: r => match cellsE v with
  | some us => (match cellsAll r with
   | some l => appO us l
   | none => none)
  | none => none
def cellsW : Value → List Value
 | .agg ⟨l⟩ => l
 | v => [v]
def fillE (places : List (Nat × Nat)) : List Value → List (Nat × Value) → Option (List Value)
 | cs, [] => some cs
 | cs, (i, v) :: r => match nth places i with
  | some (off, _) => (match wrE (cellsW v) off cs with
   | some cs' => fillE places cs' r
   | none => none)
  | none => none
section
variable {P : Program} {T : Tab} {Z : Szs} {n : Fm} {Q : Exit → Act → World → Prop} {ks : List Fr} {pos : Pos} {env : Env} {A : Tgs} {H Hs : Hp} {Bs B0 : Bases} {ops : Array Oper} {rest : List Oper} {v : Value} {L : List Nat} {fuel : Nat} {listed : Array Bool}
variable {d : Nat} {op : Op} {ty : TypeId} {ps : String} {aft : Array Edge} {g : Option (Nat × Bool)}
theorem V.bs (k : Nat) {t e : TypeId} {len kk : Nat} {parts : Array (Nat × Operand)} {z : Value} {cs : List Value} (vs : List (Nat × Value)) (hu : ∀ w, (underlying t).run P w = .ok (.slice e) w) (hs : ∀ w, (sizeOf e).run P w = .ok kk w) (hz : ∀ w, (zeroValue e).run P w = .ok z w)
  (hlen : len * kk ≠ 0 ∧ len * kk ≤ 16777216) (hn : (Nat.blt d n, gd ops env g, (hget H k).isNone, parts.toList.map (fun p => (p.1, ev env p.2))) = (true, some true, true, vs.map (fun p => (p.1, some p.2)))) (_hcs : cellsAll (vs.map (·.2)) = some cs) (hf : Instr.fill (fun i => some (i * kk, kk)) ((Array.range (len * kk)).map (z.cells[· % z.cells.size]!)) vs = some cs.toArray)
  (h : ∀ b, V P n Q ks (.o ops rest) ((d, .slice (some ⟨b, 0, none⟩) len len) :: env) ((d, none) :: A) ((k, .own b cs e) :: H) Bs) : V P n Q ks (.o ops (⟨some d, .buildSlice t len parts, ty, ps, aft, g⟩ :: rest)) env A H Bs := by
 simp only [Prod.mk.injEq] at hn
 exact V.newB k (u := fun b => .slice (some ⟨b, 0, none⟩) len len) (by rw [hn.1, hn.2.1, hn.2.2.1]) (fun _ _ => M.buildSlice vs hu hs hz hlen hn.2.2.2 hf) h
theorem V.apS {α : Type} {R : Rel α} (k : Nat) {t e : TypeId} {kk by' : Nat} {z : Value} {x y : Operand} {m : Nat} {xs : List Value} {vy : Value} {l : List α} (enc : α → List Value) (hc : ∀ x, (enc x).length = kk) (h1 : ∀ x, ∀ u ∈ enc x, u.oneCell' = true) (hR : ∀ D w x cs, R D w x cs → cs = enc x)
  (hu : P.underlying t = some (.slice e)) (he : (P.info? e).map (fun i => (i.zero, i.size, i.bytes)) = some (some z, kk, by')) (hzs : z.cells.size = kk) (hk0 : 0 < kk) (hn : (Nat.blt d n, gd ops env g, hget H k, ev env x, ev env y) = (true, some true, some (.row e kk v m xs), some v, some vy))
  (hsl : ∀ w, VI Bs H w → ∃ D, SlR kk R D w vy l) (hmax : m + l.length ≤ 9223372036854775807) (hby : (m + l.length) * by' ≤ 140737488355328)
  (h : ∀ u, V P n Q ks (.o ops rest) ((d, u) :: env) ((d, none) :: A) (hset H k (.row e kk u (m + l.length) (xs ++ l.flatMap enc))) Bs) : V P n Q ks (.o ops (⟨some d, .call ⟨.builtin .append, #[x, y], #[t, t]⟩, ty, ps, aft, g⟩ :: rest)) env A H Bs := by
 simp only [Prod.mk.injEq] at hn
 obtain ⟨h2, h3, h4, h5, h6⟩ := hn
 intro hA w hI
 obtain ⟨D, hsl⟩ := hsl w hI
 refine G.mem h2 h3 (M.appendL enc hc h1 (fun x cs => hR D w x cs) hu he hzs hk0 h5 h6 hsl (hI.at k h4) hmax hby) ?_
 rintro u w' ⟨ho, hf, hk⟩
 refine h u (TgOk.none (hA.res h4 ?_)) w' (hI.set h4 hk ho trivial (fun _ h => h) (fun q hq => ⟨?_, own_lt ho hq⟩))
 · simp [hadr, h4]
 rcases hf with hf | ⟨g', hf, hg'⟩
 · exact .inl (by show v.ownBlock = some q; rw [← hf]; exact hq)
 have hq : u.ownBlock = some q := hq
 rw [hf] at hq; cases hq; exact .inr hg'
theorem V.bs0 (k : Nat) {t e : TypeId} {kk : Nat} (hu : ∀ w, (underlying t).run P w = .ok (.slice e) w) (hs : ∀ w, (sizeOf e).run P w = .ok kk w) (hn : (Nat.blt d n, gd ops env g, (hget H k).isNone) = (true, some true, true))
  (h : ∀ b, V P n Q ks (.o ops rest) ((d, .slice (some ⟨b, 0, none⟩) 0 0) :: env) ((d, none) :: A) ((k, .row e kk (.slice (some ⟨b, 0, none⟩) 0 0) 0 []) :: H) Bs) : V P n Q ks (.o ops (⟨some d, .buildSlice t 0 #[], ty, ps, aft, g⟩ :: rest)) env A H Bs := by
 simp only [Prod.mk.injEq, Option.isNone_iff_eq_none] at hn
 refine fun hA w hI => G.mem hn.1 hn.2.1 (M.buildSlice0 hu hs) ?_
 rintro _ w' ⟨b, rfl, hb, hsz, hB, hk⟩
 refine h b (TgOk.none (hA.new hn.2.2)) w' (hI.new hk k ?_ trivial (fun _ h => h) (fun q hq => ?_))
 ·
  have := own_blk (k := kk) (n := 0) (cap := 0) hB (Nat.le_refl _) (by omega) (by simp)
  show w'.ownsRow 0 e kk _ 0 []
  simpa using this
 have hq : some b = some q := hq
 cases hq
 omega
theorem V.bld {t : TypeId} {parts : Array (Nat × Operand)} {l : List Value} (zs : List Value) (places : List (Nat × Nat)) (vs : List (Nat × Value)) (hn : (Nat.blt d n, gd ops env g, parts.toList.map (fun p => (p.1, ev env p.2))) = (true, some true, vs.map (fun p => (p.1, some p.2)))) (_hl : fillE places zs vs = some l) (hb : ∀ w, (Instr.build t vs.toArray).run P w = .ok (.agg l.toArray) w)
  (h : V P n Q ks (.o ops rest) ((d, .agg l.toArray) :: env) ((d, none) :: A) H Bs) : V P n Q ks (.o ops (⟨some d, .build t parts, ty, ps, aft, g⟩ :: rest)) env A H Bs := by
 simp only [Prod.mk.injEq] at hn
 exact V.ops1 (by rw [hn.1, hn.2.1]) (fun _ _ => R.build vs hn.2.2 hb) h
theorem VD.pl (i : Nat) (hi : ops[i]? = some ⟨some d, op, ty, ps, aft, g⟩) (hc : dchk ops [i] listed = true) (hn : (Nat.blt d n, gd ops env g) = (true, some true)) (hr : ∀ w, Runs P ⟨some d, op, ty, ps, aft, g⟩ env w v w)
  (h : VD P n Q ks ops Hs B0 L fuel (listed.setIfInBounds i true) ((d, v) :: env) ((d, none) :: A) H Bs) : VD P n Q ks ops Hs B0 L (fuel + 1) listed env A H Bs := by
 simp only [Prod.mk.injEq] at hn
 unfold dchk at hc
 rw [Bool.and_eq_true] at hc
 exact fun hH hA w hI => WD.takeP i hi hc.1 rfl hn.1 (.inl ⟨gd_ok hn.2, fun w' nn a haa => hr w' nn a haa⟩) (h hH hA.none w hI)
theorem VD.bld (i : Nat) {t : TypeId} {parts : Array (Nat × Operand)} {l : List Value} (zs : List Value) (places : List (Nat × Nat)) (vs : List (Nat × Value)) (hi : ops[i]? = some ⟨some d, .build t parts, ty, ps, aft, g⟩) (hc : dchk ops [i] listed = true) (hn : (Nat.blt d n, gd ops env g, parts.toList.map (fun p => (p.1, ev env p.2))) = (true, some true, vs.map (fun p => (p.1, some p.2)))) (_hl : fillE places zs vs = some l) (hb : ∀ w, (Instr.build t vs.toArray).run P w = .ok (.agg l.toArray) w)
  (h : VD P n Q ks ops Hs B0 L fuel (listed.setIfInBounds i true) ((d, .agg l.toArray) :: env) ((d, none) :: A) H Bs) : VD P n Q ks ops Hs B0 L (fuel + 1) listed env A H Bs := by
 simp only [Prod.mk.injEq] at hn
 exact VD.pl i hi hc (by rw [hn.1, hn.2.1]) (fun _ => R.build vs hn.2.2 hb) h
theorem VD.bs (i k j : Nat) {t e : TypeId} {len kk : Nat} {parts : Array (Nat × Operand)} {z : Value} {cs : List Value} (vs : List (Nat × Value)) (hu : ∀ w, (underlying t).run P w = .ok (.slice e) w) (hs : ∀ w, (sizeOf e).run P w = .ok kk w) (hz : ∀ w, (zeroValue e).run P w = .ok z w)
  (hlen : len * kk ≠ 0 ∧ len * kk ≤ 16777216) (hi : ops[i]? = some ⟨some d, .buildSlice t len parts, ty, ps, aft, g⟩) (hr : Region.ready .any ops listed = [i]) (hn : (Nat.blt d n, gd ops env g, (hget H k).isNone, uniq (Hs.map (·.1)), parts.toList.map (fun p => (p.1, ev env p.2)), Bs.drop j) = (true, some true, true, true, vs.map (fun p => (p.1, some p.2)), B0)) (_hcs : cellsAll (vs.map (·.2)) = some cs) (hf : Instr.fill (fun i => some (i * kk, kk)) ((Array.range (len * kk)).map (z.cells[· % z.cells.size]!)) vs = some cs.toArray)
  (h : ∀ b, VD P n Q ks ops Hs B0 L fuel (listed.setIfInBounds i true) ((d, .slice (some ⟨b, 0, none⟩) len len) :: env) ((d, none) :: A) ((k, .own b cs e) :: H) Bs) : VD P n Q ks ops Hs B0 L (fuel + 1) listed env A H Bs := by
 simp only [Prod.mk.injEq] at hn
 exact VD.newB i k j (u := fun b => .slice (some ⟨b, 0, none⟩) len len) hi hr (by rw [hn.1, hn.2.1, hn.2.2.1, hn.2.2.2.1]) hn.2.2.2.2.2 (fun _ _ => M.buildSlice vs hu hs hz hlen hn.2.2.2.2.1 hf) h
end
end Go.GL
namespace Go.Proofs
open Go.GL
def Tryz.szs : Szs := [(3, 0), (43, 2), (49, 0), (24, 0), (174, 2), (70, 3), (37, 2), (68, 0), (72, 10), (57, 0), (22, 0), (26, 3), (23, 0), (29, 0), (66, 0), (9, 0), (96, 5), (150, 0), (62, 0), (87, 6), (67, 0), (80, 0), (4, 0), (35, 0), (31, 1), (103, 3), (64, 4), (110, 0), (105, 0)]
theorem Tryz.szsOk : Szs.Ok Tryz.prog Tryz.szs :=
 Szs.ok_cons (show Szs.one _ 3 0 from ⟨Tryz.isAgg3, Tryz.sizeOf3⟩) <|
 Szs.ok_cons (show Szs.one _ 43 2 from ⟨Tryz.isAgg43, Tryz.sizeOf43⟩) <|
 Szs.ok_cons (show Szs.one _ 49 0 from ⟨Tryz.isAgg49, Tryz.sizeOf49⟩) <|
 Szs.ok_cons (show Szs.one _ 24 0 from ⟨Tryz.isAgg24, Tryz.sizeOf24⟩) <|
 Szs.ok_cons (show Szs.one _ 174 2 from ⟨Tryz.isAgg174, Tryz.sizeOf174⟩) <|
 Szs.ok_cons (show Szs.one _ 70 3 from ⟨Tryz.isAgg70, Tryz.sizeOf70⟩) <|
 Szs.ok_cons (show Szs.one _ 37 2 from ⟨Tryz.isAgg37, Tryz.sizeOf37⟩) <|
 Szs.ok_cons (show Szs.one _ 68 0 from ⟨Tryz.isAgg68, Tryz.sizeOf68⟩) <|
 Szs.ok_cons (show Szs.one _ 72 10 from ⟨Tryz.isAgg72, Tryz.sizeOf72⟩) <|
 Szs.ok_cons (show Szs.one _ 57 0 from ⟨Tryz.isAgg57, Tryz.sizeOf57⟩) <|
 Szs.ok_cons (show Szs.one _ 22 0 from ⟨Tryz.isAgg22, Tryz.sizeOf22⟩) <|
 Szs.ok_cons (show Szs.one _ 26 3 from ⟨Tryz.isAgg26, Tryz.sizeOf26⟩) <|
 Szs.ok_cons (show Szs.one _ 23 0 from ⟨Tryz.isAgg23, Tryz.sizeOf23⟩) <|
 Szs.ok_cons (show Szs.one _ 29 0 from ⟨Tryz.isAgg29, Tryz.sizeOf29⟩) <|
 Szs.ok_cons (show Szs.one _ 66 0 from ⟨Tryz.isAgg66, Tryz.sizeOf66⟩) <|
 Szs.ok_cons (show Szs.one _ 9 0 from ⟨Tryz.isAgg9, Tryz.sizeOf9⟩) <|
 Szs.ok_cons (show Szs.one _ 96 5 from ⟨Tryz.isAgg96, Tryz.sizeOf96⟩) <|
 Szs.ok_cons (show Szs.one _ 150 0 from ⟨Tryz.isAgg150, Tryz.sizeOf150⟩) <|
 Szs.ok_cons (show Szs.one _ 62 0 from ⟨Tryz.isAgg62, Tryz.sizeOf62⟩) <|
 Szs.ok_cons (show Szs.one _ 87 6 from ⟨Tryz.isAgg87, Tryz.sizeOf87⟩) <|
 Szs.ok_cons (show Szs.one _ 67 0 from ⟨Tryz.isAgg67, Tryz.sizeOf67⟩) <|
 Szs.ok_cons (show Szs.one _ 80 0 from ⟨Tryz.isAgg80, Tryz.sizeOf80⟩) <|
 Szs.ok_cons (show Szs.one _ 4 0 from ⟨Tryz.isAgg4, Tryz.sizeOf4⟩) <|
 Szs.ok_cons (show Szs.one _ 35 0 from ⟨Tryz.isAgg35, Tryz.sizeOf35⟩) <|
 Szs.ok_cons (show Szs.one _ 31 1 from ⟨Tryz.isAgg31, Tryz.sizeOf31⟩) <|
 Szs.ok_cons (show Szs.one _ 103 3 from ⟨Tryz.isAgg103, Tryz.sizeOf103⟩) <|
 Szs.ok_cons (show Szs.one _ 64 4 from ⟨Tryz.isAgg64, Tryz.sizeOf64⟩) <|
 Szs.ok_cons (show Szs.one _ 110 0 from ⟨Tryz.isAgg110, Tryz.sizeOf110⟩) <|
 Szs.ok_cons (show Szs.one _ 105 0 from ⟨Tryz.isAgg105, Tryz.sizeOf105⟩) <|
 Szs.ok_nil
end Go.Proofs
namespace Go.Proofs.YtgojdedggmehiaaGreat
open Go.GL
section
variable {n : Fm} {Q : Exit → Act → World → Prop} {ks ks' : List Fr} {pos pos' : Pos} {env env' : Env} {A A' : Tgs} {H H' Hs : Hp} {Bs B0 : Bases} {ops : Array Oper} {L : List Nat} {fuel : Nat} {listed : Array Bool} {v : Value}
theorem Vs (k : Nat) (h : stepV Tryz.tab Tryz.szs n k none ks pos env A H = some (none, ks', pos', env', A', H')) (hr : V Tryz.prog n Q ks' pos' env' A' H' Bs) : V Tryz.prog n Q ks pos env A H Bs := V.go Tryz.tabOk Tryz.szsOk k h hr
theorem Va (k : Nat) {p : Prop} (h : stepV Tryz.tab Tryz.szs n k none ks pos env A H = some (some p, ks', pos', env', A', H')) (hp : p) (hr : V Tryz.prog n Q ks' pos' env' A' H' Bs) : V Tryz.prog n Q ks pos env A H Bs := V.goA Tryz.tabOk Tryz.szsOk k h hp hr
theorem Vq {id : Nat} {l : List Oper} (hB : Region.lexB .any l.toArray = true) (h : V Tryz.prog n Q ks (.q l.toArray l) env A H Bs) : V Tryz.prog n Q ks (.c (.region id l.toArray true)) env A H Bs := V.quiet Tryz.mixed hB h
theorem Vw {id : Nat} {l : List Oper} (hs L : List Nat) (hp : pickH H hs = some Hs) (h : VD Tryz.prog n Q ks l.toArray Hs Bs L l.length (Array.replicate l.length false) env A H Bs) : V Tryz.prog n Q ks (.c (.region id l.toArray true)) env A H Bs := V.drawK hs L Tryz.mixed hp h
theorem Vd (is : List Nat) (j : Nat) (hc : dchkV ops L is listed = true) (hB : Bs.drop j = B0) (hv : dpvV Tryz.tab Tryz.szs n ops Hs is none env A = some (none, env', A')) (hH0 : uniq (Hs.map (·.1)) = true) (h : VD Tryz.prog n Q ks ops Hs B0 L fuel (dset is listed) env' A' H Bs) : VD Tryz.prog n Q ks ops Hs B0 L (addN is fuel) listed env A H Bs := VD.ps Tryz.tabOk Tryz.szsOk is j hc hB hv hH0 h
theorem Vb (is : List Nat) (j : Nat) {p : Prop} (hc : dchkV ops L is listed = true) (hB : Bs.drop j = B0) (hv : dpvV Tryz.tab Tryz.szs n ops Hs is none env A = some (some p, env', A')) (hH0 : uniq (Hs.map (·.1)) = true) (hp : p) (h : VD Tryz.prog n Q ks ops Hs B0 L fuel (dset is listed) env' A' H Bs) : VD Tryz.prog n Q ks ops Hs B0 L (addN is fuel) listed env A H Bs := VD.psA Tryz.tabOk Tryz.szsOk is j hc hB hv hH0 hp h
theorem Ve (i j : Nat) {t : TypeId} {x y : Operand} {ty : TypeId} {ps : String} {aft : Array Edge} {g : Option (Nat × Bool)} (hi : ops[i]? = some ⟨none, .store t x y, ty, ps, aft, g⟩) (hr : Region.ready .any ops listed = [i]) (hn : (gd ops env g, storeV Tryz.szs env A H t x y, uniq (Hs.map (·.1))) = (some true, some H', true)) (hB : Bs.drop j = B0) (hH' : Hs.map (fun x => hget H' x.1) = Hs.map (fun x => some x.2))
  (h : VD Tryz.prog n Q ks ops Hs B0 L fuel (listed.setIfInBounds i true) env A H' Bs) : VD Tryz.prog n Q ks ops Hs B0 L (fuel + 1) listed env A H Bs := VD.st i j Tryz.szsOk hi hr hn hB hH' h
theorem Vl (i : Nat) {t : TypeId} {x y : Operand} {ty : TypeId} {ps : String} {aft : Array Edge} {g : Option (Nat × Bool)} (hi : ops[i]? = some ⟨none, .store t x y, ty, ps, aft, g⟩) (hr : Region.ready .any ops listed = [i]) (hn : (gd ops env g, storeV Tryz.szs env A H t x y, L.contains i) = (some true, some H', true))
  (h : VDx Tryz.prog n Q ks ops (VI B0 Hs) L fuel (listed.setIfInBounds i true) env A H' Bs) : VD Tryz.prog n Q ks ops Hs B0 L (fuel + 1) listed env A H Bs := VD.stL i Tryz.szsOk hi hr hn h
end
end Go.Proofs.YtgojdedggmehiaaGreat
namespace Go.GL
theorem Mat.put {α : Type} {enc : α → Value} {e eo : TypeId} {B : Nat} {w w1 w2 : World} {bo : Nat} {rv : List Value} {rows : List (List α)} (h : Mat enc e eo B w bo rv rows) (hB : B ≤ w.heap.size) {i : Nat} {v v' : Value} {r' : List α} (hv : rv[i]? = some v)
  (hown : w1.ownsRow 0 e 1 v' r'.length (r'.map enc)) (hfr : v'.ownBlock = v.ownBlock ∨ ∃ g, v'.ownBlock = some g ∧ w.heap.size ≤ g) (hk : Keep (fun q => v.ownBlock = some q) w w1)
  (hst : Wrote w1 bo (rv.set i v') eo w2) : Mat enc e eo B w2 bo (rv.set i v') (rows.set i r') := by
 obtain ⟨hs2, hB2, hk2⟩ := hst
 have hbo := h.out.lt
 have hnew : ∀ g, v'.ownBlock = some g → B ≤ g ∧ g ≠ bo ∧ (v.ownBlock = some g ∨ w.heap.size ≤ g) := by
  intro g hg
  rcases hfr with h1 | ⟨g', h1, h2⟩
  ·
   rw [h1] at hg
   have := h.far i v g hv hg
   exact ⟨this.1, this.2, .inl hg⟩
  rw [h1] at hg
  cases hg
  exact ⟨by omega, by omega, .inr h2⟩
 have hi : i < rv.length := (List.getElem?_eq_some_iff.1 hv).1
 refine ⟨hB2, by simp [h.len], ?_, ?_, ?_⟩
 ·
  intro j u s hu hs
  by_cases hij : i = j
  ·
   subst hij
   rw [List.getElem?_set_self hi] at hu
   rw [List.getElem?_set_self (by rw [← h.len]; exact hi)] at hs
   cases hu; cases hs
   exact own_keep hown hk2 (fun g hg h => by have := (hnew g hg).2.1; exact this h)
  rw [List.getElem?_set_ne hij] at hu hs
  have h1 := h.row j u s hu hs
  have h2 := own_keep h1 hk (fun g hg hv' => h.apart i j v u g hij hv hu hv' hg)
  exact own_keep h2 hk2 (fun g hg h' => (h.far j u g hu hg).2 h')
 ·
  intro j u g hu hg
  by_cases hij : i = j
  ·
   subst hij
   rw [List.getElem?_set_self hi] at hu
   cases hu
   exact ⟨(hnew g hg).1, (hnew g hg).2.1⟩
  rw [List.getElem?_set_ne hij] at hu
  exact h.far j u g hu hg
 intro j k u s g hjk hu hs hg hg'
 by_cases hij : i = j
 ·
  subst hij
  rw [List.getElem?_set_self hi] at hu
  rw [List.getElem?_set_ne hjk] at hs
  cases hu
  rcases (hnew g hg).2.2 with h1 | h1
  · exact h.apart i k v s g hjk hv hs h1 hg'
  have := h.blk hs hg'; omega
 rw [List.getElem?_set_ne hij] at hu
 by_cases hik : i = k
 ·
  subst hik
  rw [List.getElem?_set_self hi] at hs
  cases hs
  rcases (hnew g hg').2.2 with h1 | h1
  · exact h.apart i j v u g hij hv hu h1 hg
  have := h.blk hu hg; omega
 rw [List.getElem?_set_ne hik] at hs
 exact h.apart j k u s g hjk hu hs hg hg'
open Go.RowKit
theorem VI.nilS (w : World) (S : Nat → Prop) : VI [(w, S)] [] w where
 holds := fun _ h => by cases h
 loc := fun _ h => by cases h
 apart := List.Pairwise.nil
 froz := fun _ h => by cases h
 low := fun _ h => by cases h
 base := fun p hp => by
  rw [List.mem_singleton] at hp
  subst hp
  exact ⟨Keep.refl _ _, fun _ h => by cases h⟩
theorem VI.add {Bs : Bases} {H : Hp} {w : World} {e : HE} (h : VI Bs H w) (k : Nat) (he : e.holds w) (hl : e.loc) (hz : ∀ b, ¬ e.fz b) (hS : ∀ q, e.S q → q < w.heap.size ∧ (∀ p ∈ Bs, p.2 q ∨ p.1.heap.size ≤ q) ∧ ∀ x ∈ H, ¬ x.2.S q ∧ ¬ x.2.fz q) : VI Bs ((k, e) :: H) w := by
 refine ⟨?_, ?_, ?_, ?_, ?_, ?_⟩
 ·
  intro x hx
  rcases List.mem_cons.1 hx with rfl | hx
  · exact he
  exact h.holds x hx
 ·
  intro x hx
  rcases List.mem_cons.1 hx with rfl | hx
  · exact hl
  exact h.loc x hx
 · exact List.pairwise_cons.2 ⟨fun x hx q hq hs => ((hS q hq).2.2 x hx).1 hs, h.apart⟩
 ·
  intro x hx y hy b hb
  rcases List.mem_cons.1 hx with rfl | hx
  · exact absurd hb (hz b)
  rcases List.mem_cons.1 hy with rfl | hy
  · exact fun hs => ((hS b hs).2.2 x hx).2 hb
  exact h.froz x hx y hy b hb
 ·
  intro x hx q hq
  rcases List.mem_cons.1 hx with rfl | hx
  · exact (hS q hq).1
  exact h.low x hx q hq
 intro p hp
 refine ⟨(h.base p hp).1, fun x hx q hq => ?_⟩
 rcases List.mem_cons.1 hx with rfl | hx
 · exact (hS q hq).2.1 p hp
 exact (h.base p hp).2 x hx q hq
section
variable {P : Program} {T : Tab} {Z : Szs} {n : Fm} {Q : Exit → Act → World → Prop} {ks : List Fr} {pos : Pos} {env : Env} {A : Tgs} {H Hs : Hp} {Bs B0 : Bases} {ops : Array Oper} {rest : List Oper} {v : Value} {L : List Nat} {fuel : Nat} {listed : Array Bool}
variable {d : Nat} {op : Op} {ty : TypeId} {ps : String} {aft : Array Edge} {g : Option (Nat × Bool)}
theorem V.inM {w : World} (k : Nat) (e : HE) (he : e.holds w) (hl : e.loc) (hz : ∀ b, ¬ e.fz b) (hS : ∀ q, e.S q → q < w.heap.size) (h : V P n Q ks pos env [] [(k, e)] [(w, e.S)]) : G P n Q ks pos env w :=
 h TgOk.nil w ((VI.nilS w e.S).add k he hl hz fun q hq => ⟨hS q hq, fun p hp => by rw [List.mem_singleton] at hp; subst hp; exact .inl hq, fun x hx => by cases hx⟩)
theorem V.call1V {f : FuncId} {x : Operand} {fs cs : List Value} {xs : Array Operand} {ts : Array TypeId} {vs : List Value} (hf : ∀ args w, (callFunc f args).run P w = .ok (.enter f args) w) (hn : (Nat.blt d n, gd ops env g, evAll env xs.toList, ev env x) = (true, some true, some vs, some (.func (.func f) fs.toArray cs.toArray)))
  (hc : ∀ w, VI Bs H w → Calls P f (fs ++ vs ++ cs).toArray w (Ret fun r w' => r = v ∧ Ext w w')) (h : V P n Q ks (.o ops rest) ((d, v) :: env) ((d, none) :: A) H Bs) : V P n Q ks (.o ops (⟨some d, .call ⟨.value x, xs, ts⟩, ty, ps, aft, g⟩ :: rest)) env A H Bs := by
 refine fun hA w hI => G.callV hn hf (hc w hI) ?_
 rintro _ w' ⟨rfl, hk⟩
 exact h hA.none w' (hI.ext hk)
end
open Go.RowKit
def memb (k : Nat) : List Nat → Bool
 | [] => false
 | j :: r => cond (Nat.beq j k) true (memb k r)
def hdels (ks : List Nat) : Hp → Hp
 | [] => []
 | x :: r => cond (memb x.1 ks) (hdels ks r) (x :: hdels ks r)
theorem hdels_mem {ks : List Nat} : ∀ {H : Hp} {x : Nat × HE}, x ∈ hdels ks H → x ∈ H ∧ memb x.1 ks = false
 | y :: r, x, h => by
  simp only [hdels] at h
  cases hb : memb y.1 ks with
  | true =>
   rw [hb] at h
   have h : x ∈ hdels ks r := h
   exact ⟨List.mem_cons_of_mem _ (hdels_mem h).1, (hdels_mem h).2⟩
  | false =>
   rw [hb] at h
   rcases List.mem_cons.1 h with rfl | h
   · exact ⟨List.mem_cons_self .., hb⟩
   exact ⟨List.mem_cons_of_mem _ (hdels_mem h).1, (hdels_mem h).2⟩
theorem hdels_sub {ks : List Nat} : ∀ {H : Hp}, (hdels ks H).Sublist H
 | [] => List.Sublist.refl _
 | y :: r => by
  simp only [hdels]
  cases memb y.1 ks with
  | true => exact hdels_sub.trans (List.sublist_cons_self ..)
  | false => exact hdels_sub.cons_cons _
theorem pair_all {H : Hp} (h : H.Pairwise (fun x y => ∀ q, x.2.S q → ¬ y.2.S q)) : ∀ x ∈ H, ∀ y ∈ H, x ≠ y → ∀ q, x.2.S q → ¬ y.2.S q := by
 induction H with
 | nil => intro x hx; cases hx
 | cons z r ih =>
  rw [List.pairwise_cons] at h
  intro x hx y hy hne q hq hs
  rcases List.mem_cons.1 hx with h1 | h1
  ·
   rcases List.mem_cons.1 hy with h2 | h2
   · exact hne (h1.trans h2.symm)
   subst h1; exact h.1 y h2 q hq hs
  rcases List.mem_cons.1 hy with h2 | h2
  · subst h2; exact h.1 x h1 q hs hq
  exact ih h.2 x h1 y h2 hne q hq hs
def InS (H : Hp) (ks : List Nat) (q : Nat) : Prop := ∃ y ∈ H, memb y.1 ks = true ∧ y.2.S q
structure Hands (H : Hp) (ks : List Nat) (Hn : Hp) (w w' : World) : Prop where
 keep : Keep (InS H ks) w w'
 ok : ∀ x ∈ Hn, x.2.holds w' ∧ x.2.loc ∧ (∀ b, ¬ x.2.fz b) ∧ ∀ q, x.2.S q → (InS H ks q ∨ w.heap.size ≤ q) ∧ q < w'.heap.size
 apart : Hn.Pairwise (fun x y => ∀ q, x.2.S q → ¬ y.2.S q)
theorem VI.hands {Bs : Bases} {H Hn : Hp} {ks : List Nat} {w w' : World} (h : VI Bs H w) (hh : Hands H ks Hn w w') : VI Bs (Hn ++ hdels ks H) w' := by
 have hrest : ∀ x ∈ hdels ks H, ∀ q, InS H ks q → ¬ x.2.S q := by
  rintro x hx q ⟨y, hy, hk, hq⟩ hs
  obtain ⟨h1, h2⟩ := hdels_mem hx
  exact pair_all h.apart x h1 y hy (fun e => by rw [e, hk] at h2; cases h2) q hs hq
 have hfz : ∀ x ∈ hdels ks H, ∀ b, x.2.fz b → ¬ InS H ks b := by
  rintro x hx b hb ⟨y, hy, hk, hq⟩
  exact h.froz x (hdels_mem hx).1 y hy b hb hq
 have hlo : ∀ x ∈ hdels ks H, ∀ q, x.2.S q → q < w.heap.size := fun x hx q hq => h.low x (hdels_mem hx).1 q hq
 have hnew : ∀ x ∈ hdels ks H, ∀ y ∈ Hn, ∀ q, y.2.S q → ¬ x.2.S q := fun x hx y hy q hq hs => by
  rcases ((hh.ok y hy).2.2.2 q hq).1 with h1 | h1
  · exact hrest x hx q h1 hs
  have := hlo x hx q hs; omega
 refine ⟨?_, ?_, ?_, ?_, ?_, ?_⟩
 ·
  intro x hx
  rcases List.mem_append.1 hx with hx | hx
  · exact (hh.ok x hx).1
  have h1 := (hdels_mem hx).1
  exact HE.keep (e := x.2) (h.holds x h1) (h.loc x h1) hh.keep (fun q hq hi => hrest x hx q hi hq) (hfz x hx)
 ·
  intro x hx
  rcases List.mem_append.1 hx with hx | hx
  · exact (hh.ok x hx).2.1
  exact h.loc x (hdels_mem hx).1
 · exact List.pairwise_append.2 ⟨hh.apart, h.apart.sublist hdels_sub, fun x hx y hy q hq => hnew y hy x hx q hq⟩
 ·
  intro x hx y hy b hb hs
  rcases List.mem_append.1 hx with hx | hx
  · exact (hh.ok x hx).2.2.1 b hb
  rcases List.mem_append.1 hy with hy | hy
  ·
   rcases ((hh.ok y hy).2.2.2 b hs).1 with h1 | h1
   · exact hfz x hx b hb h1
   have := HE.fz_lt (h.holds x (hdels_mem hx).1) hb; omega
  exact h.froz x (hdels_mem hx).1 y (hdels_mem hy).1 b hb hs
 ·
  intro x hx q hq
  rcases List.mem_append.1 hx with hx | hx
  · exact ((hh.ok x hx).2.2.2 q hq).2
  exact Nat.lt_of_lt_of_le (hlo x hx q hq) hh.keep.size
 intro p hp
 obtain ⟨h1, h2⟩ := h.base p hp
 refine ⟨h1.trans hh.keep fun q hq hi => ?_, fun x hx q hq => ?_⟩
 ·
  obtain ⟨y, hy, _, hs⟩ := hi
  exact (h2 y hy q hs).resolve_right (by omega)
 rcases List.mem_append.1 hx with hx | hx
 ·
  rcases ((hh.ok x hx).2.2.2 q hq).1 with ⟨y, hy, _, hs⟩ | h3
  · exact h2 y hy q hs
  exact .inr (Nat.le_trans h1.size h3)
 exact h2 x (hdels_mem hx).1 q hq
section
variable {P : Program} {n : Fm} {Q : Exit → Act → World → Prop} {ks : List Fr} {pos : Pos} {env : Env} {A : Tgs} {H : Hp} {Bs : Bases} {ops : Array Oper} {rest : List Oper} {v : Value}
variable {d : Nat} {ty : TypeId} {ps : String} {aft : Array Edge} {g : Option (Nat × Bool)}
theorem V.callMs (kk : List Nat) {f : FuncId} {xs : Array Operand} {ts : Array TypeId} {vs : List Value} {α : Type} {Hn : α → Hp} {Φ : Value → α → Prop} (A1 : Tgs) (hf : ∀ args w, (callFunc f args).run P w = .ok (.enter f args) w) (hn : (Nat.blt d n, gd ops env g, evAll env xs.toList) = (true, some true, some vs))
  (hA1 : ∀ r x, A1.map (fun p => pval ((d, r) :: env) p.1) = A1.map (fun p => qval (Hn x ++ hdels kk H) p.2)) (hA2 : ∀ x, A1.all (fun p => (qval (Hn x ++ hdels kk H) p.2).isSome) = true)
  (hc : ∀ w, VI Bs H w → Calls P f vs.toArray w (Ret fun r w' => ∃ x, Φ r x ∧ Hands H kk (Hn x) w w'))
  (h : ∀ r x, Φ r x → V P n Q ks (.o ops rest) ((d, r) :: env) A1 (Hn x ++ hdels kk H) Bs) : V P n Q ks (.o ops (⟨some d, .call ⟨.value (.func f), xs, ts⟩, ty, ps, aft, g⟩ :: rest)) env A H Bs := by
 refine fun hA w hI => G.call hn hf (hc w hI) ?_
 rintro r w' ⟨x, hP, hh⟩
 exact h r x hP (TgOk.of (hA1 r x) (hA2 x)) w' (hI.hands hh)
end
end Go.GL
namespace Go.Proofs
theorem Tryz.el3 : (Tryz.prog.info? 3).map (fun i => (i.zero, i.size, i.bytes)) = some (some ((Value.int IntKind.i64 0)), 1, 8) := by kernel_rfl
theorem Tryz.el4 : (Tryz.prog.info? 4).map (fun i => (i.zero, i.size, i.bytes)) = some (some ((Value.bool false)), 1, 1) := by kernel_rfl
theorem Tryz.el43 : (Tryz.prog.info? 43).map (fun i => (i.zero, i.size, i.bytes)) = some (some ((Value.agg #[Value.int IntKind.i64 0, Value.int IntKind.i64 0])), 2, 16) := by kernel_rfl
theorem Tryz.el49 : (Tryz.prog.info? 49).map (fun i => (i.zero, i.size, i.bytes)) = some (some ((Value.slice none 0 0)), 1, 24) := by kernel_rfl
theorem Tryz.el64 : (Tryz.prog.info? 64).map (fun i => (i.zero, i.size, i.bytes)) = some (some ((Value.agg #[Value.int IntKind.i64 0, Value.int IntKind.i64 0, Value.int IntKind.i64 0, Value.int IntKind.i64 0])), 4, 32) := by kernel_rfl
theorem Tryz.el96 : (Tryz.prog.info? 96).map (fun i => (i.zero, i.size, i.bytes)) = some (some ((Value.agg #[Value.string { data := #[] }, Value.int IntKind.i64 0, Value.int IntKind.i64 0, Value.int IntKind.i64 0, Value.int IntKind.i64 0])), 5, 48) := by kernel_rfl
theorem Tryz.el110 : (Tryz.prog.info? 110).map (fun i => (i.zero, i.size, i.bytes)) = some (some (Value.nilFunc), 1, 8) := by kernel_rfl
theorem Tryz.el161 : (Tryz.prog.info? 161).map (fun i => (i.zero, i.size, i.bytes)) = some (some ((Value.agg #[Value.int IntKind.i64 0, Value.int IntKind.i64 0])), 2, 16) := by kernel_rfl
theorem Tryz.el174 : (Tryz.prog.info? 174).map (fun i => (i.zero, i.size, i.bytes)) = some (some ((Value.agg #[Value.int IntKind.i64 0, Value.int IntKind.i64 0])), 2, 16) := by kernel_rfl
end Go.Proofs
namespace Go.GL
mutual
def Tm.nodes : Tm → Nat
 | .mk _ _ ks => 1 + tnodes ks
def tnodes : List Tm → Nat
 | [] => 0
 | k :: r => k.nodes + tnodes r
end
mutual
def Tm.depth : Tm → Nat
 | .mk _ _ ks => tdepth ks + 1
def tdepth : List Tm → Nat
 | [] => 0
 | k :: r => max k.depth (tdepth r)
end
mutual
def St.nodes : St → Nat
 | .mk _ _ _ _ t f g _ => 1 + t.nodes + snodes f + snodes g
def snodes : List St → Nat
 | [] => 0
 | s :: r => s.nodes + snodes r
end
mutual
def St.bulk : St → Nat
 | .mk _ _ _ _ t f g b => 1 + t.nodes + b.length + sbulk f + sbulk g
def sbulk : List St → Nat
 | [] => 0
 | s :: r => s.bulk + sbulk r
end
mutual
def St.size : St → Nat
 | .mk _ _ _ _ _ f g _ => 1 + ssize f + ssize g
def ssize : List St → Nat
 | [] => 0
 | s :: r => s.size + ssize r
end
mutual
def St.depth : St → Nat
 | .mk _ _ _ _ _ f g _ => max (sdepth f + 1) (sdepth g + 1)
def sdepth : List St → Nat
 | [] => 0
 | s :: r => max s.depth (sdepth r)
end
mutual
/-- Some term of a step is nested too deep. -/
def St.tdeep : St → Bool
 | .mk _ _ _ _ t f g _ => decide (12 < t.depth) || stdeep f || stdeep g
def stdeep : List St → Bool
 | [] => false
 | s :: r => s.tdeep || stdeep r
end
theorem Tm.nodes_eq (t : Tm) : t.nodes = 1 + tnodes t.kids := by cases t; rfl
theorem Tm.depth_eq (t : Tm) : t.depth = tdepth t.kids + 1 := by cases t; rfl
theorem St.nodes_eq (s : St) : s.nodes = 1 + s.term.nodes + snodes s.thn + snodes s.els := by cases s; rfl
theorem St.bulk_eq (s : St) : s.bulk = 1 + s.term.nodes + s.bounds.length + sbulk s.thn + sbulk s.els := by cases s; rfl
theorem St.size_eq (s : St) : s.size = 1 + ssize s.thn + ssize s.els := by cases s; rfl
theorem St.depth_eq (s : St) : s.depth = max (sdepth s.thn + 1) (sdepth s.els + 1) := by cases s; rfl
theorem St.tdeep_eq (s : St) : s.tdeep = (decide (12 < s.term.depth) || stdeep s.thn || stdeep s.els) := by cases s; rfl
theorem tnodes_append (a b : List Tm) : tnodes (a ++ b) = tnodes a + tnodes b := by
 induction a with
 | nil => simp [tnodes]
 | cons x r ih => simp [tnodes, ih, Nat.add_assoc]
theorem tdepth_append (a b : List Tm) : tdepth (a ++ b) = max (tdepth a) (tdepth b) := by
 induction a with
 | nil => simp [tdepth]
 | cons x r ih => simp [tdepth, ih, Nat.max_assoc]
theorem snodes_append (a b : List St) : snodes (a ++ b) = snodes a + snodes b := by
 induction a with
 | nil => simp [snodes]
 | cons x r ih => simp [snodes, ih, Nat.add_assoc]
theorem sbulk_append (a b : List St) : sbulk (a ++ b) = sbulk a + sbulk b := by
 induction a with
 | nil => simp [sbulk]
 | cons x r ih => simp [sbulk, ih, Nat.add_assoc]
theorem ssize_append (a b : List St) : ssize (a ++ b) = ssize a + ssize b := by
 induction a with
 | nil => simp [ssize]
 | cons x r ih => simp [ssize, ih, Nat.add_assoc]
theorem sdepth_append (a b : List St) : sdepth (a ++ b) = max (sdepth a) (sdepth b) := by
 induction a with
 | nil => simp [sdepth]
 | cons x r ih => simp [sdepth, ih, Nat.max_assoc]
theorem stdeep_append (a b : List St) : stdeep (a ++ b) = (stdeep a || stdeep b) := by
 induction a with
 | nil => simp [stdeep]
 | cons x r ih => simp [stdeep, ih, Bool.or_assoc]
theorem take_get {α : Type} {l : List α} {i : Nat} {x : α} (h : l[i]? = some x) : l.take (i + 1) = l.take i ++ [x] := by
 rw [List.take_add_one, h]; rfl
theorem tnodes_take {l : List Tm} {i : Nat} {x : Tm} (h : l[i]? = some x) : tnodes (l.take (i + 1)) = tnodes (l.take i) + x.nodes := by rw [take_get h, tnodes_append]; simp [tnodes]
theorem tdepth_take {l : List Tm} {i : Nat} {x : Tm} (h : l[i]? = some x) : tdepth (l.take (i + 1)) = max (tdepth (l.take i)) x.depth := by rw [take_get h, tdepth_append]; simp [tdepth]
theorem snodes_take {l : List St} {i : Nat} {x : St} (h : l[i]? = some x) : snodes (l.take (i + 1)) = snodes (l.take i) + x.nodes := by rw [take_get h, snodes_append]; simp [snodes]
theorem sbulk_take {l : List St} {i : Nat} {x : St} (h : l[i]? = some x) : sbulk (l.take (i + 1)) = sbulk (l.take i) + x.bulk := by rw [take_get h, sbulk_append]; simp [sbulk]
theorem ssize_take {l : List St} {i : Nat} {x : St} (h : l[i]? = some x) : ssize (l.take (i + 1)) = ssize (l.take i) + x.size := by rw [take_get h, ssize_append]; simp [ssize]
theorem sdepth_take {l : List St} {i : Nat} {x : St} (h : l[i]? = some x) : sdepth (l.take (i + 1)) = max (sdepth (l.take i)) x.depth := by rw [take_get h, sdepth_append]; simp [sdepth]
theorem stdeep_take {l : List St} {i : Nat} {x : St} (h : l[i]? = some x) : stdeep (l.take (i + 1)) = (stdeep (l.take i) || x.tdeep) := by rw [take_get h, stdeep_append]; simp [stdeep]
theorem split_get {α : Type} {l : List α} {i : Nat} {x : α} (h : l[i]? = some x) : l = l.take i ++ x :: l.drop (i + 1) := by
 obtain ⟨h1, h2⟩ := List.getElem?_eq_some_iff.1 h
 rw [← h2, List.getElem_cons_drop, List.take_append_drop]
theorem sbulk_mem {l : List St} {x : St} (h : x ∈ l) : x.bulk ≤ sbulk l := by
 obtain ⟨i, hi⟩ := List.mem_iff_getElem?.1 h
 rw [split_get hi, sbulk_append]; simp [sbulk]; omega
theorem tnodes_split {l : List Tm} {i : Nat} {x : Tm} (h : l[i]? = some x) : tnodes l = tnodes (l.take i) + x.nodes + tnodes (l.drop (i + 1)) := by
 conv => lhs; rw [split_get h]
 rw [tnodes_append]; simp [tnodes, Nat.add_assoc]
theorem snodes_split {l : List St} {i : Nat} {x : St} (h : l[i]? = some x) : snodes l = snodes (l.take i) + x.nodes + snodes (l.drop (i + 1)) := by
 conv => lhs; rw [split_get h]
 rw [snodes_append]; simp [snodes, Nat.add_assoc]
theorem sbulk_split {l : List St} {i : Nat} {x : St} (h : l[i]? = some x) : sbulk l = sbulk (l.take i) + x.bulk + sbulk (l.drop (i + 1)) := by
 conv => lhs; rw [split_get h]
 rw [sbulk_append]; simp [sbulk, Nat.add_assoc]
theorem ssize_split {l : List St} {i : Nat} {x : St} (h : l[i]? = some x) : ssize l = ssize (l.take i) + x.size + ssize (l.drop (i + 1)) := by
 conv => lhs; rw [split_get h]
 rw [ssize_append]; simp [ssize, Nat.add_assoc]
theorem tlen_le (l : List Tm) : l.length ≤ tnodes l := by
 induction l with
 | nil => simp
 | cons x r ih => have := x.nodes_eq; simp [tnodes]; omega
theorem slen_le (l : List St) : l.length ≤ snodes l := by
 induction l with
 | nil => simp
 | cons x r ih => have := x.nodes_eq; simp [snodes]; omega
theorem sbulk_snodes : ∀ l : List St, snodes l ≤ sbulk l := by
 intro l
 induction l using Sts.ind with
 | h l ih =>
  have key : ∀ r : List St, (∀ s ∈ r, snodes s.thn ≤ sbulk s.thn ∧ snodes s.els ≤ sbulk s.els) → snodes r ≤ sbulk r := by
   intro r
   induction r with
   | nil => intro _; simp [snodes]
   | cons x r ih2 =>
    intro h
    have h1 := h x (List.mem_cons_self ..)
    have h2 := ih2 (fun s hs => h s (List.mem_cons_of_mem _ hs))
    have h3 := x.nodes_eq
    have h4 := x.bulk_eq
    simp only [snodes, sbulk]; omega
  exact key l ih
theorem ssize_snodes : ∀ l : List St, ssize l ≤ snodes l := by
 intro l
 induction l using Sts.ind with
 | h l ih =>
  have key : ∀ r : List St, (∀ s ∈ r, ssize s.thn ≤ snodes s.thn ∧ ssize s.els ≤ snodes s.els) → ssize r ≤ snodes r := by
   intro r
   induction r with
   | nil => intro _; simp [ssize]
   | cons x r ih2 =>
    intro h
    have h1 := h x (List.mem_cons_self ..)
    have h2 := ih2 (fun s hs => h s (List.mem_cons_of_mem _ hs))
    have h3 := x.nodes_eq
    have h4 := x.size_eq
    simp only [snodes, ssize]; omega
  exact key l ih
theorem slen_ssize (l : List St) : l.length ≤ ssize l := by
 induction l with
 | nil => simp
 | cons x r ih => have := x.size_eq; simp [ssize]; omega
theorem tdepth_nodes : ∀ l : List Tm, tdepth l ≤ tnodes l := by
 have key : ∀ l : List Tm, (∀ k ∈ l, k.depth ≤ k.nodes) → tdepth l ≤ tnodes l := by
  intro l
  induction l with
  | nil => intro _; simp [tdepth]
  | cons x r ih =>
   intro h
   have h1 := h x (List.mem_cons_self ..)
   have h2 := ih (fun k hk => h k (List.mem_cons_of_mem _ hk))
   simp only [tdepth, tnodes]; omega
 have all : ∀ t : Tm, t.depth ≤ t.nodes := by
  intro t
  induction t using Tm.ind with
  | h t ih =>
   have := key t.kids ih
   rw [t.depth_eq, t.nodes_eq]; omega
 exact fun l => key l (fun k _ => all k)
theorem sdepth_nodes : ∀ l : List St, sdepth l ≤ snodes l := by
 intro l
 induction l using Sts.ind with
 | h l ih =>
  have key : ∀ r : List St, (∀ s ∈ r, sdepth s.thn ≤ snodes s.thn ∧ sdepth s.els ≤ snodes s.els) → sdepth r ≤ snodes r := by
   intro r
   induction r with
   | nil => intro _; simp [sdepth]
   | cons x r ih2 =>
    intro h
    have h1 := h x (List.mem_cons_self ..)
    have h2 := ih2 (fun s hs => h s (List.mem_cons_of_mem _ hs))
    have h3 := x.nodes_eq
    have h4 := x.depth_eq
    simp only [snodes, sdepth]; omega
  exact key l ih
def hnodes : List Ht → Nat
 | [] => 0
 | h :: r => h.term.nodes + hnodes r
theorem hnodes_append (a b : List Ht) : hnodes (a ++ b) = hnodes a + hnodes b := by
 induction a with
 | nil => simp [hnodes]
 | cons x r ih => simp [hnodes, ih, Nat.add_assoc]
theorem hnodes_take {l : List Ht} {i : Nat} {x : Ht} (h : l[i]? = some x) : hnodes (l.take (i + 1)) = hnodes (l.take i) + x.term.nodes := by rw [take_get h, hnodes_append]; simp [hnodes]
theorem hnodes_split {l : List Ht} {i : Nat} {x : Ht} (h : l[i]? = some x) : hnodes l = hnodes (l.take i) + x.term.nodes + hnodes (l.drop (i + 1)) := by
 conv => lhs; rw [split_get h]
 rw [hnodes_append]; simp [hnodes, Nat.add_assoc]
theorem boolT {p : Prop} [Decidable p] (h : p) : some (Value.bool true) = some (Value.bool (decide p)) := by rw [decide_eq_true h]
theorem boolF {p : Prop} [Decidable p] (h : ¬ p) : some (Value.bool false) = some (Value.bool (decide p)) := by rw [decide_eq_false h]
theorem boolD {q p : Prop} [Decidable q] [Decidable p] (h : q ↔ p) : some (Value.bool (decide q)) = some (Value.bool (decide p)) := by rw [decide_eq_decide.2 h]
theorem boolG {a b : Bool} (h : a = b) : some (Value.bool a) = some (Value.bool b) := by rw [h]
end Go.GL
namespace Go.Proofs.YtgojdedggmehiaaGreat
open Go.GL
theorem plainM_ms {H : Hp} {f : FuncId} {args : Array Value} {v : Value} {w : World} (hc : Calls Tryz.prog f args w (Ret fun r w' => r = v ∧ Ext w w')) : Calls Tryz.prog f args w (Ret fun r w' => ∃ _ : Unit, r = v ∧ Hands H [] [] w w') := by
 refine hc.mono ?_
 rintro _ w' ⟨_, rfl, rfl, hk⟩
 exact ⟨_, rfl, (), rfl, hk.mono fun q _ h => h.elim, fun x hx => by (cases hx), List.Pairwise.nil⟩
theorem refTermNodes_ok (t : Tm) : ∀ (cs : List Value) (D : Nat → Prop) (w : World), RTm D w t cs → t.nodes ≤ 1000000 → Calls Tryz.prog 72 #[.agg cs.toArray] w (Ret fun r w' => r = .int .i64 t.nodes ∧ Ext w w') := by
 induction t using Tm.ind with
 | h t ih =>
 intro cs D w ht hsz
 have hlen := tlen_le t.kids
 have hse := t.nodes_eq
 obtain ⟨v, rfl, hk⟩ := ht.get
 obtain ⟨ao, cap, rfl⟩ := hk.form
 refine G.in1 Tryz.func72 rfl Tryz.ntmps72 rfl (V.inn (Vs 2 rfl (V.box 1 rfl rfl (fun b1 => ?_))))
 refine Vs 15 rfl (V.loopK (σ := Nat) [1] [1] [1] rfl (fun e i => (3, .int .i64 (1 + tnodes (t.kids.take i) : Nat)) :: (4, .int .i64 i) :: e) (fun e i => e) (fun i => i ≤ t.kids.length) (fun i => t.kids.length - i) (0) (Sub.of rfl) (Has.of rfl) (fun _ => rfl) (fun _ => rfl) (fun _ => rfl) (Nat.zero_le _) ?_)
 rintro i hi
 refine Vs 10 rfl (V.ite rfl (fun hlt => ?_) (fun hge => ?_))
 ·
  refine Vs 9 rfl (V.elG 1000 0 i (by omega) hk rfl rfl rfl (fun k b_k o_k c_k he_k hm_k ha_k hR_k => ?_))
  obtain ⟨v1_k, rfl, hk_k⟩ := hR_k.get
  obtain ⟨a1_k, n1_k, rfl⟩ := hk_k.form
  refine V.ix 1000 Tryz.runUnderlying68 Tryz.sizeOf70 rfl ha_k (by omega) (_) (rfl) rfl ?_
  have hsp := tnodes_split he_k
  refine Vs 1 rfl (V.call1 Tryz.call72 rfl (fun w hI => ih k hm_k _ D w (RTm.put (Tr1 hI.k0 hk_k)) (by omega)) (Va 10 rfl (by omega) (V.back (i + 1) (Sub.cons (slotI rfl (by rw [tnodes_take he_k]; omega)) (Sub.cons (rfl) (Sub.of rfl))) (Has.of rfl) (by omega) (by first | omega | (dsimp only; omega)) 0 rfl rfl)))
 obtain rfl : i = t.kids.length := by omega
 refine Vs 12 rfl (V.ret1e 0 Tryz.results72 rfl rfl (by rw [List.take_length, t.nodes_eq]))
theorem refTermDepth_ok (t : Tm) : ∀ (cs : List Value) (D : Nat → Prop) (w : World), RTm D w t cs → t.nodes ≤ 1000000 → Calls Tryz.prog 73 #[.agg cs.toArray] w (Ret fun r w' => r = .int .i64 t.depth ∧ Ext w w') := by
 induction t using Tm.ind with
 | h t ih =>
 intro cs D w ht hsz
 have hlen := tlen_le t.kids
 have hse := t.nodes_eq
 obtain ⟨v, rfl, hk⟩ := ht.get
 obtain ⟨ao, cap, rfl⟩ := hk.form
 refine G.in1 Tryz.func73 rfl Tryz.ntmps73 rfl (V.inn (Vs 2 rfl (V.box 1 rfl rfl (fun b1 => ?_))))
 refine Vs 15 rfl (V.loopK (σ := Nat) [1] [1] [1] rfl (fun e i => (3, .int .i64 (tdepth (t.kids.take i) : Nat)) :: (4, .int .i64 i) :: e) (fun e i => e) (fun i => i ≤ t.kids.length) (fun i => t.kids.length - i) (0) (Sub.of rfl) (Has.of rfl) (fun _ => rfl) (fun _ => rfl) (fun _ => rfl) (Nat.zero_le _) ?_)
 rintro i hi
 refine Vs 10 rfl (V.ite rfl (fun hlt => ?_) (fun hge => ?_))
 ·
  refine Vs 9 rfl (V.elG 1000 0 i (by omega) hk rfl rfl rfl (fun k b_k o_k c_k he_k hm_k ha_k hR_k => ?_))
  obtain ⟨v1_k, rfl, hk_k⟩ := hR_k.get
  obtain ⟨a1_k, n1_k, rfl⟩ := hk_k.form
  refine V.ix 1000 Tryz.runUnderlying68 Tryz.sizeOf70 rfl ha_k (by omega) (_) (rfl) rfl ?_
  have hsp := tnodes_split he_k
  have htk := tdepth_take he_k
  refine Vs 1 rfl (V.call1 Tryz.call73 rfl (fun w hI => ih k hm_k _ D w (RTm.put (Tr1 hI.k0 hk_k)) (by omega)) (Vs 10 rfl (V.ite rfl (fun hgt => ?_) (fun hle => ?_))))
  · refine Va 11 rfl (by omega) (V.back (i + 1) (Sub.cons (slotI rfl (by rw [htk]; omega)) (Sub.cons (rfl) (Sub.of rfl))) (Has.of rfl) (by omega) (by first | omega | (dsimp only; omega)) 0 rfl rfl)
  refine Va 8 rfl (by omega) (V.back (i + 1) (Sub.cons (slotI rfl (by rw [htk]; omega)) (Sub.cons (rfl) (Sub.of rfl))) (Has.of rfl) (by omega) (by first | omega | (dsimp only; omega)) 0 rfl rfl)
 obtain rfl : i = t.kids.length := by omega
 have hdp := tdepth_nodes t.kids
 rw [List.take_length]
 refine Va 13 rfl (by omega) (V.ret1e 0 Tryz.results73 rfl rfl (by rw [t.depth_eq]; rfl))
theorem refNodes_ok (l : List St) : ∀ (v : Value) (D : Nat → Prop) (w : World), SlR 10 RSt D w v l → snodes l ≤ 1000000 → Calls Tryz.prog 71 #[v] w (Ret fun r w' => r = .int .i64 (snodes l) ∧ Ext w w') := by
 induction l using Sts.ind with
 | h l ih =>
 intro v D w hl hsz
 have hlen := slen_le l
 obtain ⟨ao, cap, rfl⟩ := hl.form
 refine G.in1 Tryz.func71 rfl Tryz.ntmps71 rfl (V.inn (Vs 17 rfl (V.loopK (σ := Nat) [0] [] [] rfl (fun e i => (3, .int .i64 (snodes (l.take i))) :: (4, .int .i64 i) :: e) (fun e i => e) (fun i => i ≤ l.length) (fun i => l.length - i) (0) (Sub.of rfl) (Has.of rfl) (fun _ => rfl) (fun _ => rfl) (fun _ => rfl) (Nat.zero_le _) ?_)))
 rintro i hi
 refine Vs 9 rfl (V.ite rfl (fun hlt => ?_) (fun hge => ?_))
 ·
  refine V.elG 1000 0 i (by omega) hl rfl rfl rfl (fun s b_s o_s c_s he_s hm_s ha_s hR_s => ?_)
  obtain ⟨v1_s, v2_s, v3_s, v4_s, rfl, hk_s, ht_s, hs_s, hb_s⟩ := hR_s.get
  obtain ⟨a1_s, n1_s, rfl⟩ := hk_s.form
  obtain ⟨a2_s, n2_s, rfl⟩ := ht_s.form
  obtain ⟨a3_s, n3_s, rfl⟩ := hs_s.form
  obtain ⟨a4_s, n4_s, rfl⟩ := hb_s.form
  have hsp := snodes_split he_s
  have hse := s.nodes_eq
  refine Vs 4 rfl (Vw [1000] [] rfl (Vb [0, 1, 2, 3, 9, 10, 16, 17] 0 (by kernel_rfl) rfl rfl rfl (by omega) ?_))
  refine VD.ix 4 1000 Tryz.runUnderlying24 Tryz.sizeOf72 rfl (by kernel_rfl) rfl ha_s (by omega) (_) (rfl) rfl (Vd [5, 6] 0 (by kernel_rfl) rfl rfl rfl ?_)
  refine VD.ix 11 1000 Tryz.runUnderlying24 Tryz.sizeOf72 rfl (by kernel_rfl) rfl ha_s (by omega) (_) (rfl) rfl (Vd [12, 13] 0 (by kernel_rfl) rfl rfl rfl ?_)
  refine VD.ix 18 1000 Tryz.runUnderlying24 Tryz.sizeOf72 rfl (by kernel_rfl) rfl ha_s (by omega) (_) (rfl) rfl (Vd [19, 20] 0 (by kernel_rfl) rfl rfl rfl (VD.call1 7 0 Tryz.call72 rfl (by kernel_rfl) rfl rfl (fun w hI => refTermNodes_ok s.term _ D w (RTm.put (Tr1 hI.k0 hk_s)) (by omega)) (Vb [8] 0 (by kernel_rfl) rfl rfl rfl (by omega) (VD.call1 14 0 Tryz.call71 rfl (by kernel_rfl) rfl rfl (fun w hI => (ih s hm_s).1 _ D w (Tr1 hI.k0 ht_s) (by omega)) (Vb [15] 0 (by kernel_rfl) rfl rfl rfl (by omega) (VD.call1 21 0 Tryz.call71 rfl (by kernel_rfl) rfl rfl (fun w hI => (ih s hm_s).2 _ D w (Tr1 hI.k0 hs_s) (by omega)) ?_))))))
  refine Vb [22, 23] 0 (by kernel_rfl) rfl rfl rfl (by omega) (VD.done (by kernel_rfl) (Va 7 rfl (by omega) (V.back (i + 1) (Sub.cons (slotI rfl (by rw [snodes_take he_s]; omega)) (Sub.cons (rfl) (Sub.of rfl))) (Has.of rfl) (by omega) (by first | omega | (dsimp only; omega)) 0 rfl rfl)))
 obtain rfl : i = l.length := by omega
 refine Vs 12 rfl (V.ret1e 0 Tryz.results71 rfl rfl (by rw [List.take_length]))
theorem refStepDepth_ok (l : List St) : ∀ (v : Value) (D : Nat → Prop) (w : World), SlR 10 RSt D w v l → snodes l ≤ 1000000 → Calls Tryz.prog 74 #[v] w (Ret fun r w' => r = .int .i64 (sdepth l) ∧ Ext w w') := by
 induction l using Sts.ind with
 | h l ih =>
 intro v D w hl hsz
 have hlen := slen_le l
 obtain ⟨ao, cap, rfl⟩ := hl.form
 refine G.in1 Tryz.func74 rfl Tryz.ntmps74 rfl (V.inn (Vs 17 rfl (V.loopK (σ := Nat) [0] [] [] rfl (fun e i => (3, .int .i64 (sdepth (l.take i))) :: (4, .int .i64 i) :: e) (fun e i => e) (fun i => i ≤ l.length) (fun i => l.length - i) (0) (Sub.of rfl) (Has.of rfl) (fun _ => rfl) (fun _ => rfl) (fun _ => rfl) (Nat.zero_le _) ?_)))
 rintro i hi
 refine Vs 9 rfl (V.ite rfl (fun hlt => ?_) (fun hge => ?_))
 ·
  refine V.elG 1000 0 i (by omega) hl rfl rfl rfl (fun s b_s o_s c_s he_s hm_s ha_s hR_s => ?_)
  obtain ⟨v1_s, v2_s, v3_s, v4_s, rfl, hk_s, ht_s, hs_s, hb_s⟩ := hR_s.get
  obtain ⟨a1_s, n1_s, rfl⟩ := hk_s.form
  obtain ⟨a2_s, n2_s, rfl⟩ := ht_s.form
  obtain ⟨a3_s, n3_s, rfl⟩ := hs_s.form
  obtain ⟨a4_s, n4_s, rfl⟩ := hb_s.form
  have hsp := snodes_split he_s
  have hse := s.nodes_eq
  have htk := sdepth_take he_s
  have hde := s.depth_eq
  have hd1 := sdepth_nodes s.thn
  have hd2 := sdepth_nodes s.els
  refine Vs 8 rfl ?_
  refine V.ix 1000 Tryz.runUnderlying24 Tryz.sizeOf72 rfl ha_s (by omega) (_) (rfl) rfl (Vs 2 rfl (V.call1 Tryz.call74 rfl (fun w hI => (ih s hm_s).1 _ D w (Tr1 hI.k0 ht_s) (by omega)) (Va 8 rfl (by omega) ?_)))
  refine V.ix 1000 Tryz.runUnderlying24 Tryz.sizeOf72 rfl ha_s (by omega) (_) (rfl) rfl (Vs 2 rfl (V.call1 Tryz.call74 rfl (fun w hI => (ih s hm_s).2 _ D w (Tr1 hI.k0 hs_s) (by omega)) (Va 12 rfl (by omega) (V.ite rfl (fun h1 => ?_) (fun h1 => ?_)))))
  ·
   refine Vs 12 rfl (V.ite rfl (fun h2 => ?_) (fun h2 => ?_))
   · refine Va 11 rfl (by omega) (V.back (i + 1) (Sub.cons (slotI rfl (by rw [htk]; omega)) (Sub.cons (rfl) (Sub.of rfl))) (Has.of rfl) (by omega) (by first | omega | (dsimp only; omega)) 0 rfl rfl)
   refine Va 8 rfl (by omega) (V.back (i + 1) (Sub.cons (slotI rfl (by rw [htk]; omega)) (Sub.cons (rfl) (Sub.of rfl))) (Has.of rfl) (by omega) (by first | omega | (dsimp only; omega)) 0 rfl rfl)
  refine Vs 9 rfl (V.ite rfl (fun h2 => ?_) (fun h2 => ?_))
  · refine Va 11 rfl (by omega) (V.back (i + 1) (Sub.cons (slotI rfl (by rw [htk]; omega)) (Sub.cons (rfl) (Sub.of rfl))) (Has.of rfl) (by omega) (by first | omega | (dsimp only; omega)) 0 rfl rfl)
  refine Va 8 rfl (by omega) (V.back (i + 1) (Sub.cons (slotI rfl (by rw [htk]; omega)) (Sub.cons (rfl) (Sub.of rfl))) (Has.of rfl) (by omega) (by first | omega | (dsimp only; omega)) 0 rfl rfl)
 obtain rfl : i = l.length := by omega
 refine Vs 12 rfl (V.ret1e 0 Tryz.results74 rfl rfl (by rw [List.take_length]))
theorem refTermsDeep_ok (l : List St) : ∀ (v : Value) (D : Nat → Prop) (w : World), SlR 10 RSt D w v l → snodes l ≤ 1000000 → Calls Tryz.prog 75 #[v] w (Ret fun r w' => r = .bool (stdeep l) ∧ Ext w w') := by
 induction l using Sts.ind with
 | h l ih =>
 intro v D w hl hsz
 have hlen := slen_le l
 obtain ⟨ao, cap, rfl⟩ := hl.form
 refine G.in1 Tryz.func75 rfl Tryz.ntmps75 rfl (V.inn (Vs 12 rfl (V.loopK (σ := Nat) [0] [] [] rfl (fun e i => (3, .int .i64 i) :: e) (fun e i => e) (fun i => i ≤ l.length ∧ stdeep (l.take i) = false) (fun i => l.length - i) (0) (Sub.of rfl) (Has.of rfl) (fun _ => rfl) (fun _ => rfl) (fun _ => rfl) (⟨Nat.zero_le _, rfl⟩) ?_)))
 rintro i ⟨hi, hno⟩
 refine Vs 9 rfl (V.ite rfl (fun hlt => ?_) (fun hge => ?_))
 ·
  refine V.elG 1000 0 i (by omega) hl rfl rfl rfl (fun s b_s o_s c_s he_s hm_s ha_s hR_s => ?_)
  obtain ⟨v1_s, v2_s, v3_s, v4_s, rfl, hk_s, ht_s, hs_s, hb_s⟩ := hR_s.get
  obtain ⟨a1_s, n1_s, rfl⟩ := hk_s.form
  obtain ⟨a2_s, n2_s, rfl⟩ := ht_s.form
  obtain ⟨a3_s, n3_s, rfl⟩ := hs_s.form
  obtain ⟨a4_s, n4_s, rfl⟩ := hb_s.form
  have hsp := snodes_split he_s
  have hse := s.nodes_eq
  have htk := stdeep_take he_s
  rw [hno, Bool.false_or, s.tdeep_eq] at htk
  have hyes : (decide (12 < s.term.depth) || stdeep s.thn || stdeep s.els) = true → stdeep l = true := by
   intro h
   rw [split_get he_s, stdeep_append]
   simp only [stdeep, s.tdeep_eq, h, Bool.true_or, Bool.or_true]
  refine Vs 8 rfl ?_
  refine V.ix 1000 Tryz.runUnderlying24 Tryz.sizeOf72 rfl ha_s (by omega) (_) (rfl) rfl (Vs 2 rfl (V.call1 Tryz.call73 rfl (fun w hI => refTermDepth_ok s.term _ D w (RTm.put (Tr1 hI.k0 hk_s)) (by omega)) (Vs 2 rfl (V.sp 17 rfl (fun h1 => ?_) (fun h1 => ?_)))))
  · refine Vs 29 rfl (V.ret1e 0 Tryz.results75 rfl rfl (by rw [hyes (by rw [decide_eq_true (show 12 < s.term.depth by omega)]; rfl)]))
  have h1' : decide (12 < s.term.depth) = false := decide_eq_false (by omega)
  refine Vs 2 rfl ?_
  refine V.ix 1000 Tryz.runUnderlying24 Tryz.sizeOf72 rfl ha_s (by omega) (_) (rfl) rfl (Vs 2 rfl (V.call1 Tryz.call75 rfl (fun w hI => (ih s hm_s).1 _ D w (Tr1 hI.k0 ht_s) (by omega)) (Vs 2 rfl (V.sb 25 rfl (fun h2 => ?_) (fun h2 => ?_)))))
  · refine Vs 21 rfl (V.ret1e 0 Tryz.results75 rfl rfl (by rw [hyes (by rw [h2]; simp)]))
  refine Vs 2 rfl ?_
  refine V.ix 1000 Tryz.runUnderlying24 Tryz.sizeOf72 rfl ha_s (by omega) (_) (rfl) rfl (Vs 2 rfl (V.call1 Tryz.call75 rfl (fun w hI => (ih s hm_s).2 _ D w (Tr1 hI.k0 hs_s) (by omega)) (Vs 3 rfl (V.bool rfl (fun h3 => ?_) (fun h3 => ?_)))))
  · refine Vs 11 rfl (V.ret1e 0 Tryz.results75 rfl rfl (by rw [hyes (by rw [h3]; simp)]))
  refine Va 8 rfl (by omega) (V.back (i + 1) (Sub.of rfl) (Has.of rfl) (⟨by omega, by rw [htk, h1', h2, h3]; rfl⟩) (by first | omega | (dsimp only; omega)) 0 rfl rfl)
 obtain rfl : i = l.length := by omega
 rw [List.take_length] at hno
 refine Vs 11 rfl (V.ret1e 0 Tryz.results75 rfl rfl (by rw [hno]))
theorem refMost_ok (a b : Int) (w : World) : Calls Tryz.prog 39 #[.int .i64 a, .int .i64 b] w (Ret fun r w' => r = .int .i64 (max a b) ∧ Ext w w') := by
 refine G.in2 Tryz.func39 rfl Tryz.ntmps39 rfl (V.inn (Vs 13 rfl (V.ite rfl (fun k1_ => ?_) (fun k1_ => ?_))))
 · refine Vs 8 rfl (V.ret1e 0 Tryz.results39 rfl rfl (by congr 1; omega))
 refine Vs 9 rfl (V.ret1e 0 Tryz.results39 rfl rfl (by congr 1; omega))
theorem refLeast_ok (a b : Int) (w : World) : Calls Tryz.prog 40 #[.int .i64 a, .int .i64 b] w (Ret fun r w' => r = .int .i64 (min a b) ∧ Ext w w') := by
 refine G.in2 Tryz.func40 rfl Tryz.ntmps40 rfl (V.inn (Vs 13 rfl (V.ite rfl (fun k1_ => ?_) (fun k1_ => ?_))))
 · refine Vs 8 rfl (V.ret1e 0 Tryz.results40 rfl rfl (by congr 1; omega))
 refine Vs 9 rfl (V.ret1e 0 Tryz.results40 rfl rfl (by congr 1; omega))
theorem refSize1_ok (a : Int) (w : World) (ha : -4611686018427387904 ≤ a) : Calls Tryz.prog 133 #[.int .i64 a] w (Ret fun r w' => r = .int .i64 (if a < 0 then -a else a) ∧ Ext w w') := by
 refine G.in1 Tryz.func133 rfl Tryz.ntmps133 rfl (V.inn (Vs 12 rfl (V.ite rfl (fun k1_ => ?_) (fun k1_ => ?_))))
 · refine Va 9 rfl (by omega) (V.ret1e 0 Tryz.results133 rfl rfl (by simp [*]))
 refine Vs 9 rfl (V.ret1e 0 Tryz.results133 rfl rfl (by simp [*]))
theorem termLeft_ok (t : Tm) : ∀ (cs : List Value) (D : Nat → Prop) (w : World) (left : Int), RTm D w t cs → -100000 ≤ left → left ≤ 1000000 → Calls Tryz.prog 31 #[.agg cs.toArray, .int .i64 left] w (Ret fun r w' => (∃ m : Int, r = .int .i64 m ∧ ((t.nodes : Int) ≤ left → m = left - t.nodes) ∧ (¬ (t.nodes : Int) ≤ left → m < 0 ∧ min left 0 - 1 ≤ m)) ∧ Ext w w') := by
 induction t using Tm.ind with
 | h t ih =>
 intro cs D w left ht h1 h2
 have hse := t.nodes_eq
 obtain ⟨v, rfl, hk⟩ := ht.get
 have hmx := hk.max
 obtain ⟨ao, cap, rfl⟩ := hk.form
 refine G.in2 Tryz.func31 rfl Tryz.ntmps31 rfl (V.inn (Vs 2 rfl (V.box 2 rfl rfl (fun b2 => ?_))))
 refine Va 17 rfl (by omega) (V.loopK (σ := Nat × Int) [2] [2] [2] rfl (fun e ⟨i, x⟩ => (1, .int .i64 x) :: (5, .int .i64 i) :: e) (fun e ⟨i, x⟩ => e) (fun ⟨i, x⟩ => i ≤ t.kids.length ∧ ((1 + tnodes (t.kids.take i) : Nat) ≤ left → x = left - (1 + tnodes (t.kids.take i) : Nat)) ∧ (¬ ((1 + tnodes (t.kids.take i) : Nat) : Int) ≤ left → x < 0 ∧ min left 0 - 1 ≤ x)) (fun ⟨i, x⟩ => t.kids.length - i) ((0, left - 1)) (Sub.of rfl) (Has.of rfl) (fun _ => rfl) (fun _ => rfl) (fun _ => rfl) (⟨Nat.zero_le _, fun _ => rfl, fun h => by simp [tnodes] at h; omega⟩) ?_)
 rintro ⟨i, x⟩ ⟨hi, hy, hn⟩
 show V _ _ _ _ _ ((1, .int .i64 x) :: (5, .int .i64 i) :: _) _ (_) _
 have hend : (i = t.kids.length ∨ x < 0) → ((t.nodes : Int) ≤ left → x = left - t.nodes) ∧ (¬ (t.nodes : Int) ≤ left → x < 0 ∧ min left 0 - 1 ≤ x) := by
  intro h
  have hle : tnodes (t.kids.take i) ≤ tnodes t.kids := by
   have := tnodes_append (t.kids.take i) (t.kids.drop i)
   rw [List.take_append_drop] at this
   omega
  rcases h with h | h
  ·
   rw [h, List.take_length] at hy hn
   constructor
   · intro h3; rw [hy (by omega)]; omega
   intro h3; exact hn (by omega)
  constructor
  · intro h3; have := hy (by omega); omega
  intro h3
  by_cases h4 : ((1 + tnodes (t.kids.take i) : Nat) : Int) ≤ left
  · have := hy h4; omega
  exact hn h4
 refine Vs 9 rfl (V.sp 13 rfl (fun hlt => ?_) (fun hlt => ?_))
 ·
  refine Vs 5 rfl (V.ite rfl (fun hx0 => ?_) (fun hx0 => ?_))
  ·
   refine Vs 8 rfl (V.elG 1000 0 i (by omega) hk rfl rfl rfl (fun k b_k o_k c_k he_k hm_k ha_k hR_k => ?_))
   obtain ⟨v1_k, rfl, hk_k⟩ := hR_k.get
   obtain ⟨a1_k, n1_k, rfl⟩ := hk_k.form
   refine V.ix 1000 Tryz.runUnderlying68 Tryz.sizeOf70 rfl ha_k (by omega) (_) (rfl) rfl ?_
   have hsp := tnodes_take he_k
   refine Vs 2 rfl (V.call2 Tryz.call31 rfl (fun w hI => ih k hm_k _ D w x (RTm.put (Tr1 hI.k0 hk_k)) (by omega) (by by_cases h4 : ((1 + tnodes (t.kids.take i) : Nat) : Int) ≤ left <;> first | (have := hy h4; omega) | (have := hn h4; omega))) ?_)
   rintro r w1 w2 hI1 hk12 ⟨m, rfl, hm1, hm2⟩ hlow
   have g1 : ((1 + tnodes (t.kids.take (i + 1)) : Nat) : Int) ≤ left → m = left - (1 + tnodes (t.kids.take (i + 1)) : Nat) := fun h3 => by
    rw [hsp] at h3 ⊢
    have := hy (by omega)
    rw [hm1 (by omega)]; omega
   have g2 : ¬ ((1 + tnodes (t.kids.take (i + 1)) : Nat) : Int) ≤ left → m < 0 ∧ min left 0 - 1 ≤ m := fun h3 => by
    rw [hsp] at h3
    by_cases h4 : ((1 + tnodes (t.kids.take i) : Nat) : Int) ≤ left
    ·
     have := hy h4
     have := hm2 (by omega)
     omega
    have := hn h4; omega
   refine Va 9 rfl (by omega) (V.back (⟨i + 1, m⟩) (Sub.of rfl) (Has.of rfl) (⟨by omega, g1, g2⟩) (by first | omega | (dsimp only; omega)) 1 rfl rfl)
  refine Vs 12 rfl (V.ret1 Tryz.results31 rfl (fun w hI => ⟨_, rfl, ⟨x, rfl, hend (.inr (by omega))⟩, hI.k0⟩))
 refine Vs 18 rfl (V.ret1 Tryz.results31 rfl (fun w hI => ⟨_, rfl, ⟨x, rfl, hend (.inl (by omega))⟩, hI.k0⟩))
end Go.Proofs.YtgojdedggmehiaaGreat
namespace Go.GL
theorem Nd.eq4 {a b : Nd} (h1 : a.kind = b.kind) (h2 : a.at_ = b.at_) (h3 : a.next = b.next) (h4 : a.other = b.other) : a = b := by
 cases a; cases b; simp_all
mutual
/-- The number of nodes of a step. -/
def St.wid : St → Nat
 | .mk a _ _ _ _ f g _ => 1 + widL f + widL g + (if a = 4 then 1 else 0)
def widL : List St → Nat
 | [] => 0
 | s :: r => s.wid + widL r
end
theorem St.wid_eq (s : St) : s.wid = 1 + widL s.thn + widL s.els + (if s.act = 4 then 1 else 0) := by cases s; rfl
theorem widL_append (a b : List St) : widL (a ++ b) = widL a + widL b := by
 induction a with
 | nil => simp [widL]
 | cons x r ih => simp [widL, ih, Nat.add_assoc]
theorem widL_take {l : List St} {i : Nat} {x : St} (h : l[i]? = some x) : widL (l.take (i + 1)) = widL (l.take i) + x.wid := by rw [take_get h, widL_append]; simp [widL]
theorem widL_split {l : List St} {i : Nat} {x : St} (h : l[i]? = some x) : widL l = widL (l.take i) + x.wid + widL (l.drop (i + 1)) := by
 conv => lhs; rw [split_get h]
 rw [widL_append]; simp [widL, Nat.add_assoc]
theorem widL_le : ∀ l : List St, widL l ≤ 2 * ssize l := by
 intro l
 induction l using Sts.ind with
 | h l ih =>
  have key : ∀ r : List St, (∀ s ∈ r, widL s.thn ≤ 2 * ssize s.thn ∧ widL s.els ≤ 2 * ssize s.els) → widL r ≤ 2 * ssize r := by
   intro r
   induction r with
   | nil => intro _; simp [widL]
   | cons x r ih2 =>
    intro h
    have h1 := h x (List.mem_cons_self ..)
    have h2 := ih2 (fun s hs => h s (List.mem_cons_of_mem _ hs))
    have h3 := x.wid_eq
    have h4 := x.size_eq
    have h5 : (if x.act = 4 then 1 else 0) ≤ 1 := by split <;> omega
    simp only [widL, ssize]; omega
  exact key l ih
mutual
def St.lay : St → Nat → Nat → Nat → List Nd
 | .mk a _ _ _ _ f g _, at_, node, e =>
  if a = 3 then ⟨3, at_, if f.isEmpty then e else (node + 1 : Nat), if g.isEmpty then e else (node + 1 + widL f : Nat)⟩ :: (layL f (at_ + 1) (node + 1) e ++ layL g (at_ + 1 + ssize f) (node + 1 + widL f) e)
  else if a = 4 then ⟨4, at_, (node + 1 : Nat), -1⟩ :: ⟨5, at_, if f.isEmpty then (node + 1 : Nat) else (node + 2 : Nat), e⟩ :: layL f (at_ + 1) (node + 2) (node + 1)
  else [⟨2, at_, e, -1⟩]
def layL : List St → Nat → Nat → Nat → List Nd
 | [], _, _, _ => []
 | s :: r, at_, node, after => s.lay at_ node (if r.isEmpty then after else node + s.wid) ++ layL r (at_ + s.size) (node + s.wid) after
end
theorem St.lay_eq (s : St) (at_ node e : Nat) : s.lay at_ node e =
  if s.act = 3 then ⟨3, at_, if s.thn.isEmpty then e else (node + 1 : Nat), if s.els.isEmpty then e else (node + 1 + widL s.thn : Nat)⟩ :: (layL s.thn (at_ + 1) (node + 1) e ++ layL s.els (at_ + 1 + ssize s.thn) (node + 1 + widL s.thn) e)
  else if s.act = 4 then ⟨4, at_, (node + 1 : Nat), -1⟩ :: ⟨5, at_, if s.thn.isEmpty then (node + 1 : Nat) else (node + 2 : Nat), e⟩ :: layL s.thn (at_ + 1) (node + 2) (node + 1)
  else [⟨2, at_, e, -1⟩] := by cases s; rw [St.lay]; rfl
def cfgN (f : Fl) : List Nd := ⟨0, -1, 1, -1⟩ :: (layL f.body 0 1 (1 + widL f.body) ++ [⟨1, -1, -1, -1⟩])
abbrev Hang := Nat × Bool
def setE (ns : List Nd) (to : Int) (e : Hang) : List Nd := ns.modify e.1 fun x => if e.2 then { x with other := to } else { x with next := to }
def setAll (ns : List Nd) (to : Int) (es : List Hang) : List Nd := es.foldl (fun ns e => setE ns to e) ns
structure Bd where
 nodes : List Nd
 step : Nat
mutual
def St.one : St → Nat → Bd → Bd × List Hang
 | .mk a _ _ _ _ f g _, at_, b =>
  if a = 3 then
   let x := listB f { nodes := b.nodes ++ [⟨3, b.step, -1, -1⟩], step := b.step + 1 } [(at_, false)]
   let y := listB g x.1 [(at_, true)]
   (y.1, x.2 ++ y.2)
  else if a = 4 then
   let x := listB f { nodes := setE (b.nodes ++ [⟨4, b.step, -1, -1⟩, ⟨5, b.step, -1, -1⟩]) (at_ + 1 : Nat) (at_, false), step := b.step + 1 } [(at_ + 1, false)]
   ({ x.1 with nodes := setAll x.1.nodes (at_ + 1 : Nat) x.2 }, [(at_ + 1, true)])
  else ({ nodes := b.nodes ++ [⟨2, b.step, -1, -1⟩], step := b.step + 1 }, [(at_, false)])
def listB : List St → Bd → List Hang → Bd × List Hang
 | [], b, ins => (b, ins)
 | s :: r, b, ins =>
  let x := s.one b.nodes.length { b with nodes := setAll b.nodes b.nodes.length ins }
  listB r x.1 x.2
end
theorem St.one_eq (s : St) (at_ : Nat) (b : Bd) : s.one at_ b =
  if s.act = 3 then
   ((listB s.els (listB s.thn { nodes := b.nodes ++ [⟨3, b.step, -1, -1⟩], step := b.step + 1 } [(at_, false)]).1 [(at_, true)]).1,
    (listB s.thn { nodes := b.nodes ++ [⟨3, b.step, -1, -1⟩], step := b.step + 1 } [(at_, false)]).2 ++ (listB s.els (listB s.thn { nodes := b.nodes ++ [⟨3, b.step, -1, -1⟩], step := b.step + 1 } [(at_, false)]).1 [(at_, true)]).2)
  else if s.act = 4 then
   ({ (listB s.thn { nodes := setE (b.nodes ++ [⟨4, b.step, -1, -1⟩, ⟨5, b.step, -1, -1⟩]) (at_ + 1 : Nat) (at_, false), step := b.step + 1 } [(at_ + 1, false)]).1 with
    nodes := setAll (listB s.thn { nodes := setE (b.nodes ++ [⟨4, b.step, -1, -1⟩, ⟨5, b.step, -1, -1⟩]) (at_ + 1 : Nat) (at_, false), step := b.step + 1 } [(at_ + 1, false)]).1.nodes (at_ + 1 : Nat)
     (listB s.thn { nodes := setE (b.nodes ++ [⟨4, b.step, -1, -1⟩, ⟨5, b.step, -1, -1⟩]) (at_ + 1 : Nat) (at_, false), step := b.step + 1 } [(at_ + 1, false)]).2 }, [(at_ + 1, true)])
  else ({ nodes := b.nodes ++ [⟨2, b.step, -1, -1⟩], step := b.step + 1 }, [(at_, false)]) := by cases s; rw [St.one]; rfl
theorem listB_cons (s : St) (r : List St) (b : Bd) (ins : List Hang) : listB (s :: r) b ins = listB r (s.one b.nodes.length { b with nodes := setAll b.nodes b.nodes.length ins }).1 (s.one b.nodes.length { b with nodes := setAll b.nodes b.nodes.length ins }).2 := by rw [listB]
def buildB (f : Fl) : List Nd :=
 setAll (listB f.body { nodes := [⟨0, -1, -1, -1⟩], step := 0 } [(0, false)]).1.nodes ((listB f.body { nodes := [⟨0, -1, -1, -1⟩], step := 0 } [(0, false)]).1.nodes.length : Nat) (listB f.body { nodes := [⟨0, -1, -1, -1⟩], step := 0 } [(0, false)]).2 ++ [⟨1, -1, -1, -1⟩]
theorem setE_len (ns : List Nd) (to : Int) (e : Hang) : (setE ns to e).length = ns.length := by simp [setE]
theorem setAll_len (es : List Hang) : ∀ (ns : List Nd) (to : Int), (setAll ns to es).length = ns.length := by
 induction es with
 | nil => intro ns to; rfl
 | cons e r ih => intro ns to; rw [setAll, List.foldl_cons, ← setAll, ih, setE_len]
theorem setAll_cons (e : Hang) (r : List Hang) (ns : List Nd) (to : Int) : setAll ns to (e :: r) = setAll (setE ns to e) to r := rfl
theorem setAll_append (a b : List Hang) (ns : List Nd) (to : Int) : setAll ns to (a ++ b) = setAll (setAll ns to a) to b := by simp [setAll, List.foldl_append]
theorem setE_comm (ns : List Nd) (to to' : Int) (e e' : Hang) (h : to = to' ∨ e ≠ e') : setE (setE ns to e) to' e' = setE (setE ns to' e') to e := by
 apply List.ext_getElem?
 intro i
 simp only [setE, List.getElem?_modify]
 obtain ⟨a, p⟩ := e
 obtain ⟨a', p'⟩ := e'
 dsimp only
 by_cases h1 : a = i <;> by_cases h2 : a' = i <;> simp only [h1, h2, if_true, if_false] <;> cases ns[i]? <;> simp
 rename_i x
 cases p <;> cases p' <;> simp
 ·
  rcases h with h | h
  · exact h.symm
  exact absurd (by rw [h1, h2]) h
 rcases h with h | h
 · exact h.symm
 exact absurd (by rw [h1, h2]) h
theorem setAll_setE (es : List Hang) : ∀ (ns : List Nd) (to to' : Int) (e : Hang), (to = to' ∨ e ∉ es) → setAll (setE ns to' e) to es = setE (setAll ns to es) to' e := by
 induction es with
 | nil => intro ns to to' e _; rfl
 | cons x r ih =>
  intro ns to to' e h
  rw [setAll_cons, setAll_cons, ← ih _ _ _ _ (h.imp id (fun h hm => h (List.mem_cons_of_mem _ hm)))]
  congr 1
  exact setE_comm _ _ _ _ _ (h.imp (fun h => h.symm) (fun h he => h (by rw [he]; exact List.mem_cons_self ..)))
theorem setAll_comm (es es' : List Hang) (ns : List Nd) (to : Int) : setAll (setAll ns to es) to es' = setAll (setAll ns to es') to es := by
 induction es generalizing ns with
 | nil => rfl
 | cons e r ih =>
  rw [setAll_cons, ih, setAll_cons, setAll_setE _ _ _ _ _ (.inl rfl)]
theorem setE_left {ns ms : List Nd} {to : Int} {e : Hang} (h : e.1 < ns.length) : setE (ns ++ ms) to e = setE ns to e ++ ms := by
 apply List.ext_getElem?
 intro i
 simp only [setE, List.getElem?_modify]
 by_cases h1 : i < ns.length
 · rw [List.getElem?_append_left h1, List.getElem?_append_left (by simpa using h1), List.getElem?_modify]
 rw [List.getElem?_append_right (by omega), List.getElem?_append_right (by simp; omega)]
 simp [show ¬ e.1 = i by omega]
theorem setAll_left {es : List Hang} : ∀ {ns ms : List Nd} {to : Int}, (∀ e ∈ es, e.1 < ns.length) → setAll (ns ++ ms) to es = setAll ns to es ++ ms := by
 induction es with
 | nil => intro ns ms to _; rfl
 | cons e r ih =>
  intro ns ms to h
  rw [setAll_cons, setAll_cons, setE_left (h e (List.mem_cons_self ..)), ih (fun x hx => by rw [setE_len]; exact h x (List.mem_cons_of_mem _ hx))]
theorem setE_last {ns : List Nd} {x : Nd} {to : Int} {p : Bool} {k : Nat} (hk : k = ns.length) : setE (ns ++ [x]) to (k, p) = ns ++ [if p then { x with other := to } else { x with next := to }] := by
 subst hk
 apply List.ext_getElem?
 intro i
 simp only [setE, List.getElem?_modify]
 by_cases h1 : i < ns.length
 · rw [List.getElem?_append_left h1, List.getElem?_append_left h1]; simp [show ¬ ns.length = i by omega]
 rw [List.getElem?_append_right (by omega), List.getElem?_append_right (by omega)]
 by_cases h2 : i = ns.length
 · subst h2; simp
 rw [List.getElem?_eq_none (by simp; omega), List.getElem?_eq_none (by simp; omega)]; simp
theorem setE_mid {ns ms : List Nd} {x : Nd} {to : Int} {p : Bool} {k : Nat} (hk : k = ns.length) : setE (ns ++ x :: ms) to (k, p) = ns ++ (if p then { x with other := to } else { x with next := to }) :: ms := by
 have := setE_left (ns := ns ++ [x]) (ms := ms) (to := to) (e := (k, p)) (by simp; omega)
 rw [List.append_assoc, List.singleton_append, setE_last hk] at this
 simpa using this
mutual
def St.plainB : St → Bool
 | .mk a _ _ _ _ f g _ => (if a = 3 then true else if a = 4 then g.isEmpty else f.isEmpty && g.isEmpty) && plainL f && plainL g
def plainL : List St → Bool
 | [] => true
 | s :: r => s.plainB && plainL r
end
theorem St.plainB_eq (s : St) : s.plainB = ((if s.act = 3 then true else if s.act = 4 then s.els.isEmpty else s.thn.isEmpty && s.els.isEmpty) && plainL s.thn && plainL s.els) := by cases s; rw [St.plainB]; rfl
theorem plainL_mem {l : List St} (h : plainL l = true) : ∀ s ∈ l, s.plainB = true := by
 induction l with
 | nil => intro s hs; simp at hs
 | cons x r ih =>
  intro s hs
  rw [plainL, Bool.and_eq_true] at h
  rcases List.mem_cons.1 hs with rfl | hs
  · exact h.1
  exact ih h.2 s hs
theorem plainL_of {l : List St} (h : ∀ s ∈ l, s.plainB = true) : plainL l = true := by
 induction l with
 | nil => rfl
 | cons x r ih => rw [plainL, h x (List.mem_cons_self ..), ih (fun s hs => h s (List.mem_cons_of_mem _ hs))]; rfl
structure BOk (l : List St) (b : Bd) (ins : List Hang) (c : Bd) (outs : List Hang) : Prop where
 len : c.nodes.length = b.nodes.length + widL l
 step : c.step = b.step + ssize l
 out : ∀ e ∈ outs, e ∈ ins ∨ b.nodes.length ≤ e.1
 lt : ∀ e ∈ outs, e.1 < c.nodes.length
 lay : ∀ after : Nat, setAll c.nodes after outs = setAll b.nodes (if l.isEmpty then after else b.nodes.length : Nat) ins ++ layL l b.step b.nodes.length after
structure OOk (s : St) (b : Bd) (c : Bd) (outs : List Hang) : Prop where
 len : c.nodes.length = b.nodes.length + s.wid
 step : c.step = b.step + s.size
 out : ∀ e ∈ outs, b.nodes.length ≤ e.1
 lt : ∀ e ∈ outs, e.1 < c.nodes.length
 lay : ∀ after : Nat, setAll c.nodes after outs = b.nodes ++ s.lay b.step b.nodes.length after
theorem one_built (s : St) (hp : s.plainB = true) (h1 : ∀ (b : Bd) (ins : List Hang), (∀ e ∈ ins, e.1 < b.nodes.length) → BOk s.thn b ins (listB s.thn b ins).1 (listB s.thn b ins).2)
  (h2 : ∀ (b : Bd) (ins : List Hang), (∀ e ∈ ins, e.1 < b.nodes.length) → BOk s.els b ins (listB s.els b ins).1 (listB s.els b ins).2) (b : Bd) : OOk s b (s.one b.nodes.length b).1 (s.one b.nodes.length b).2 := by
 rw [s.plainB_eq, Bool.and_eq_true, Bool.and_eq_true] at hp
 have hw := s.wid_eq
 have hz := s.size_eq
 rw [s.one_eq]
 by_cases a3 : s.act = 3
 ·
  rw [if_neg (show ¬ s.act = 4 by omega)] at hw
  simp only [if_pos a3]
  have H1 := h1 { nodes := b.nodes ++ [⟨3, b.step, -1, -1⟩], step := b.step + 1 } [(b.nodes.length, false)] (by simp)
  generalize hx : listB s.thn { nodes := b.nodes ++ [⟨3, b.step, -1, -1⟩], step := b.step + 1 } [(b.nodes.length, false)] = x at H1
  obtain ⟨len1, step1, out1, lt1, lay1⟩ := H1
  simp only [List.length_append, List.length_singleton] at len1 step1 out1 lay1
  have H2 := h2 x.1 [(b.nodes.length, true)] (by simp; omega)
  generalize hy : listB s.els x.1 [(b.nodes.length, true)] = y at H2
  obtain ⟨len2, step2, out2, lt2, lay2⟩ := H2
  refine ⟨by omega, by omega, ?_, ?_, ?_⟩
  ·
   intro e he
   rcases List.mem_append.1 he with he | he
   ·
    rcases out1 e he with h | h
    · rw [List.mem_singleton.1 h]; exact Nat.le_refl _
    omega
   rcases out2 e he with h | h
   · rw [List.mem_singleton.1 h]; exact Nat.le_refl _
   omega
  ·
   intro e he
   rcases List.mem_append.1 he with he | he
   · have := lt1 e he; omega
   exact lt2 e he
  intro after
  have hnot : (b.nodes.length, true) ∉ x.2 := by
   intro h
   rcases out1 _ h with h | h
   · simp at h
   dsimp only at h; omega
  rw [setAll_append, setAll_comm, lay2, setAll_left (by intro e he; rw [setAll_len]; exact lt1 e he)]
  rw [show ∀ (t : Int), setAll x.1.nodes t [(b.nodes.length, true)] = setE x.1.nodes t (b.nodes.length, true) from fun _ => rfl]
  rw [setAll_setE _ _ _ _ _ (.inr hnot), lay1]
  rw [show ∀ (t : Int) (ns : List Nd), setAll ns t [(b.nodes.length, false)] = setE ns t (b.nodes.length, false) from fun _ _ => rfl]
  rw [setE_last rfl, List.append_assoc, List.singleton_append, setE_mid rfl, s.lay_eq, if_pos a3]
  rw [List.append_assoc, List.cons_append, step1, len1]
  simp only [if_true, Bool.false_eq_true, if_false]
  congr 2
  apply Nd.eq4 <;> dsimp only
  · split <;> rfl
  rw [apply_ite Nat.cast]
 by_cases a4 : s.act = 4
 ·
  rw [if_pos a4] at hw
  rw [if_neg a3, if_pos a4] at hp
  have he0 : s.els = [] := by simpa using hp.1.1
  rw [he0] at hw hz
  simp only [widL, ssize] at hw hz
  simp only [if_neg a3, if_pos a4]
  have hst : setE (b.nodes ++ [⟨4, b.step, -1, -1⟩, ⟨5, b.step, -1, -1⟩]) (b.nodes.length + 1 : Nat) (b.nodes.length, false) = b.nodes ++ [⟨4, b.step, (b.nodes.length + 1 : Nat), -1⟩, ⟨5, b.step, -1, -1⟩] := by rw [setE_mid rfl]; rfl
  rw [hst]
  have H1 := h1 { nodes := b.nodes ++ [⟨4, b.step, (b.nodes.length + 1 : Nat), -1⟩, ⟨5, b.step, -1, -1⟩], step := b.step + 1 } [(b.nodes.length + 1, false)] (by simp)
  generalize hx : listB s.thn { nodes := b.nodes ++ [⟨4, b.step, (b.nodes.length + 1 : Nat), -1⟩, ⟨5, b.step, -1, -1⟩], step := b.step + 1 } [(b.nodes.length + 1, false)] = x at H1
  obtain ⟨len1, step1, out1, lt1, lay1⟩ := H1
  simp only [List.length_append, List.length_cons, List.length_nil] at len1 step1 out1 lay1
  refine ⟨by rw [setAll_len]; omega, by dsimp only; omega, ?_, ?_, ?_⟩
  ·
   intro e he
   rw [List.mem_singleton.1 he]; dsimp only; omega
  ·
   intro e he
   rw [List.mem_singleton.1 he, setAll_len]; dsimp only; omega
  intro after
  dsimp only
  rw [lay1]
  simp only [show ∀ (t : Int) (ns : List Nd) (q : Bool), setAll ns t [(b.nodes.length + 1, q)] = setE ns t (b.nodes.length + 1, q) from fun _ _ _ => rfl]
  rw [show ∀ (x y : Nd), b.nodes ++ [x, y] = (b.nodes ++ [x]) ++ [y] from fun x y => by simp]
  rw [setE_last (by simp)]
  rw [List.append_assoc (b.nodes ++ [_]), List.singleton_append, setE_mid (by simp), s.lay_eq, if_neg a3, if_pos a4, List.append_assoc, List.singleton_append]
  simp only [if_true, Bool.false_eq_true, if_false]
  congr 3
  apply Nd.eq4 <;> dsimp only
  rw [apply_ite Nat.cast]
 rw [if_neg a4] at hw
 rw [if_neg a3, if_neg a4, Bool.and_eq_true, List.isEmpty_iff, List.isEmpty_iff] at hp
 rw [hp.1.1.1, hp.1.1.2] at hw hz
 simp only [widL, ssize] at hw hz
 simp only [if_neg a3, if_neg a4]
 refine ⟨by simp; omega, by dsimp only; omega, ?_, ?_, ?_⟩
 · intro e he; rw [List.mem_singleton.1 he]; exact Nat.le_refl _
 · intro e he; rw [List.mem_singleton.1 he]; simp
 intro after
 dsimp only
 rw [show ∀ (t : Int) (ns : List Nd), setAll ns t [(b.nodes.length, false)] = setE ns t (b.nodes.length, false) from fun _ _ => rfl]
 rw [setE_last rfl, s.lay_eq, if_neg a3, if_neg a4]
 rfl
theorem list_built (l : List St) : plainL l = true → ∀ (b : Bd) (ins : List Hang), (∀ e ∈ ins, e.1 < b.nodes.length) → BOk l b ins (listB l b ins).1 (listB l b ins).2 := by
 induction l using Sts.ind with
 | h l ih =>
 intro hp
 have key : ∀ r : List St, (∀ x ∈ r, x ∈ l) → ∀ (b : Bd) (ins : List Hang), (∀ e ∈ ins, e.1 < b.nodes.length) → BOk r b ins (listB r b ins).1 (listB r b ins).2 := by
  intro r
  induction r with
  | nil =>
   intro _ b ins hi
   rw [listB]
   exact ⟨by simp [widL], by simp [ssize], fun e he => .inl he, hi, fun after => by simp [layL]⟩
  | cons s r ihr =>
   intro hm b ins hi
   have hs := plainL_mem hp s (hm s (List.mem_cons_self ..))
   have hs2 := hs
   rw [s.plainB_eq, Bool.and_eq_true, Bool.and_eq_true] at hs2
   have H := one_built s hs (fun b ins h => (ih s (hm s (List.mem_cons_self ..))).1 hs2.1.2 b ins h) (fun b ins h => (ih s (hm s (List.mem_cons_self ..))).2 hs2.2 b ins h) { b with nodes := setAll b.nodes b.nodes.length ins }
   rw [listB_cons]
   dsimp only at H
   rw [setAll_len] at H
   generalize s.one b.nodes.length { b with nodes := setAll b.nodes b.nodes.length ins } = x at H
   obtain ⟨len1, step1, out1, lt1, lay1⟩ := H
   simp only [setAll_len] at len1 step1 out1 lt1 lay1
   have H2 := ihr (fun y hy => hm y (List.mem_cons_of_mem _ hy)) x.1 x.2 lt1
   generalize listB r x.1 x.2 = y at H2
   obtain ⟨len2, step2, out2, lt2, lay2⟩ := H2
   refine ⟨by simp only [widL]; omega, by simp only [ssize]; omega, ?_, lt2, ?_⟩
   ·
    intro e he
    rcases out2 e he with h | h
    · exact .inr (out1 e h)
    exact .inr (by omega)
   intro after
   rw [lay2, lay1, layL, List.append_assoc, len1, step1]
   simp only [List.isEmpty_cons, Bool.false_eq_true, if_false]
 exact key l (fun x h => h)
theorem build_eq (f : Fl) (hp : plainL f.body = true) : buildB f = cfgN f := by
 have H := list_built f.body hp { nodes := [⟨0, -1, -1, -1⟩], step := 0 } [(0, false)] (by simp)
 unfold buildB cfgN
 generalize listB f.body { nodes := [⟨0, -1, -1, -1⟩], step := 0 } [(0, false)] = x at H ⊢
 obtain ⟨len1, step1, out1, lt1, lay1⟩ := H
 simp only [List.length_singleton] at len1 lay1
 rw [lay1, len1]
 rw [show ∀ (t : Int) (ns : List Nd), setAll ns t [((0 : Nat), false)] = setE ns t (0, false) from fun _ _ => rfl]
 have h1 : ∀ t : Int, setE [⟨0, -1, -1, -1⟩] t (0, false) = [⟨0, -1, t, -1⟩] := fun t => rfl
 rw [h1]
 have h2 : ((if f.body.isEmpty then 1 + widL f.body else 1 : Nat) : Int) = 1 := by
  split
  ·
   rename_i h
   have : f.body = [] := by simpa using h
   rw [this]; rfl
  rfl
 rw [h2]
 rfl
theorem layL_len (l : List St) : plainL l = true → ∀ at_ node after, (layL l at_ node after).length = widL l := by
 intro hp at_ node after
 have H := list_built l hp { nodes := List.replicate node ⟨0, 0, 0, 0⟩, step := at_ } [] (by simp)
 have h1 := H.lay after
 have h2 := congrArg List.length h1
 rw [setAll_len, H.len] at h2
 simp [setAll] at h2
 exact h2.symm
theorem cfgN_len (f : Fl) (hp : plainL f.body = true) : (cfgN f).length = widL f.body + 2 := by
 simp [cfgN, layL_len _ hp]
structure Nums (ns : List Nd) (a n : Nat) : Prop where
 range : ∀ x ∈ ns, (a : Int) ≤ x.at_ ∧ x.at_ < (a + n : Nat)
 ord : ns.Pairwise fun x y => x.at_ ≤ y.at_
 all : ∀ k, k < n → ∃ x ∈ ns, x.at_ = (a + k : Nat)
theorem Nums.nil (a : Nat) : Nums [] a 0 := ⟨fun x h => by simp at h, List.Pairwise.nil, fun k h => by omega⟩
theorem Nums.append {ns ms : List Nd} {a n b m : Nat} (h : Nums ns a n) (h' : Nums ms b m) (hb : b = a + n) : Nums (ns ++ ms) a (n + m) := by
 subst hb
 refine ⟨fun x hx => ?_, ?_, fun k hk => ?_⟩
 ·
  rcases List.mem_append.1 hx with hx | hx
  · have := h.range x hx; omega
  have := h'.range x hx; omega
 ·
  rw [List.pairwise_append]
  refine ⟨h.ord, h'.ord, fun x hx y hy => ?_⟩
  have := h.range x hx
  have := h'.range y hy
  omega
 by_cases hk2 : k < n
 ·
  obtain ⟨x, hx, e⟩ := h.all k hk2
  exact ⟨x, List.mem_append_left _ hx, e⟩
 obtain ⟨x, hx, e⟩ := h'.all (k - n) (by omega)
 exact ⟨x, List.mem_append_right _ hx, by rw [e]; omega⟩
theorem Nums.cons {ns : List Nd} {a n : Nat} {x : Nd} (h : Nums ns (a + 1) n) (hx : x.at_ = a) : Nums (x :: ns) a (n + 1) := by
 refine ⟨fun y hy => ?_, ?_, fun k hk => ?_⟩
 ·
  rcases List.mem_cons.1 hy with rfl | hy
  · omega
  have := h.range y hy; omega
 ·
  rw [List.pairwise_cons]
  exact ⟨fun y hy => by have := h.range y hy; omega, h.ord⟩
 by_cases hk2 : k = 0
 · subst hk2; exact ⟨x, List.mem_cons_self .., hx⟩
 obtain ⟨y, hy, e⟩ := h.all (k - 1) (by omega)
 exact ⟨y, List.mem_cons_of_mem _ hy, by rw [e]; omega⟩
theorem Nums.again {ns : List Nd} {a n : Nat} {x : Nd} (h : Nums ns a n) (hn : 0 < n) (hx : x.at_ = a) : Nums (x :: ns) a n := by
 refine ⟨fun y hy => ?_, ?_, fun k hk => ?_⟩
 ·
  rcases List.mem_cons.1 hy with rfl | hy
  · omega
  exact h.range y hy
 ·
  rw [List.pairwise_cons]
  exact ⟨fun y hy => by have := h.range y hy; omega, h.ord⟩
 obtain ⟨y, hy, e⟩ := h.all k hk
 exact ⟨y, List.mem_cons_of_mem _ hy, e⟩
theorem lay_nums (l : List St) : plainL l = true → ∀ a node after, Nums (layL l a node after) a (ssize l) := by
 induction l using Sts.ind with
 | h l ih =>
 intro hp
 have key : ∀ r : List St, (∀ x ∈ r, x ∈ l) → ∀ a node after, Nums (layL r a node after) a (ssize r) := by
  intro r
  induction r with
  | nil => intro _ a node after; exact Nums.nil a
  | cons s r ihr =>
   intro hm a node after
   have hs := plainL_mem hp s (hm s (List.mem_cons_self ..))
   rw [s.plainB_eq, Bool.and_eq_true, Bool.and_eq_true] at hs
   have h1 := (ih s (hm s (List.mem_cons_self ..))).1 hs.1.2
   have h2 := (ih s (hm s (List.mem_cons_self ..))).2 hs.2
   rw [layL, ssize]
   refine Nums.append ?_ (ihr (fun y hy => hm y (List.mem_cons_of_mem _ hy)) _ _ _) rfl
   generalize (if r.isEmpty = true then after else node + s.wid) = e
   have hz := s.size_eq
   rw [s.lay_eq]
   by_cases a3 : s.act = 3
   ·
    rw [if_pos a3, show s.size = (ssize s.thn + ssize s.els) + 1 by omega]
    exact Nums.cons (Nums.append (h1 _ _ _) (h2 _ _ _) rfl) rfl
   by_cases a4 : s.act = 4
   ·
    rw [if_neg a3, if_pos a4] at hs
    rw [if_neg a3, if_pos a4]
    have he0 : s.els = [] := by simpa using hs.1.1
    rw [he0] at hz
    simp only [ssize] at hz
    rw [show s.size = ssize s.thn + 1 by omega]
    exact Nums.again (Nums.cons (h1 _ _ _) rfl) (by omega) rfl
   rw [if_neg a3, if_neg a4, Bool.and_eq_true, List.isEmpty_iff, List.isEmpty_iff] at hs
   rw [if_neg a3, if_neg a4]
   rw [hs.1.1.1, hs.1.1.2] at hz
   simp only [ssize] at hz
   rw [show s.size = 0 + 1 by omega]
   exact Nums.cons (Nums.nil _) rfl
 exact key l (fun x h => h)
open Go.RowKit
def Wr (p : TypeId → Bool) (W0 : Nat) (w : World) (k : Nat) : Prop := W0 ≤ k ∧ ∀ cs e, Blk w k cs e → p e = true
abbrev KT (p : TypeId → Bool) (W0 : Nat) (w w' : World) : Prop := Keep (Wr p W0 w) w w'
section
variable {p : TypeId → Bool} {W0 : Nat} {w w' w'' : World}
theorem Blk.ty {b : Nat} {cs cs' : List Value} {e e' : TypeId} (h : Blk w b cs e) (h' : Blk w b cs' e') : e = e' ∧ cs = cs' := by
 unfold Blk at h h'
 rw [h] at h'
 injection h' with h'
 injection h' with h1 h2
 exact ⟨h2, List.toArray_inj h1⟩
theorem Blk.ne {a b : Nat} {cs cs' : List Value} {e e' : TypeId} (h : Blk w a cs e) (h' : Blk w b cs' e') (hne : e ≠ e') : a ≠ b := by
 rintro rfl
 exact hne (h.ty h').1
theorem Wr.mk {k : Nat} {cs : List Value} {e : TypeId} (hW : W0 ≤ k) (hb : Blk w k cs e) (hp : p e = true) : Wr p W0 w k := ⟨hW, fun cs' e' h => by rw [← (hb.ty h).1]; exact hp⟩
theorem KT.refl : KT p W0 w w := Keep.refl _ _
theorem KT.trans (h : KT p W0 w w') (h' : KT p W0 w' w'') : KT p W0 w w'' := by
 refine Keep.trans h h' (fun k hk hT => ?_)
 by_cases hS : Wr p W0 w k
 · exact hS
 exfalso
 apply hS
 refine ⟨hT.1, fun cs e h2 => hT.2 cs e ?_⟩
 unfold Blk at h2 ⊢
 rw [h.block k hk hS]; exact h2
theorem KT.of_ext (h : Ext w w') : KT p W0 w w' := Keep.mono h (fun _ _ h => h.elim)
theorem KT.ext' (h : KT p W0 w w') (h' : Ext w' w'') : KT p W0 w w'' := KT.trans h (KT.of_ext h')
theorem KT.wrote {b : Nat} {cs cs' : List Value} {e : TypeId} (hb : Blk w b cs e) (hp : p e = true) (hW : W0 ≤ b) (h : Wrote w b cs' e w') : KT p W0 w w' :=
 h.2.2.mono (fun k _ (hk : k = b) => by subst hk; exact Wr.mk hW hb hp)
theorem own_blkty {e : TypeId} {k : Nat} {v : Value} {n : Nat} {xs : List Value} (h : w.ownsRow 0 e k v n xs) {g : Nat} (hg : v.ownBlock = some g) : ∃ cs, Blk w g cs e := by
 rcases h.2 with ⟨rfl, _⟩ | ⟨g', cap, cur, rfl, _, h2, _⟩
 · simp [Value.ownBlock] at hg
 simp [Value.ownBlock] at hg
 subst hg
 exact ⟨cur.toList, by unfold Blk; simpa using h2⟩
theorem KT.row {e : TypeId} {k : Nat} {v : Value} {n : Nat} {xs : List Value} (ho : w.ownsRow 0 e k v n xs) (hp : p e = true) (hW : ∀ g, v.ownBlock = some g → W0 ≤ g) (h : Keep (fun k => v.ownBlock = some k) w w') : KT p W0 w w' :=
 h.mono (fun g _ hg => by obtain ⟨cs, hb⟩ := own_blkty ho hg; exact Wr.mk (hW g hg) hb hp)
theorem KT.new {S : Nat → Prop} (h : KT p W0 w w') (h' : Keep S w' w'') (hS : ∀ k, S k → w.heap.size ≤ k) : KT p W0 w w'' :=
 Keep.trans h h' (fun k hk hT => absurd (hS k hT) (by omega))
theorem KT.fresh (h : KT p W0 w w') (hW : w.heap.size ≤ W0) : Ext w w' := Keep.mono h (fun k hk ⟨h1, _⟩ => by omega)
theorem KT.blk (h : KT p W0 w w') {b : Nat} {cs : List Value} {e : TypeId} (hb : Blk w b cs e) (hp : p e = false) : Blk w' b cs e :=
 Keep.blk h hb (fun ⟨_, h2⟩ => by have := h2 _ _ hb; rw [hp] at this; cases this)
theorem KT.own (h : KT p W0 w w') {e : TypeId} {k : Nat} {v : Value} {n : Nat} {xs : List Value} (ho : w.ownsRow 0 e k v n xs) (hp : p e = false) : w'.ownsRow 0 e k v n xs :=
 own_keep ho h (fun g hg ⟨_, h2⟩ => by obtain ⟨cs, hb⟩ := own_blkty ho hg; have := h2 _ _ hb; rw [hp] at this; cases this)
theorem KT.sl (h : KT p W0 w w') {α : Type} {k : Nat} {R : Rel α} (hs : Stable R) {D : Nat → Prop} {v : Value} {l : List α} (hl : SlR k R D w v l) (hD : ∀ q, D q → q < W0) : SlR k R D w' v l :=
 hl.keep hs h (fun q hq _ ⟨h1, _⟩ => by have := hD q hq; omega)
end
theorem nodup_inj {α : Type} {f : α → Nat} : ∀ {l : List α}, (l.map f).Nodup → ∀ {x y : α}, x ∈ l → y ∈ l → f x = f y → x = y
 | [], _, _, _, hx, _, _ => by simp at hx
 | z :: r, h, x, y, hx, hy, e => by
  rw [List.map_cons, List.nodup_cons] at h
  rcases List.mem_cons.1 hx with h1 | h1
  ·
   rcases List.mem_cons.1 hy with h2 | h2
   · rw [h1, h2]
   exact absurd (List.mem_map.2 ⟨y, h2, by rw [← e, h1]⟩) h.1
  rcases List.mem_cons.1 hy with h2 | h2
  · exact absurd (List.mem_map.2 ⟨x, h1, by rw [e, h2]⟩) h.1
  exact nodup_inj h.2 h1 h2 e
section
variable {P : Program} {n : Fm} {ops : Array Oper} {Q : Exit → Act → World → Prop} {S : World → Prop} {L : List Nat} {env : Env} {w : World} {fuel : Nat} {listed : Array Bool}
theorem wp_does {i d : Nat} {o : Oper} {R : Value → World → Prop} {K : Act → World → Prop} {Q' : Exit → Act → World → Prop} {a : Act} (hi : ops[i]? = some o) (hg : o.guard = none) (hd : o.dst = some d) (ha : Ok n env a) (hm : Does P o env w R)
  (h : ∀ v w', R v w' → K (a.put (some d) v) w') : wpOp P ops Q' i K a w := by
 refine mk_wpOp hi hg ?_
 unfold Oper.wp
 rcases hm with ⟨v, w', h1, h2⟩ | ⟨f, args, h1, h2⟩
 ·
  rw [h1 n a ha, Oper.upon_value, hd]
  exact h v w' h2
 rw [h1 n a ha, Oper.upon_enter]
 refine h2.mono ?_
 rintro e w' ⟨v, rfl, hR⟩
 simp only [hd]
 exact h v w' hR
end
end Go.GL
namespace Go.Proofs.YtgojdedggmehiaaGreat
open Go.GL
def encN (x : Nd) : List Value := [.int .i64 x.kind, .int .i64 x.at_, .int .i64 x.next, .int .i64 x.other]
theorem encN_len (x : Nd) : (encN x).length = 4 := rfl
theorem encN_one (x : Nd) : ∀ u ∈ encN x, u.oneCell' = true := by simp [encN, Value.oneCell']
def bty (e : TypeId) : Bool := e == 107 || e == 64
theorem bty1 : bty 107 = true := by decide
theorem bty2 : bty 64 = true := by decide
structure BdS (W0 B : Nat) (w : World) (b : Bd) (v : Value) : Prop where
 blk : Blk w B [v, .int .i64 b.step] 107
 row : w.ownsRow 0 64 4 v b.nodes.length (b.nodes.flatMap encN)
 low : W0 ≤ B
 far : ∀ g, v.ownBlock = some g → W0 ≤ g
theorem BdS.ext {W0 B : Nat} {w w' : World} {b : Bd} {v : Value} (h : BdS W0 B w b v) (hk : Ext w w') : BdS W0 B w' b v := ⟨hk.blk h.blk (fun h => h), own_keep h.row hk (fun _ _ h => h), h.low, h.far⟩
theorem BdS.ne {W0 B : Nat} {w : World} {b : Bd} {v : Value} (h : BdS W0 B w b v) {g : Nat} (hg : v.ownBlock = some g) : g ≠ B := by
 obtain ⟨cs, hb⟩ := own_blkty h.row hg
 exact hb.ne h.blk (by decide)
def HC (B : Nat) (w : World) (e : Hang) (x : Value) : Prop := ∃ bb ab, x = .func (.func (if e.2 then 138 else 91)) #[] #[.pointer (some ⟨bb, 0, none⟩), .pointer (some ⟨ab, 0, none⟩)] ∧ Blk w bb [.pointer (some ⟨B, 0, none⟩)] 105 ∧ Blk w ab [.int .i64 e.1] 3
theorem HC.one {B : Nat} {w : World} {e : Hang} {x : Value} (h : HC B w e x) : x.oneCell' = true := by obtain ⟨_, _, rfl, _⟩ := h; rfl
theorem HC.ext {B : Nat} {w w' : World} {e : Hang} {x : Value} (h : HC B w e x) (hk : Ext w w') : HC B w' e x := by
 obtain ⟨bb, ab, h1, h2, h3⟩ := h
 exact ⟨bb, ab, h1, hk.blk h2 (fun h => h), hk.blk h3 (fun h => h)⟩
theorem HC.kt {B W0 : Nat} {w w' : World} {e : Hang} {x : Value} (h : HC B w e x) (hk : KT bty W0 w w') : HC B w' e x := by
 obtain ⟨bb, ab, h1, h2, h3⟩ := h
 exact ⟨bb, ab, h1, hk.blk h2 (by decide), hk.blk h3 (by decide)⟩
def Hung (B : Nat) (w : World) (v : Value) (es : List Hang) : Prop := ∃ xs : List Value, w.ownsRow 0 110 1 v es.length xs ∧ ∀ (i : Nat) e x, es[i]? = some e → xs[i]? = some x → HC B w e x
theorem Hung.ext {B : Nat} {w w' : World} {v : Value} {es : List Hang} (h : Hung B w v es) (hk : Ext w w') : Hung B w' v es := by
 obtain ⟨xs, h1, h2⟩ := h
 exact ⟨xs, own_keep h1 hk (fun _ _ h => h), fun i e x he hx => (h2 i e x he hx).ext hk⟩
theorem Hung.kt {B W0 : Nat} {w w' : World} {v : Value} {es : List Hang} (h : Hung B w v es) (hk : KT bty W0 w w') : Hung B w' v es := by
 obtain ⟨xs, h1, h2⟩ := h
 exact ⟨xs, hk.own h1 (by decide), fun i e x he hx => (h2 i e x he hx).kt hk⟩
theorem Hung.form {B : Nat} {w : World} {v : Value} {es : List Hang} (h : Hung B w v es) : ∃ ao c, v = .slice ao es.length c ∧ es.length ≤ c := by
 obtain ⟨xs, h1, h2⟩ := h
 rcases h1.2 with ⟨rfl, h3⟩ | ⟨g, cap, cur, rfl, h3, h4, h5, h6⟩
 · rw [h3]; exact ⟨_, _, rfl, Nat.le_refl _⟩
 exact ⟨_, _, rfl, h5⟩
theorem Hung.at {B : Nat} {w : World} {ao : Option Addr} {n c : Nat} {es : List Hang} (h : Hung B w (.slice ao n c) es) {i : Nat} {e : Hang} (he : es[i]? = some e) : ∃ g x, ao = some ⟨g, 0, none⟩ ∧ Cells w g (0 + i * 1) [x] ∧ HC B w e x := by
 obtain ⟨xs, h1, h2⟩ := h
 have hi := (List.getElem?_eq_some_iff.1 he).1
 have hxl := h1.1
 obtain ⟨x, hx⟩ : ∃ x, xs[i]? = some x := ⟨_, List.getElem?_eq_getElem (by omega)⟩
 rcases h1.2 with ⟨h3, h4⟩ | ⟨g, cap, cur, h3, _, h4, h5, h6, h7, h8⟩
 · omega
 cases h3
 refine ⟨g, x, rfl, ?_, h2 i e x he hx⟩
 intro j u hu
 cases j with
 | zero =>
  simp at hu; subst hu
  have hb : Blk w g cur.toList 110 := by unfold Blk; simpa using h4
  have := hb.cells i x (by rw [← h8, List.getElem?_take] at hx; split at hx; exact hx; cases hx)
  simpa using this
 | succ j => simp at hu
theorem next_ok (B : Nat) (k : Nat) (w : World) : Calls Tryz.prog 49 #[.pointer (some ⟨B, 0, none⟩), .int .i64 k] w (Ret fun r w' => HC B w' (k, false) r ∧ Ext w w') := by
 have hE := Keep.refl (fun _ => False) w
 refine G.in2 Tryz.func49 rfl Tryz.ntmps49 rfl (Gs 2 rfl (G.mem rfl rfl (M.box rfl rfl) ?_))
 rintro _ w_bb ⟨bb, rfl, hg_bb, hs_bb, hB_bb, hk_bb⟩
 have hge_bb : _ ≤ bb := Nat.le_trans hE.size (Nat.le_of_eq hg_bb.symm)
 replace hE := Tr1 hk_bb hE
 refine G.mem rfl rfl (M.box rfl rfl) ?_
 rintro _ w_ab ⟨ab, rfl, hg_ab, hs_ab, hB_ab, hk_ab⟩
 have hn_bb_ab : bb ≠ ab := by have := hB_bb.lt; omega
 have hge_ab : _ ≤ ab := Nat.le_trans hE.size (Nat.le_of_eq hg_ab.symm)
 obtain ⟨hE, hB_bb⟩ := Tr2 hk_ab hE hB_bb
 refine Gs 10 rfl (G.ret1 Tryz.results49 rfl ⟨_, rfl, ⟨bb, ab, rfl, hB_bb, hB_ab⟩, hE⟩)
theorem other_ok (B : Nat) (k : Nat) (w : World) : Calls Tryz.prog 122 #[.pointer (some ⟨B, 0, none⟩), .int .i64 k] w (Ret fun r w' => HC B w' (k, true) r ∧ Ext w w') := by
 have hE := Keep.refl (fun _ => False) w
 refine G.in2 Tryz.func122 rfl Tryz.ntmps122 rfl (Gs 2 rfl (G.mem rfl rfl (M.box rfl rfl) ?_))
 rintro _ w_bb ⟨bb, rfl, hg_bb, hs_bb, hB_bb, hk_bb⟩
 have hge_bb : _ ≤ bb := Nat.le_trans hE.size (Nat.le_of_eq hg_bb.symm)
 replace hE := Tr1 hk_bb hE
 refine G.mem rfl rfl (M.box rfl rfl) ?_
 rintro _ w_ab ⟨ab, rfl, hg_ab, hs_ab, hB_ab, hk_ab⟩
 have hn_bb_ab : bb ≠ ab := by have := hB_bb.lt; omega
 have hge_ab : _ ≤ ab := Nat.le_trans hE.size (Nat.le_of_eq hg_ab.symm)
 obtain ⟨hE, hB_bb⟩ := Tr2 hk_ab hE hB_bb
 refine Gs 10 rfl (G.ret1 Tryz.results122 rfl ⟨_, rfl, ⟨bb, ab, rfl, hB_bb, hB_ab⟩, hE⟩)
theorem set_node (L : List Nd) (i : Nat) (hi : i < L.length) (sp : List Value) (to : Int) (p : Bool) : (L.flatMap encN ++ sp).set (i * 4 + (if p then 3 else 2)) (.int .i64 to) = (setE L to (i, p)).flatMap encN ++ sp := by
 have h1 := flat_set (enc := encN) encN_len hi (if p then { L[i] with other := to } else { L[i] with next := to }) sp
 have h2 : setE L to (i, p) = L.set i (if p then { L[i] with other := to } else { L[i] with next := to }) := by
  apply List.ext_getElem?
  intro j
  simp only [setE, List.getElem?_modify, List.getElem?_set]
  by_cases hj : i = j
  · subst hj; simp [hi]
  simp [hj]
 rw [h2, ← h1]
 have h3 := flat_set (enc := encN) encN_len hi L[i] sp
 rw [List.set_getElem_self] at h3
 have ht : ((L.flatMap encN ++ sp).take (i * 4)).length = i * 4 := by
  have := flat_len encN_len L
  rw [List.length_take, List.length_append]; omega
 generalize (L.flatMap encN ++ sp).drop (i * 4 + 4) = C at h3 ⊢
 generalize (L.flatMap encN ++ sp).take (i * 4) = A at h3 ht ⊢
 rw [← h3, List.append_assoc, List.append_assoc, List.set_append_right _ _ (by rw [ht]; exact Nat.le_add_right _ _), ht, Nat.add_sub_cancel_left]
 cases p <;> rfl
theorem next_ok' (W0 B bb ab i : Nat) (to : Int) (b : Bd) (v : Value) (w : World) (hb : BdS W0 B w b v) (hbb : Blk w bb [.pointer (some ⟨B, 0, none⟩)] 105) (hab : Blk w ab [.int .i64 (i : Nat)] 3) (hi : i < b.nodes.length) :
  Calls Tryz.prog 91 #[.int .i64 to, .pointer (some ⟨bb, 0, none⟩), .pointer (some ⟨ab, 0, none⟩)] w (Ret fun _ w' => BdS W0 B w' { b with nodes := setE b.nodes to (i, false) } v ∧ KT bty W0 w w') := by
 obtain ⟨g, cap, sp, rfl, _, hnc, hcm, hBg, hlen⟩ := own_open encN_len (by decide) hb.row (by intro h; rw [h] at hi; simp at hi)
 have hB := hb.blk
 have hll := flat_len encN_len b.nodes
 have hfl : (b.nodes.flatMap encN ++ sp).length = b.nodes.length * 4 + sp.length := by rw [List.length_append, hll]
 have hgB := hb.ne rfl
 have hset := set_node b.nodes i hi sp to false
 refine G.in3 Tryz.func91 rfl Tryz.ntmps91 rfl (Dw (fun q => Ext w q) [8] (fun wd1 hD _ => ?_))
 refine WD.take 0 rfl (by kernel_rfl) rfl rfl rfl hD (fun w1 hw1 => R.load Tryz.isAgg105 rfl ((hw1.blk hbb (fun h => h)).cells 0 _ rfl)) (Ds [1, 2] (by kernel_rfl) rfl (WD.take 3 rfl (by kernel_rfl) rfl rfl rfl hD (fun w1 hw1 => R.load Tryz.isAgg29 rfl ((hw1.blk hB (fun h => h)).cells 0 _ rfl)) (WD.take 4 rfl (by kernel_rfl) rfl rfl rfl hD (fun w1 hw1 => R.load Tryz.isAgg3 rfl ((hw1.blk hab (fun h => h)).cells 0 _ rfl)) (Da [5, 6, 7] (by kernel_rfl) rfl (by omega) (WD.mem0 8 rfl (by kernel_rfl) rfl rfl (M.store Tryz.sizeOf3 rfl rfl rfl rfl (hD.blk hBg (fun h => h)) (by rw [hfl]; show 0 + (i : Int).toNat * 4 + 2 < _; omega)) ?_)))))
 rintro wf ⟨_, hBf, hkf⟩
 refine ⟨fun h => absurd (List.mem_singleton.2 rfl) h, ?_⟩
 rw [show 0 + (i : Int).toNat * 4 + _ = i * 4 + (if false then 3 else 2) by simp, hset] at hBf
 have hK : KT bty W0 w wf := Keep.trans (KT.of_ext hD) hkf (fun q hq h => by have h : q = g := h; subst h; exact Wr.mk (hb.far _ rfl) hBg bty2)
 refine G.done (by kernel_rfl) ?_ _
 refine G.end0 Tryz.results91 ⟨_, rfl, ⟨hkf.blk (hD.blk hB (fun h => h)) (fun h => hgB h.symm), ?_, hb.low, hb.far⟩, hK⟩
 have h := own_shut encN_len (k := b.nodes.length) hBf (by rw [List.length_append, flat_len encN_len, setE_len]; omega) (by rw [setE_len]; exact Nat.le_refl _) hnc hcm
 rw [List.take_of_length_le (by rw [setE_len]; exact Nat.le_refl _)] at h
 rw [setE_len]; exact h
theorem other_ok' (W0 B bb ab i : Nat) (to : Int) (b : Bd) (v : Value) (w : World) (hb : BdS W0 B w b v) (hbb : Blk w bb [.pointer (some ⟨B, 0, none⟩)] 105) (hab : Blk w ab [.int .i64 (i : Nat)] 3) (hi : i < b.nodes.length) :
  Calls Tryz.prog 138 #[.int .i64 to, .pointer (some ⟨bb, 0, none⟩), .pointer (some ⟨ab, 0, none⟩)] w (Ret fun _ w' => BdS W0 B w' { b with nodes := setE b.nodes to (i, true) } v ∧ KT bty W0 w w') := by
 obtain ⟨g, cap, sp, rfl, _, hnc, hcm, hBg, hlen⟩ := own_open encN_len (by decide) hb.row (by intro h; rw [h] at hi; simp at hi)
 have hB := hb.blk
 have hll := flat_len encN_len b.nodes
 have hfl : (b.nodes.flatMap encN ++ sp).length = b.nodes.length * 4 + sp.length := by rw [List.length_append, hll]
 have hgB := hb.ne rfl
 have hset := set_node b.nodes i hi sp to true
 refine G.in3 Tryz.func138 rfl Tryz.ntmps138 rfl (Dw (fun q => Ext w q) [8] (fun wd1 hD _ => ?_))
 refine WD.take 0 rfl (by kernel_rfl) rfl rfl rfl hD (fun w1 hw1 => R.load Tryz.isAgg105 rfl ((hw1.blk hbb (fun h => h)).cells 0 _ rfl)) (Ds [1, 2] (by kernel_rfl) rfl (WD.take 3 rfl (by kernel_rfl) rfl rfl rfl hD (fun w1 hw1 => R.load Tryz.isAgg29 rfl ((hw1.blk hB (fun h => h)).cells 0 _ rfl)) (WD.take 4 rfl (by kernel_rfl) rfl rfl rfl hD (fun w1 hw1 => R.load Tryz.isAgg3 rfl ((hw1.blk hab (fun h => h)).cells 0 _ rfl)) (Da [5, 6, 7] (by kernel_rfl) rfl (by omega) (WD.mem0 8 rfl (by kernel_rfl) rfl rfl (M.store Tryz.sizeOf3 rfl rfl rfl rfl (hD.blk hBg (fun h => h)) (by rw [hfl]; show 0 + (i : Int).toNat * 4 + 3 < _; omega)) ?_)))))
 rintro wf ⟨_, hBf, hkf⟩
 refine ⟨fun h => absurd (List.mem_singleton.2 rfl) h, ?_⟩
 rw [show 0 + (i : Int).toNat * 4 + _ = i * 4 + (if true then 3 else 2) by simp, hset] at hBf
 have hK : KT bty W0 w wf := Keep.trans (KT.of_ext hD) hkf (fun q hq h => by have h : q = g := h; subst h; exact Wr.mk (hb.far _ rfl) hBg bty2)
 refine G.done (by kernel_rfl) ?_ _
 refine G.end0 Tryz.results138 ⟨_, rfl, ⟨hkf.blk (hD.blk hB (fun h => h)) (fun h => hgB h.symm), ?_, hb.low, hb.far⟩, hK⟩
 have h := own_shut encN_len (k := b.nodes.length) hBf (by rw [List.length_append, flat_len encN_len, setE_len]; omega) (by rw [setE_len]; exact Nat.le_refl _) hnc hcm
 rw [List.take_of_length_le (by rw [setE_len]; exact Nat.le_refl _)] at h
 rw [setE_len]; exact h
theorem add_ok (W0 B : Nat) (kind : Int) (b : Bd) (v : Value) (w : World) (hb : BdS W0 B w b v) (hW : W0 ≤ w.heap.size) (hsz : b.nodes.length ≤ 100000) :
  Calls Tryz.prog 121 #[.pointer (some ⟨B, 0, none⟩), .int .i64 kind] w (Ret fun _ w' => (∃ v', BdS W0 B w' { b with nodes := b.nodes ++ [⟨kind, b.step, -1, -1⟩] } v') ∧ KT bty W0 w w') := by
 have hB := hb.blk
 refine G.in2 Tryz.func121 rfl Tryz.ntmps121 rfl (Dw (fun q => Blk q B [v, .int .i64 b.step] 107) [15] (fun wd hD _ => ?_))
 have hb1 := hb.ext hD
 refine Ds [0, 1, 2, 3] (by kernel_rfl) rfl (WD.take 4 rfl (by kernel_rfl) rfl rfl rfl hb1.blk (fun w1 hw1 => R.load Tryz.isAgg29 rfl (hw1.cells 0 _ rfl)) (Ds [5, 6, 7, 8] (by kernel_rfl) rfl (WD.take 9 rfl (by kernel_rfl) rfl rfl rfl hb1.blk (fun w1 hw1 => R.load Tryz.isAgg3 rfl (hw1.cells 1 _ rfl)) (WD.takeW 10 rfl (by kernel_rfl) rfl rfl rfl (fun w1 => R.build (v := .agg #[.int .i64 kind, .int .i64 b.step, .int .i64 (-1), .int .i64 (-1)]) [(0, _), (1, _), (2, _), (3, _)] rfl (fun _ => by kernel_rfl)) (WD.mem 11 rfl (by kernel_rfl) rfl rfl rfl (M.buildSlice (cs := encN ⟨kind, b.step, -1, -1⟩) [(0, _)] Tryz.runUnderlying29 Tryz.sizeOf64 Tryz.zeroValue64 (by decide) rfl (by kernel_rfl)) ?_)))))
 rintro _ w2 ⟨b2, rfl, hb2, hs2, hB2, hk2⟩
 have hb3 := hb1.ext hk2
 refine ⟨fun _ => hb3.blk, ?_⟩
 refine WD.mem 12 rfl (by kernel_rfl) rfl rfl rfl (M.append Tryz.underlying29 Tryz.el64 rfl (by decide) rfl rfl hb3.row rfl (Cells.add hB2.cells) (encN_one _) (by omega) (by omega)) ?_
 rintro v' w3 ⟨hown, hfr, hk3, _⟩
 have hBB := hk3.blk hb3.blk (fun h => hb3.ne h rfl)
 refine ⟨fun _ => hBB, ?_⟩
 refine Ds [13, 14] (by kernel_rfl) rfl ?_
 obtain ⟨av, cv, rfl⟩ := own_form hown
 refine WD.mem0 15 rfl (by kernel_rfl) rfl rfl (M.store Tryz.sizeOf29 rfl rfl rfl rfl hBB (by simp)) ?_
 rintro wf ⟨_, hBf, hkf⟩
 refine ⟨fun h => absurd (List.mem_singleton.2 rfl) h, ?_⟩
 have hsz1 := hD.size
 have hfar : ∀ g, Value.ownBlock (.slice av (b.nodes.length + 1) cv) = some g → W0 ≤ g ∧ g ≠ B := by
  intro g hg
  rcases hfr with h | ⟨g', h1, h2⟩
  · exact ⟨hb.far g (by rw [← h]; exact hg), hb3.ne (by rw [← h]; exact hg)⟩
  rw [h1] at hg; cases hg
  have := hb3.blk.lt
  exact ⟨by omega, by omega⟩
 refine G.done (by kernel_rfl) ?_ _
 refine G.end0 Tryz.results121 ⟨_, rfl, ⟨.slice av (b.nodes.length + 1) cv, hBf, ?_, hb.low, fun g hg => (hfar g hg).1⟩, ?_⟩
 ·
  have h := own_keep hown hkf (fun g hg h => (hfar g hg).2 h)
  rw [List.length_append, List.flatMap_append]
  simpa using h
 exact KT.trans (KT.trans (KT.of_ext (hD.ext hk2)) (KT.row hb3.row bty2 hb3.far hk3)) (hkf.mono (fun q hq h => by have h : q = B := h; subst h; exact Wr.mk hb.low hBB bty1))
theorem hang_ok (W0 B i : Nat) (p : Bool) (to : Int) (b : Bd) (v x : Value) (w : World) (hb : BdS W0 B w b v) (hx : HC B w (i, p) x) (hi : i < b.nodes.length) :
  ∃ f, ∃ cs : List Value, x = .func (.func f) #[] cs.toArray ∧ (∀ args w, (callFunc f args).run Tryz.prog w = .ok (.enter f args) w) ∧ Calls Tryz.prog f (([] : List Value) ++ [Value.int .i64 to] ++ cs).toArray w (Ret fun _ w' => BdS W0 B w' { b with nodes := setE b.nodes to (i, p) } v ∧ KT bty W0 w w') := by
 obtain ⟨bb, ab, rfl, h1, h2⟩ := hx
 cases p
 · exact ⟨_, [_, _], rfl, Tryz.call91, next_ok' W0 B bb ab i to b v w hb h1 h2 hi⟩
 exact ⟨_, [_, _], rfl, Tryz.call138, other_ok' W0 B bb ab i to b v w hb h1 h2 hi⟩
theorem BdS.bump {W0 B : Nat} {w w' : World} {b : Bd} {v : Value} (h : BdS W0 B w b v) (hw : Wrote w B [v, .int .i64 ((b.step : Int) + 1)] 107 w') : BdS W0 B w' { b with step := b.step + 1 } v ∧ KT bty W0 w w' :=
 ⟨⟨hw.2.1, own_keep h.row hw.2.2 (fun _ hg he => h.ne hg he), h.low, h.far⟩, KT.wrote h.blk bty1 h.low hw⟩
theorem Hung.lit {B : Nat} {w : World} {g : Nat} {x : Value} {e : Hang} (hb : Blk w g [x] 110) (hx : HC B w e x) : Hung B w (.slice (some ⟨g, 0, none⟩) 1 1) [e] :=
 ⟨[x], own_blk (k := 1) (n := 1) (cap := 1) hb (Nat.le_refl _) (by decide) rfl, fun i e' x' he hx' => by
  cases i with
  | zero => simp at he hx'; subst he; subst hx'; exact hx
  | succ i => simp at he⟩
theorem Hung.len {B : Nat} {w : World} {v : Value} {es : List Hang} (h : Hung B w v es) : es.length ≤ 9223372036854775807 := by
 obtain ⟨xs, h1, _⟩ := h
 obtain ⟨_, _, _, h2, h3⟩ := own_slice h1
 omega
theorem one_hang (s : St) (h1 : ∀ b ins, (listB s.thn b ins).2.length ≤ max ins.length 1 + widL s.thn) (h2 : ∀ b ins, (listB s.els b ins).2.length ≤ max ins.length 1 + widL s.els) (a : Nat) (b : Bd) : (s.one a b).2.length ≤ 1 + s.wid := by
 rw [s.one_eq]
 have hw := s.wid_eq
 split
 ·
  dsimp only
  rw [List.length_append]
  have e1 := h1 { nodes := b.nodes ++ [⟨3, b.step, -1, -1⟩], step := b.step + 1 } [(a, false)]
  have e2 := h2 (listB s.thn { nodes := b.nodes ++ [⟨3, b.step, -1, -1⟩], step := b.step + 1 } [(a, false)]).1 [(a, true)]
  simp only [List.length_singleton] at e1 e2
  omega
 split <;> simp
theorem list_hang (l : List St) : ∀ b ins, (listB l b ins).2.length ≤ max ins.length 1 + widL l := by
 induction l using Sts.ind with
 | h l ih =>
 have key : ∀ r : List St, (∀ x ∈ r, x ∈ l) → ∀ b ins, (listB r b ins).2.length ≤ max ins.length 1 + widL r := by
  intro r
  induction r with
  | nil => intro _ b ins; rw [listB]; dsimp only; omega
  | cons s r ihr =>
   intro hm b ins
   have h1 := one_hang s (ih s (hm s (List.mem_cons_self ..))).1 (ih s (hm s (List.mem_cons_self ..))).2 b.nodes.length { b with nodes := setAll b.nodes b.nodes.length ins }
   rw [listB_cons]
   have h2 := ihr (fun y hy => hm y (List.mem_cons_of_mem _ hy)) (s.one b.nodes.length { b with nodes := setAll b.nodes b.nodes.length ins }).1 (s.one b.nodes.length { b with nodes := setAll b.nodes b.nodes.length ins }).2
   simp only [widL]
   omega
 exact key l (fun x h => h)
theorem setAll_take {ns : List Nd} {to : Int} {es : List Hang} {i : Nat} {e : Hang} (h : es[i]? = some e) : setAll ns to (es.take (i + 1)) = setE (setAll ns to (es.take i)) to e := by rw [take_get h, setAll_append]; rfl
def ListOk (l : List St) : Prop := ∀ (W0 B : Nat) (v vin : Value) (D : Nat → Prop) (w : World) (b : Bd) (nv : Value) (ins : List Hang), SlR 10 RSt D w v l → (∀ q, D q → q < W0) → BdS W0 B w b nv → Hung B w vin ins → (∀ e ∈ ins, e.1 < b.nodes.length) → W0 ≤ w.heap.size →
 plainL l = true → b.nodes.length + widL l ≤ 100000 → b.step + ssize l ≤ 100000 →
 Calls Tryz.prog 48 #[.pointer (some ⟨B, 0, none⟩), v, vin] w (Ret fun r w' => (∃ nv', BdS W0 B w' (listB l b ins).1 nv') ∧ Hung B w' r (listB l b ins).2 ∧ (r.ownBlock = vin.ownBlock ∨ ∃ g, r.ownBlock = some g ∧ w.heap.size ≤ g) ∧ KT bty W0 w w')
theorem one_ok (s : St) (h1 : ListOk s.thn) (h2 : ListOk s.els) (W0 B : Nat) (cs : List Value) (D : Nat → Prop) (w : World) (b : Bd) (nv : Value) (hs : RSt D w s cs) (hD : ∀ q, D q → q < W0) (hb : BdS W0 B w b nv) (hW : W0 ≤ w.heap.size) (hp : s.plainB = true)
  (hn : b.nodes.length + s.wid ≤ 100000) (hst : b.step + s.size ≤ 100000) :
  Calls Tryz.prog 90 #[.pointer (some ⟨B, 0, none⟩), .agg cs.toArray, .int .i64 b.nodes.length] w (Ret fun r w' => (∃ nv', BdS W0 B w' (s.one b.nodes.length b).1 nv') ∧ Hung B w' r (s.one b.nodes.length b).2 ∧ (∃ g, r.ownBlock = some g ∧ w.heap.size ≤ g) ∧ KT bty W0 w w') := by
 have hs1 := hs.one
 obtain ⟨v1, v2, v3, v4, rfl, hk, ht, he, hbs⟩ := hs.get
 have hw := s.wid_eq
 have hz := s.size_eq
 have hp2 := hp
 rw [s.plainB_eq, Bool.and_eq_true, Bool.and_eq_true] at hp2
 have hwl := hW
 refine G.in3 Tryz.func90 rfl Tryz.ntmps90 rfl (Gs 2 rfl (G.mem rfl rfl (M.box rfl rfl) ?_))
 rintro _ w1 ⟨c, rfl, hc, hs1', hBc, hk1⟩
 replace hb := hb.ext hk1
 have hE1 : KT bty W0 w w1 := KT.of_ext hk1
 refine Gs 7 rfl (G.ld rfl Tryz.isAgg66 (hBc.cells 0 _ rfl) (Gs 9 rfl (G.ite rfl (fun a3 => ?_) (fun a3 => ?_))))
 ·
  rw [s.one_eq, if_pos a3]
  rw [if_neg (show ¬ s.act = 4 by omega)] at hw
  refine Gs 3 rfl (G.call rfl Tryz.call121 (add_ok W0 B 3 b nv w1 hb (by have := hk1.size; omega) (by omega)) ?_)
  rintro _ w2 ⟨⟨nv2, hb2⟩, hK2⟩
  have hE2 := hE1.trans hK2
  have hBc2 := hK2.blk hBc (by decide)
  refine Gs 7 rfl (G.ld rfl Tryz.isAgg3 (hb2.blk.cells 1 (.int .i64 b.step) rfl) (Ga 3 rfl (by omega) (G.mem0 rfl (M.store Tryz.sizeOf3 rfl rfl rfl rfl hb2.blk (by simp)) ?_)))
  rintro w3 hw3
  obtain ⟨hb3, hK3⟩ := hb2.bump hw3
  have hE3 := hE2.trans hK3
  have hBc3 := hK3.blk hBc2 (by decide)
  refine Gs 3 rfl (Dw (fun q => Blk q c [.int .i64 s.act, .int .i64 s.cost, .int .i64 s.var, .int .i64 s.n, .int .i64 s.term.op, .int .i64 s.term.n, v1, v2, v3, v4] 72) [] (fun w4 hk4 _ => ?_))
  have hBc4 := hk4.blk hBc3 (fun h => h)
  have hb4 := hb3.ext hk4
  have hE4 := hE3.ext' hk4
  refine Ds [0, 1] (by kernel_rfl) rfl (WD.take 2 rfl (by kernel_rfl) rfl rfl rfl hBc4 (fun w1 hw1 => R.load Tryz.isAgg24 rfl (hw1.cells 7 _ rfl)) (Ds [3, 4] (by kernel_rfl) rfl (WD.call 5 rfl (by kernel_rfl) rfl rfl rfl (F.call (vs := [_, _]) Tryz.call49 rfl) (next_ok B b.nodes.length w4) ?_)))
  rintro x w5 ⟨hx, hk5⟩
  have hBc5 := hk5.blk hBc4 (fun h => h)
  have hb5 := hb4.ext hk5
  have hE5 := hE4.ext' hk5
  refine ⟨fun _ => hBc5, ?_⟩
  have hx0 := hx
  obtain ⟨bb, ab, rfl, _, _⟩ := hx
  refine WD.mem 6 rfl (by kernel_rfl) rfl rfl rfl (M.buildSlice (cs := [.func (.func 91) #[] #[.pointer (some ⟨bb, 0, none⟩), .pointer (some ⟨ab, 0, none⟩)]]) [(0, _)] Tryz.runUnderlying108 Tryz.sizeOf110 Tryz.zeroValue110 (by decide) rfl (by kernel_rfl)) ?_
  rintro _ w6 ⟨g6, rfl, hg6, hs6, hB6, hk6⟩
  have hBc6 := hk6.blk hBc5 (fun h => h)
  have hb6 := hb5.ext hk6
  have hE6 := hE5.ext' hk6
  refine ⟨fun _ => hBc6, ?_⟩
  have hu6 := Hung.lit hB6 (hx0.ext hk6)
  have hsz6 := hE6.size
  refine WD.call 7 rfl (by kernel_rfl) rfl rfl rfl (F.call (vs := [_, _, _]) Tryz.call48 rfl) (h1 W0 B _ _ D w6 _ _ _ (hE6.sl stable_st ht hD) hD hb6 hu6 (by simp) (by omega) hp2.1.2 (by simp; omega) (by dsimp only; omega)) ?_
  rintro r7 w7 ⟨⟨nv7, hb7⟩, hu7, hf7, hK7⟩
  have hBc7 := hK7.blk hBc6 (by decide)
  have hE7 := hE6.trans hK7
  refine ⟨fun _ => hBc7, ?_⟩
  have hl7 := list_built s.thn hp2.1.2 { nodes := b.nodes ++ [⟨3, b.step, -1, -1⟩], step := b.step + 1 } [(b.nodes.length, false)] (by simp)
  have hh7 := list_hang s.thn { nodes := b.nodes ++ [⟨3, b.step, -1, -1⟩], step := b.step + 1 } [(b.nodes.length, false)]
  simp only [List.length_singleton] at hh7
  generalize hX : listB s.thn { nodes := b.nodes ++ [⟨3, b.step, -1, -1⟩], step := b.step + 1 } [(b.nodes.length, false)] = X at hb7 hu7 hl7 hh7 ⊢
  have hlen7 := hl7.len
  have hstep7 := hl7.step
  simp only [List.length_append, List.length_singleton] at hlen7 hstep7
  have hr7 : ∃ g, r7.ownBlock = some g ∧ w.heap.size ≤ g := by
   have := hE5.size
   rcases hf7 with h | ⟨g, h, h'⟩
   · exact ⟨g6, by rw [h]; rfl, by omega⟩
   exact ⟨g, h, by omega⟩
  refine Ds [8] (by kernel_rfl) rfl (G.done (by kernel_rfl) ?_ _)
  refine Gs 2 rfl (Dw (fun q => Blk q c [.int .i64 s.act, .int .i64 s.cost, .int .i64 s.var, .int .i64 s.n, .int .i64 s.term.op, .int .i64 s.term.n, v1, v2, v3, v4] 72) [] (fun x4 yk4 _ => ?_))
  have yBc4 := yk4.blk hBc7 (fun h => h)
  have yb4 := hb7.ext yk4
  have yu4 := hu7.ext yk4
  have yE4 := hE7.ext' yk4
  refine Ds [0, 1, 2] (by kernel_rfl) rfl (WD.take 3 rfl (by kernel_rfl) rfl rfl rfl yBc4 (fun w1 hw1 => R.load Tryz.isAgg24 rfl (hw1.cells 8 _ rfl)) (Ds [4, 5] (by kernel_rfl) rfl (WD.call 6 rfl (by kernel_rfl) rfl rfl rfl (F.call (vs := [_, _]) Tryz.call122 rfl) (other_ok B b.nodes.length x4) ?_)))
  rintro x x5 ⟨hx, yk5⟩
  have yBc5 := yk5.blk yBc4 (fun h => h)
  have yb5 := yb4.ext yk5
  have yu5 := yu4.ext yk5
  have yE5 := yE4.ext' yk5
  refine ⟨fun _ => yBc5, ?_⟩
  have hx0 := hx
  obtain ⟨bb, ab, rfl, _, _⟩ := hx
  refine WD.mem 7 rfl (by kernel_rfl) rfl rfl rfl (M.buildSlice (cs := [.func (.func 138) #[] #[.pointer (some ⟨bb, 0, none⟩), .pointer (some ⟨ab, 0, none⟩)]]) [(0, _)] Tryz.runUnderlying108 Tryz.sizeOf110 Tryz.zeroValue110 (by decide) rfl (by kernel_rfl)) ?_
  rintro _ x6 ⟨g6', rfl, yg6, ys6, yB6, yk6⟩
  have yBc6 := yk6.blk yBc5 (fun h => h)
  have yb6 := yb5.ext yk6
  have yu6 := yu5.ext yk6
  have yE6 := yE5.ext' yk6
  refine ⟨fun _ => yBc6, ?_⟩
  have zu6 := Hung.lit yB6 (hx0.ext yk6)
  have ysz6 := yE6.size
  refine WD.call 8 rfl (by kernel_rfl) rfl rfl rfl (F.call (vs := [_, _, _]) Tryz.call48 rfl) (h2 W0 B _ _ D x6 _ _ _ (yE6.sl stable_st he hD) hD yb6 zu6 (by intro e he; rw [List.mem_singleton.1 he]; dsimp only; omega) (by omega) hp2.2 (by omega) (by omega)) ?_
  rintro r8 x7 ⟨⟨nv8, yb7⟩, yu7, yf7, yK7⟩
  have yBc7 := yK7.blk yBc6 (by decide)
  have yE7 := yE6.trans yK7
  have zu7 := yu6.kt yK7
  refine ⟨fun _ => yBc7, ?_⟩
  have hh8 := list_hang s.els X.1 [(b.nodes.length, true)]
  simp only [List.length_singleton] at hh8
  generalize listB s.els X.1 [(b.nodes.length, true)] = Y at yb7 yu7 hh8 ⊢
  obtain ⟨xs7, ho7, hat7⟩ := zu7
  obtain ⟨xs8, ho8, hat8⟩ := yu7
  have h1c : ∀ u ∈ xs8, u.oneCell' = true := by
   intro u hu
   obtain ⟨i, hi⟩ := List.mem_iff_getElem?.1 hu
   have hlt := (List.getElem?_eq_some_iff.1 hi).1
   have h8 := ho8.1
   exact (hat8 i Y.2[i] u (List.getElem?_eq_getElem (by omega)) hi).one
  refine WD.mem 9 rfl (by kernel_rfl) rfl rfl rfl (M.appendO Tryz.underlying108 Tryz.el110 rfl (by decide) rfl rfl ho7 ho8 h1c (by omega) (by omega)) ?_
  rintro u x8 ⟨hou, hfu, yk8⟩
  have hfr8 : ∀ k, r7.ownBlock = some k → w.heap.size ≤ k := by
   intro k hk
   obtain ⟨g, h, h'⟩ := hr7
   rw [h] at hk; cases hk; exact h'
  have yE8 : KT bty W0 w x8 := yE7.new yk8 hfr8
  have hbl8 : ∀ k cs e, Blk x7 k cs e → e ≠ 110 → Blk x8 k cs e := fun k cs e hb hne => yk8.blk hb (fun h => by
   obtain ⟨cs', hb'⟩ := own_blkty ho7 h
   exact hne (hb.ty hb').1)
  refine ⟨fun _ => hbl8 _ _ _ yBc7 (by decide), ?_⟩
  refine Ds [10] (by kernel_rfl) rfl (G.done (by kernel_rfl) ?_ _)
  refine Gs 4 rfl ?_
  refine G.ret1 Tryz.results90 rfl ⟨_, rfl, ⟨nv8, hbl8 _ _ _ yb7.blk (by decide), own_keep yb7.row yk8 (fun g hg h => by
    obtain ⟨cs', hb'⟩ := own_blkty ho7 h
    obtain ⟨cs2, hb2⟩ := own_blkty yb7.row hg
    exact absurd (hb2.ty hb').1 (by decide)), yb7.low, yb7.far⟩, ⟨xs7 ++ xs8, by rw [List.length_append]; exact hou, ?_⟩, ?_, yE8⟩
  ·
   have hcc : ∀ e x, HC B x7 e x → HC B x8 e x := by
    rintro e x ⟨bb, ab, q1, q2, q3⟩
    exact ⟨bb, ab, q1, hbl8 _ _ _ q2 (by decide), hbl8 _ _ _ q3 (by decide)⟩
   intro i e x he' hx'
   have hl1 := ho7.1
   by_cases hi : i < X.2.length
   ·
    rw [List.getElem?_append_left hi] at he'
    rw [List.getElem?_append_left (by omega)] at hx'
    exact hcc _ _ (hat7 i e x he' hx')
   rw [List.getElem?_append_right (by omega)] at he'
   rw [List.getElem?_append_right (by omega), show i - xs7.length = i - X.2.length by omega] at hx'
   exact hcc _ _ (hat8 _ e x he' hx')
  rcases hfu with h | ⟨g, h, h'⟩
  ·
   obtain ⟨g, q1, q2⟩ := hr7
   exact ⟨g, by rw [h]; exact q1, q2⟩
  have := yE7.size
  exact ⟨g, h, by omega⟩
 rw [s.one_eq, if_neg a3]
 refine Gs 6 rfl (G.ite rfl (fun a4 => ?_) (fun a4 => ?_))
 ·
  rw [if_pos a4]
  rw [if_pos a4] at hw
  rw [if_neg a3, if_pos a4] at hp2
  refine Gs 3 rfl (G.call rfl Tryz.call121 (add_ok W0 B 4 b nv w1 hb (by have := hk1.size; omega) (by omega)) ?_)
  rintro _ w2 ⟨⟨nv2, hb2⟩, hK2⟩
  have hE2 := hE1.trans hK2
  have hBc2 := hK2.blk hBc (by decide)
  refine Gs 5 rfl (G.call rfl Tryz.call121 (add_ok W0 B 5 _ nv2 w2 hb2 (by have := hE2.size; omega) (by simp; omega)) ?_)
  rintro _ w3 ⟨⟨nv3, hb3⟩, hK3⟩
  have hE3 := hE2.trans hK3
  have hBc3 := hK3.blk hBc2 (by decide)
  dsimp only at hb3
  rw [List.append_assoc, List.singleton_append] at hb3
  refine Gs 7 rfl (G.ld rfl Tryz.isAgg3 (hb3.blk.cells 1 (.int .i64 b.step) rfl) (Ga 3 rfl (by omega) (G.mem0 rfl (M.store Tryz.sizeOf3 rfl rfl rfl rfl hb3.blk (by simp)) ?_)))
  rintro w4 hw4
  obtain ⟨hb4, hK4⟩ := hb3.bump hw4
  dsimp only at hb4
  have hE4 := hE3.trans hK4
  have hBc4 := hK4.blk hBc3 (by decide)
  obtain ⟨g, cap, sp, rfl, _, hnc, hcm, hBg, hlen⟩ := own_open encN_len (by decide) hb4.row (by simp)
  have hlx : (b.nodes ++ [⟨4, b.step, -1, -1⟩, ⟨5, b.step, -1, -1⟩] : List Nd).length = b.nodes.length + 2 := by simp
  have hfl : ((b.nodes ++ [⟨4, b.step, -1, -1⟩, ⟨5, b.step, -1, -1⟩] : List Nd).flatMap encN ++ sp).length = (b.nodes.length + 2) * 4 + sp.length := by rw [List.length_append, flat_len encN_len, hlx]
  have hset := set_node (b.nodes ++ [⟨4, b.step, -1, -1⟩, ⟨5, b.step, -1, -1⟩]) b.nodes.length (by omega) sp (b.nodes.length + 1 : Nat) false
  refine Gs 7 rfl (G.ld rfl Tryz.isAgg29 (hb4.blk.cells 0 _ rfl) (Ga 3 rfl (by omega) (G.ops1 rfl rfl (R.indexS Tryz.runUnderlying29 Tryz.sizeOf64 rfl rfl rfl (by simp; omega)) (Gs 1 rfl (G.mem0 rfl (M.store Tryz.sizeOf3 rfl rfl rfl rfl hBg (by rw [hfl]; show 0 + (b.nodes.length : Int).toNat * 4 + 2 < _; omega)) ?_)))))
  rintro w5 ⟨_, hBf, hkf⟩
  have e5 : 0 + (b.nodes.length : Int).toNat * 4 + 2 = b.nodes.length * 4 + (if false then 3 else 2) := by simp
  have hBf' : Blk w5 g (((b.nodes ++ [⟨4, b.step, -1, -1⟩, ⟨5, b.step, -1, -1⟩] : List Nd).flatMap encN ++ sp).set (0 + (b.nodes.length : Int).toNat * 4 + 2) (.int .i64 (b.nodes.length + 1 : Nat))) 64 := hBf
  rw [e5, hset] at hBf'
  have hK5 : KT bty W0 w4 w5 := KT.wrote hBg bty2 (hb4.far _ rfl) ⟨‹_›, hBf, hkf⟩
  have hE5 := hE4.trans hK5
  have hBc5 := hK5.blk hBc4 (by decide)
  have hgB := hb4.ne rfl
  have hb5 : BdS W0 B w5 { nodes := setE (b.nodes ++ [⟨4, b.step, -1, -1⟩, ⟨5, b.step, -1, -1⟩]) (b.nodes.length + 1 : Nat) (b.nodes.length, false), step := b.step + 1 } (.slice (some ⟨g, 0, none⟩) (b.nodes ++ [⟨4, b.step, -1, -1⟩, ⟨5, b.step, -1, -1⟩] : List Nd).length cap) := by
   refine ⟨hkf.blk hb4.blk (fun h => hgB h.symm), ?_, hb4.low, hb4.far⟩
   have h := own_shut encN_len (k := (b.nodes ++ [⟨4, b.step, -1, -1⟩, ⟨5, b.step, -1, -1⟩] : List Nd).length) hBf' (by rw [List.length_append, flat_len encN_len, setE_len, hlx]; exact hfl.symm.trans hlen) (by rw [setE_len]; exact Nat.le_refl _) hnc hcm
   rw [List.take_of_length_le (by rw [setE_len]; exact Nat.le_refl _)] at h
   dsimp only
   rw [setE_len]; exact h
  refine Gs 4 rfl (Dw (fun q => Blk q c [.int .i64 s.act, .int .i64 s.cost, .int .i64 s.var, .int .i64 s.n, .int .i64 s.term.op, .int .i64 s.term.n, v1, v2, v3, v4] 72) [] (fun w6 hk6 _ => ?_))
  have hBc6 := hk6.blk hBc5 (fun h => h)
  have hb6 := hb5.ext hk6
  have hE6 := hE5.ext' hk6
  refine Ds [0, 1] (by kernel_rfl) rfl (WD.take 2 rfl (by kernel_rfl) rfl rfl rfl hBc6 (fun w1 hw1 => R.load Tryz.isAgg24 rfl (hw1.cells 7 _ rfl)) (Da [3, 4, 5, 10] (by kernel_rfl) rfl (by omega) (WD.call 6 rfl (by kernel_rfl) rfl rfl rfl (F.call (vs := [_, _]) Tryz.call49 rfl) (next_ok B (b.nodes.length + 1) w6) ?_)))
  rintro x w7 ⟨hx, hk7⟩
  have hBc7 := hk7.blk hBc6 (fun h => h)
  have hb7 := hb6.ext hk7
  have hE7 := hE6.ext' hk7
  refine ⟨fun _ => hBc7, ?_⟩
  have hx0 := hx
  obtain ⟨bb, ab, rfl, _, _⟩ := hx
  refine WD.mem 7 rfl (by kernel_rfl) rfl rfl rfl (M.buildSlice (cs := [.func (.func 91) #[] #[.pointer (some ⟨bb, 0, none⟩), .pointer (some ⟨ab, 0, none⟩)]]) [(0, _)] Tryz.runUnderlying108 Tryz.sizeOf110 Tryz.zeroValue110 (by decide) rfl (by kernel_rfl)) ?_
  rintro _ w8 ⟨g8, rfl, hg8, hs8, hB8, hk8⟩
  have hBc8 := hk8.blk hBc7 (fun h => h)
  have hb8 := hb7.ext hk8
  have hE8 := hE7.ext' hk8
  refine ⟨fun _ => hBc8, ?_⟩
  have hu8 := Hung.lit hB8 (hx0.ext hk8)
  have hsz8 := hE8.size
  refine WD.call 8 rfl (by kernel_rfl) rfl rfl rfl (F.call (vs := [_, _, _]) Tryz.call48 rfl) (h1 W0 B _ _ D w8 _ _ _ (hE8.sl stable_st ht hD) hD hb8 hu8 (by intro e he; rw [List.mem_singleton.1 he]; dsimp only; rw [setE_len, hlx]; omega) (by omega) hp2.1.2 (by dsimp only; rw [setE_len, hlx]; omega) (by dsimp only; omega)) ?_
  rintro r9 w9 ⟨⟨nv9, hb9⟩, hu9, hf9, hK9⟩
  have hBc9 := hK9.blk hBc8 (by decide)
  have hE9 := hE8.trans hK9
  refine ⟨fun _ => hBc9, ?_⟩
  have hl9 := list_built s.thn hp2.1.2 { nodes := setE (b.nodes ++ [⟨4, b.step, -1, -1⟩, ⟨5, b.step, -1, -1⟩]) (b.nodes.length + 1 : Nat) (b.nodes.length, false), step := b.step + 1 } [(b.nodes.length + 1, false)] (by intro e he; rw [List.mem_singleton.1 he]; dsimp only; rw [setE_len, hlx]; omega)
  generalize hX : listB s.thn { nodes := setE (b.nodes ++ [⟨4, b.step, -1, -1⟩, ⟨5, b.step, -1, -1⟩]) (b.nodes.length + 1 : Nat) (b.nodes.length, false), step := b.step + 1 } [(b.nodes.length + 1, false)] = X at hb9 hu9 hl9 ⊢
  obtain ⟨a9, c9, rfl, _⟩ := hu9.form
  have hlen9 := hl9.len
  have hlt9 := hl9.lt
  have hmx9 := hu9.len
  dsimp only at hlen9
  rw [setE_len, hlx] at hlen9
  refine Ds [9] (by kernel_rfl) rfl (G.done (by kernel_rfl) ?_ _)
  refine Gs 1 rfl (G.cut (σ := Unit) (fun u => [(0, .pointer (some ⟨B, 0, none⟩)), (2, .int .i64 b.nodes.length)]) (fun u => fun w' => (∃ nv', BdS W0 B w' { X.1 with nodes := setAll X.1.nodes (b.nodes.length + 1 : Nat) X.2 } nv') ∧ KT bty W0 w w') ?_ ?_)
  ·
   refine Gs 1 rfl (G.loop (σ := Nat) (fun j => [(0, .pointer (some ⟨B, 0, none⟩)), (2, .int .i64 b.nodes.length), (71, .slice a9 X.2.length c9), (72, .int .i64 X.2.length), (73, .int .i64 j)]) (fun j => fun w' => j ≤ X.2.length ∧ (∃ nv', BdS W0 B w' { X.1 with nodes := setAll X.1.nodes (b.nodes.length + 1 : Nat) (X.2.take j) } nv') ∧ Hung B w' (.slice a9 X.2.length c9) X.2 ∧ KT bty W0 w w') (fun j => X.2.length - j) (0) (Sub.of rfl) (⟨Nat.zero_le _, ⟨_, hb9⟩, hu9, hE9⟩) ?_)
   rintro j y1 ⟨hj, ⟨nvj, hbj⟩, huj, hEj⟩
   refine Gs 6 rfl (G.ite rfl (fun hlt => ?_) (fun hge => ?_))
   ·
    obtain ⟨e, he⟩ : ∃ e, X.2[j]? = some e := ⟨_, List.getElem?_eq_getElem (by omega)⟩
    obtain ⟨ge, x, rfl, hcx, hHx⟩ := huj.at he
    obtain ⟨ie, pe⟩ := e
    obtain ⟨f, fcs, rfl, hcf, hcall⟩ := hang_ok W0 B ie pe (b.nodes.length + 1 : Nat) _ _ x y1 hbj hHx (by dsimp only; rw [setAll_len]; exact hlt9 _ (List.mem_of_getElem? he))
    refine Ga 7 rfl (by omega) (G.ld rfl Tryz.isAgg110 (hcx 0 _ rfl) (Ga 7 rfl (by omega) (G.callV rfl hcf hcall ?_)))
    rintro _ y2 ⟨hb', hK'⟩
    refine Ga 7 rfl (by omega) (G.back (j + 1) (Sub.of rfl) (⟨by omega, ⟨nvj, by rw [setAll_take he]; exact hb'⟩, huj.kt hK', hEj.trans hK'⟩) (by first | omega | (dsimp only; omega)))
   have hjj : j = X.2.length := by omega
   subst hjj
   rw [List.take_length] at hbj
   refine Gs 4 rfl (G.meet (()) (Sub.of rfl) (⟨⟨nvj, hbj⟩, hEj⟩))
  rintro u y3 ⟨⟨nv3', yb3⟩, yE3⟩
  refine Ga 6 rfl (by omega) (G.call rfl Tryz.call122 (other_ok B (b.nodes.length + 1) y3) ?_)
  rintro x y4 ⟨hx, yk4⟩
  have hx0 := hx
  obtain ⟨bb, ab, rfl, _, _⟩ := hx
  refine G.mem rfl rfl (M.buildSlice (cs := [.func (.func 138) #[] #[.pointer (some ⟨bb, 0, none⟩), .pointer (some ⟨ab, 0, none⟩)]]) [(0, _)] Tryz.runUnderlying108 Tryz.sizeOf110 Tryz.zeroValue110 (by decide) rfl (by kernel_rfl)) ?_
  rintro _ y5 ⟨g5, rfl, yg5, ys5, yB5, yk5⟩
  have := yE3.size
  have := yk4.size
  refine Gs 6 rfl (G.ret1 Tryz.results90 rfl ⟨_, rfl, ⟨nv3', (yb3.ext yk4).ext yk5⟩, Hung.lit yB5 (hx0.ext yk5), ⟨g5, rfl, by omega⟩, (yE3.ext' yk4).ext' yk5⟩)
 rw [if_neg a4]
 rw [if_neg a4] at hw
 rw [if_neg a3, if_neg a4] at hp2
 refine Gs 6 rfl (G.call rfl Tryz.call121 (add_ok W0 B 2 b nv w1 hb (by have := hk1.size; omega) (by omega)) ?_)
 rintro _ w2 ⟨⟨nv2, hb2⟩, hK2⟩
 have hE2 := hE1.trans hK2
 refine Gs 7 rfl (G.ld rfl Tryz.isAgg3 (hb2.blk.cells 1 (.int .i64 b.step) rfl) (Ga 3 rfl (by omega) (G.mem0 rfl (M.store Tryz.sizeOf3 rfl rfl rfl rfl hb2.blk (by simp)) ?_)))
 rintro w3 hw3
 obtain ⟨hb3, hK3⟩ := hb2.bump hw3
 have hE3 := hE2.trans hK3
 refine Gs 6 rfl (G.call rfl Tryz.call49 (next_ok B b.nodes.length w3) ?_)
 rintro x w4 ⟨hx, hk4⟩
 have hx0 := hx
 obtain ⟨bb, ab, rfl, _, _⟩ := hx
 refine G.mem rfl rfl (M.buildSlice (cs := [.func (.func 91) #[] #[.pointer (some ⟨bb, 0, none⟩), .pointer (some ⟨ab, 0, none⟩)]]) [(0, _)] Tryz.runUnderlying108 Tryz.sizeOf110 Tryz.zeroValue110 (by decide) rfl (by kernel_rfl)) ?_
 rintro _ w5 ⟨g5, rfl, hg5, hs5, hB5, hk5⟩
 have := hE3.size
 have := hk4.size
 refine Gs 4 rfl (G.ret1 Tryz.results90 rfl ⟨_, rfl, ⟨nv2, (hb3.ext hk4).ext hk5⟩, Hung.lit hB5 (hx0.ext hk5), ⟨g5, rfl, by omega⟩, (hE3.ext' hk4).ext' hk5⟩)
theorem drop_cons {α : Type} {l : List α} {i : Nat} {x : α} (h : l[i]? = some x) : l.drop i = x :: l.drop (i + 1) := by
 obtain ⟨h1, h2⟩ := List.getElem?_eq_some_iff.1 h
 rw [← h2, List.getElem_cons_drop]
theorem list_ok (l : List St) : ListOk l := by
 induction l using Sts.ind with
 | h l ih =>
 intro W0 B v vin D w b nv ins hl hD hb hu hlt hW hp hn hst
 obtain ⟨av, cv, rfl⟩ := hl.form
 have hmx := hl.max
 refine G.in3 Tryz.func48 rfl Tryz.ntmps48 rfl (Gs 14 rfl (G.loop (σ := Nat × Value) (fun ⟨i, vi⟩ => [(0, .pointer (some ⟨B, 0, none⟩)), (2, vi), (12, .slice av l.length cv), (13, .int .i64 l.length), (14, .int .i64 i)]) (fun ⟨i, vi⟩ => fun w' => i ≤ l.length ∧ (∃ b' nv' ins', BdS W0 B w' b' nv' ∧ Hung B w' vi ins' ∧ (∀ e ∈ ins', e.1 < b'.nodes.length) ∧ listB (l.drop i) b' ins' = listB l b ins ∧ b'.nodes.length = b.nodes.length + widL (l.take i) ∧ b'.step = b.step + ssize (l.take i)) ∧ (vi.ownBlock = vin.ownBlock ∨ ∃ g, vi.ownBlock = some g ∧ w.heap.size ≤ g) ∧ KT bty W0 w w') (fun ⟨i, vi⟩ => l.length - i) ((0, vin)) (Sub.of rfl) (⟨Nat.zero_le _, ⟨b, nv, ins, hb, hu, hlt, rfl, by simp [widL], by simp [ssize]⟩, .inl rfl, KT.refl⟩) ?_))
 rintro ⟨i, vi⟩ w1 ⟨hi, ⟨b1, nv1, ins1, hb1, hu1, hlt1, hL1, hn1, hs1⟩, hf1, hE1⟩
 show G _ _ _ _ _ [(0, .pointer (some ⟨B, 0, none⟩)), (2, vi), (12, .slice av l.length cv), (13, .int .i64 l.length), (14, .int .i64 i)] _
 refine Gs 6 rfl (G.ite rfl (fun hlt' => ?_) (fun hge => ?_))
 ·
  obtain ⟨s, he⟩ : ∃ x, l[i]? = some x := ⟨_, List.getElem?_eq_getElem (by omega)⟩
  have hm := List.mem_of_getElem? he
  have hl1 := hE1.sl stable_st hl hD
  obtain ⟨bq, oq, cq, haq, hDq, hcl, hcq, hRq⟩ : ∃ b o cs, av = some ⟨b, o, none⟩ ∧ D b ∧ cs.length = 10 ∧ Cells w1 b (o + i * 10) cs ∧ RSt D w1 s cs := by
   obtain ⟨ao', cap', h1, h2, h3, h4⟩ := hl1
   cases h1
   exact h4 i s he
  have hone := hRq.one
  have hps := plainL_mem hp s hm
  have hws := widL_split he
  have hzs := ssize_split he
  obtain ⟨v1, v2, v3, v4, rfl, q1, q2, q3, q4⟩ := hRq.get
  refine Gs 6 rfl (G.ops1 rfl rfl (R.indexS Tryz.runUnderlying24 Tryz.sizeOf72 rfl rfl haq (by omega)) (G.ldK rfl Tryz.isAgg72 Tryz.sizeOf72 hcq rfl (G.mem rfl rfl (M.alloc (cs := _) Tryz.zeroValue72 rfl) ?_)))
  rintro _ w2 ⟨c, rfl, hc, hsc, hBc0, hk2⟩
  refine G.mem0 rfl (M.storeK Tryz.sizeOf72 rfl rfl rfl rfl hone hBc0 (by simp)) ?_
  rintro w3 ⟨_, hBc, hkc⟩
  have hk3 : Ext w1 w3 := hk2.trans hkc (fun q hq h => by have h : q = c := h; omega)
  have hE3 := hE1.ext' hk3
  replace hb1 := hb1.ext hk3
  replace hu1 := hu1.ext hk3
  obtain ⟨an, cn, rfl, hnc, _⟩ := own_slice hb1.row
  obtain ⟨a1, c1, rfl, _⟩ := hu1.form
  have hmx1 := hu1.len
  have hBc' : Blk w3 c [.int .i64 s.act, .int .i64 s.cost, .int .i64 s.var, .int .i64 s.n, .int .i64 s.term.op, .int .i64 s.term.n, v1, v2, v3, v4] 72 := hBc
  refine Gs 7 rfl (G.ld rfl Tryz.isAgg29 (hb1.blk.cells 0 _ rfl) (Gs 13 rfl (G.loop (σ := Nat) (fun j => [(0, .pointer (some ⟨B, 0, none⟩)), (8, .pointer (some ⟨c, 0, none⟩)), (9, .int .i64 b1.nodes.length), (12, .slice av l.length cv), (13, .int .i64 l.length), (14, .int .i64 i), (23, .slice a1 ins1.length c1), (24, .int .i64 ins1.length), (25, .int .i64 j)]) (fun j => fun w' => j ≤ ins1.length ∧ BdS W0 B w' { b1 with nodes := setAll b1.nodes b1.nodes.length (ins1.take j) } (.slice an b1.nodes.length cn) ∧ Hung B w' (.slice a1 ins1.length c1) ins1 ∧ Blk w' c [.int .i64 s.act, .int .i64 s.cost, .int .i64 s.var, .int .i64 s.n, .int .i64 s.term.op, .int .i64 s.term.n, v1, v2, v3, v4] 72 ∧ KT bty W0 w3 w') (fun j => ins1.length - j) (0) (Sub.of rfl) (⟨Nat.zero_le _, hb1, hu1, hBc', KT.refl⟩) ?_)))
  rintro j y1 ⟨hj, hbj, huj, hBj, hFj⟩
  have hEj := hE3.trans hFj
  refine Gs 6 rfl (G.ite rfl (fun hjl => ?_) (fun hjg => ?_))
  ·
   obtain ⟨e, hee⟩ : ∃ e, ins1[j]? = some e := ⟨_, List.getElem?_eq_getElem (by omega)⟩
   obtain ⟨ge, x, rfl, hcx, hHx⟩ := huj.at hee
   obtain ⟨ie, pe⟩ := e
   obtain ⟨f, fcs, rfl, hcf, hcall⟩ := hang_ok W0 B ie pe (b1.nodes.length : Nat) _ _ x y1 hbj hHx (by dsimp only; rw [setAll_len]; exact hlt1 _ (List.mem_of_getElem? hee))
   refine Ga 7 rfl (by omega) (G.ld rfl Tryz.isAgg110 (hcx 0 _ rfl) (Gs 6 rfl (G.callV rfl hcf hcall ?_)))
   rintro _ y2 ⟨hb', hK'⟩
   refine Ga 7 rfl (by omega) (G.back (j + 1) (Sub.of rfl) (⟨by omega, by rw [setAll_take hee]; exact hb', huj.kt hK', hK'.blk hBj (by decide), hFj.trans hK'⟩) (by first | omega | (dsimp only; omega)))
  have hjj : j = ins1.length := by omega
  subst hjj
  rw [List.take_length] at hbj
  have hszj := hEj.size
  have hone := one_ok s (ih s hm).1 (ih s hm).2 W0 B _ D y1 { b1 with nodes := setAll b1.nodes b1.nodes.length ins1 } _ (RSt.put (s := s) (hFj.sl stable_tm (q1.ext stable_tm hk3) hD) (hFj.sl stable_st (q2.ext stable_st hk3) hD) (hFj.sl stable_st (q3.ext stable_st hk3) hD) (hFj.sl stable_int (q4.ext stable_int hk3) hD)) hD hbj (by omega) hps (by dsimp only; rw [setAll_len]; omega) (by dsimp only; omega)
  have hbt := one_built s hps (fun b ins h => list_built s.thn (by rw [s.plainB_eq, Bool.and_eq_true, Bool.and_eq_true] at hps; exact hps.1.2) b ins h) (fun b ins h => list_built s.els (by rw [s.plainB_eq, Bool.and_eq_true, Bool.and_eq_true] at hps; exact hps.2) b ins h) { b1 with nodes := setAll b1.nodes b1.nodes.length ins1 }
  simp only [setAll_len] at hone hbt
  refine Gs 7 rfl (G.ldK rfl Tryz.isAgg72 Tryz.sizeOf72 hBj.cells rfl (Gs 1 rfl (G.call rfl Tryz.call90 hone ?_)))
  rintro r y2 ⟨⟨nv2, hb2⟩, hu2, ⟨g2, hg2, hg2'⟩, hK2⟩
  refine Ga 8 rfl (by omega) (G.back ((i + 1, r)) (Sub.of rfl) (⟨by omega, ⟨_, nv2, _, hb2, hu2, hbt.lt, ?_, ?_, ?_⟩, .inr ⟨g2, hg2, by omega⟩, hEj.trans hK2⟩) (by first | omega | (dsimp only; omega)))
  · rw [← hL1, drop_cons he, listB_cons]
  · have := hbt.len; dsimp only at this; rw [setAll_len] at this; rw [widL_take he]; omega
  have := hbt.step; dsimp only at this; rw [ssize_take he]; omega
 have hii : i = l.length := by omega
 subst hii
 rw [List.drop_length, listB] at hL1
 refine Gs 12 rfl (G.ret1 Tryz.results48 rfl ⟨_, rfl, ⟨nv1, by rw [← hL1]; exact hb1⟩, by rw [← hL1]; exact hu1, hf1, hE1⟩)
theorem stepsLeft_ok (l : List St) : ∀ (v : Value) (D : Nat → Prop) (w : World) (left : Int), SlR 10 RSt D w v l → -10 ≤ left → left ≤ 1000000 → Calls Tryz.prog 30 #[v, .int .i64 left] w (Ret fun r w' => (∃ m : Int, r = .int .i64 m ∧ ((sbulk l : Int) ≤ left → m = left - sbulk l) ∧ (¬ (sbulk l : Int) ≤ left → m < 0 ∧ min left (-1) ≤ m)) ∧ Ext w w') := by
 induction l using Sts.ind with
 | h l ih =>
 intro v D w left hl h1 h2
 have hmx := hl.max
 obtain ⟨ao, cap, rfl⟩ := hl.form
 refine G.in2 Tryz.func30 rfl Tryz.ntmps30 rfl (V.inn (Vs 12 rfl (V.loopK (σ := Nat × Int) [0] [] [] rfl (fun e ⟨i, x⟩ => (1, .int .i64 x) :: (5, .int .i64 i) :: e) (fun e ⟨i, x⟩ => e) (fun ⟨i, x⟩ => i ≤ l.length ∧ ((sbulk (l.take i) : Int) ≤ left → x = left - sbulk (l.take i)) ∧ (¬ (sbulk (l.take i) : Int) ≤ left → x < 0 ∧ min left (-1) ≤ x)) (fun ⟨i, x⟩ => l.length - i) ((0, left)) (Sub.of rfl) (Has.of rfl) (fun _ => rfl) (fun _ => rfl) (fun _ => rfl) (⟨Nat.zero_le _, fun _ => by simp [sbulk], fun h => by simp [sbulk] at h; omega⟩) ?_)))
 rintro ⟨i, x⟩ ⟨hi, hy, hn⟩
 show V _ _ _ _ _ ((1, .int .i64 x) :: (5, .int .i64 i) :: _) _ (_) _
 have hend : (i = l.length ∨ x < 0) → ((sbulk l : Int) ≤ left → x = left - sbulk l) ∧ (¬ (sbulk l : Int) ≤ left → x < 0 ∧ min left (-1) ≤ x) := by
  intro h
  have hle : sbulk (l.take i) ≤ sbulk l := by
   have := sbulk_append (l.take i) (l.drop i)
   rw [List.take_append_drop] at this
   omega
  rcases h with h | h
  ·
   rw [h, List.take_length] at hy hn
   exact ⟨hy, hn⟩
  constructor
  · intro h3; have := hy (by omega); omega
  intro h3
  by_cases h4 : (sbulk (l.take i) : Int) ≤ left
  · have := hy h4; omega
  exact hn h4
 refine Vs 8 rfl (V.sp 10 rfl (fun hlt => ?_) (fun hlt => ?_))
 ·
  refine Vs 5 rfl (V.ite rfl (fun hx0 => ?_) (fun hx0 => ?_))
  ·
   refine V.elG 1000 0 i (by omega) hl rfl rfl rfl (fun s b_s o_s c_s he_s hm_s ha_s hR_s => ?_)
   obtain ⟨v1_s, v2_s, v3_s, v4_s, rfl, hk_s, ht_s, hs_s, hb_s⟩ := hR_s.get
   obtain ⟨a1_s, n1_s, rfl⟩ := hk_s.form
   obtain ⟨a2_s, n2_s, rfl⟩ := ht_s.form
   obtain ⟨a3_s, n3_s, rfl⟩ := hs_s.form
   obtain ⟨a4_s, n4_s, rfl⟩ := hb_s.form
   have hsp := sbulk_take he_s
   have hss := sbulk_split he_s
   have hbe := s.bulk_eq
   have hyes : (sbulk (l.take i) : Int) ≤ left ∧ x = left - sbulk (l.take i) := by
    by_cases h4 : (sbulk (l.take i) : Int) ≤ left
    · exact ⟨h4, hy h4⟩
    have := hn h4; omega
   have hbm := hb_s.max
   refine Vs 8 rfl ?_
   refine V.ix 1000 Tryz.runUnderlying24 Tryz.sizeOf72 rfl ha_s (by omega) (_) (rfl) rfl (Va 4 rfl (by omega) (V.call2 Tryz.call31 rfl (fun w hI => termLeft_ok s.term _ D w (x - 1) (RTm.put (Tr1 hI.k0 hk_s)) (by omega) (by omega)) ?_))
   rintro r w1 w2 hI1 hk12 ⟨m1, rfl, hm1, hm2⟩ hlow
   refine Vs 9 rfl ?_
   refine V.ix 1000 Tryz.runUnderlying24 Tryz.sizeOf72 rfl ha_s (by omega) (_) (rfl) rfl (Vs 6 rfl (V.ite rfl (fun hb => ?_) (fun hb => ?_)))
   ·
    have g1 : (sbulk l : Int) ≤ left → -1 = left - (sbulk l : Int) := fun h3 => by
     by_cases h5 : (s.term.nodes : Int) ≤ x - 1
     · have := hm1 h5; omega
     omega
    refine Vs 12 rfl (V.ret1 Tryz.results30 rfl (fun w hI => ⟨_, rfl, ⟨-1, rfl, g1, fun h3 => by omega⟩, hI.k1⟩))
   have h5 : (s.term.nodes : Int) ≤ x - 1 := by
    by_cases h5 : (s.term.nodes : Int) ≤ x - 1
    · exact h5
    have := hm2 h5; omega
   have hm := hm1 h5
   refine Vs 2 rfl (Vw [1000] [] rfl (Vd [0, 1, 5, 6, 10, 11, 12] 0 (by kernel_rfl) rfl rfl rfl ?_))
   refine VD.ix 2 1000 Tryz.runUnderlying24 Tryz.sizeOf72 rfl (by kernel_rfl) rfl ha_s (by omega) (_) (rfl) rfl (Vd [3, 4] 0 (by kernel_rfl) rfl rfl rfl ?_)
   refine VD.ix 7 1000 Tryz.runUnderlying24 Tryz.sizeOf72 rfl (by kernel_rfl) rfl ha_s (by omega) (_) (rfl) rfl (Vd [8, 9] 0 (by kernel_rfl) rfl rfl rfl ?_)
   refine VD.ix 13 1000 Tryz.runUnderlying24 Tryz.sizeOf72 rfl (by kernel_rfl) rfl ha_s (by omega) (_) (rfl) rfl (Vb [14, 15, 16, 17] 0 (by kernel_rfl) rfl rfl rfl (by omega) (VD.call2 18 0 Tryz.call30 rfl (by kernel_rfl) rfl rfl (fun w hI => (ih s hm_s).1 _ D w (m1 - s.bounds.length) (Tr1 hI.k1 ht_s) (by omega) (by omega)) ?_))
   rintro r w1 w2 hI1 hk12 ⟨m2, rfl, h6, h7⟩ hlow2
   refine VD.call2 19 1 Tryz.call30 rfl (by kernel_rfl) rfl rfl (fun w hI => (ih s hm_s).2 _ D w m2 (Tr1 hI.k2 hs_s) (by by_cases h : (sbulk s.thn : Int) ≤ m1 - s.bounds.length <;> first | (have := h6 h; omega) | (have := h7 h; omega)) (by by_cases h : (sbulk s.thn : Int) ≤ m1 - s.bounds.length <;> first | (have := h6 h; omega) | (have := h7 h; omega))) ?_
   rintro r w1 w2 hI1 hk12 ⟨m3, rfl, h8, h9⟩ hlow3
   have g1 : (sbulk (l.take (i + 1)) : Int) ≤ left → m3 = left - sbulk (l.take (i + 1)) := fun h3 => by
    rw [hsp] at h3 ⊢
    have := h6 (by omega)
    rw [h8 (by omega)]; omega
   have g2 : ¬ (sbulk (l.take (i + 1)) : Int) ≤ left → m3 < 0 ∧ min left (-1) ≤ m3 := fun h3 => by
    rw [hsp] at h3
    by_cases h : (sbulk s.thn : Int) ≤ m1 - s.bounds.length
    ·
     have := h6 h
     by_cases h' : (sbulk s.els : Int) ≤ m2
     · have := h8 h'; omega
     have := h9 h'; omega
    have := h7 h
    by_cases h' : (sbulk s.els : Int) ≤ m2
    · omega
    have := h9 h'; omega
   refine Vd [20] 2 (by kernel_rfl) rfl rfl rfl (VD.done (by kernel_rfl) (Va 7 rfl (by omega) (V.back (⟨i + 1, m3⟩) (Sub.of rfl) (Has.of rfl) (⟨by omega, g1, g2⟩) (by first | omega | (dsimp only; omega)) 3 rfl rfl)))
  refine Vs 12 rfl (V.ret1 Tryz.results30 rfl (fun w hI => ⟨_, rfl, ⟨x, rfl, hend (.inr (by omega))⟩, hI.k0⟩))
 refine Vs 18 rfl (V.ret1 Tryz.results30 rfl (fun w hI => ⟨_, rfl, ⟨x, rfl, hend (.inl (by omega))⟩, hI.k0⟩))
theorem few17_ok (f : Fl) (a b : Int) (v1 v2 v3 : Value) (D : Nat → Prop) (w : World) (h : RFl D w f v1 v2 v3) (hb : 0 ≤ b ∧ b ≤ 1000000) (ha : a ≤ 1000) : Calls Tryz.prog 15 #[.agg #[v1, v2, v3], .int .i64 a, .int .i64 b] w (Ret fun r w' => r = .bool (decide ((f.vars.length : Int) ≤ a ∧ (f.hatches.length : Int) ≤ a ∧ ((sbulk f.body + hnodes f.hatches : Nat) : Int) ≤ b)) ∧ Ext w w') := by
 obtain ⟨hv, hh, hbd⟩ := h
 obtain ⟨a1, n1, rfl⟩ := hv.form
 obtain ⟨a2, n2, rfl⟩ := hh.form
 obtain ⟨a3, n3, rfl⟩ := hbd.form
 have hmx := hh.max
 refine G.in3 Tryz.func15 rfl Tryz.ntmps15 rfl (V.inn (Vs 2 rfl (V.box 3 rfl rfl (fun b3 => ?_))))
 refine Vs 12 rfl (V.sp 15 rfl (fun h1 => ?_) (fun h1 => ?_))
 · refine Vs 16 rfl (V.ret1 Tryz.results15 rfl (fun w hI => ⟨_, rfl, by rw [decide_eq_false (by omega)], hI.k0⟩))
 refine Vs 8 rfl (V.ite rfl (fun h2 => ?_) (fun h2 => ?_))
 · refine Vs 7 rfl (V.ret1 Tryz.results15 rfl (fun w hI => ⟨_, rfl, by rw [decide_eq_false (by omega)], hI.k0⟩))
 refine Vs 7 rfl (V.call2 Tryz.call30 rfl (fun w hI => stepsLeft_ok f.body _ D w b (Tr1 hI.k0 hbd) (by omega) (by omega)) ?_)
 rintro r w1 w2 hI1 hk12 ⟨m, rfl, hm1, hm2⟩ hlow
 refine Vs 13 rfl (V.loopK (σ := Nat × Int) [27, 28] [] [] rfl (fun e ⟨i, x⟩ => (7, .int .i64 x) :: (29, .int .i64 i) :: e) (fun e ⟨i, x⟩ => e) (fun ⟨i, x⟩ => i ≤ f.hatches.length ∧ (((sbulk f.body + hnodes (f.hatches.take i) : Nat) : Int) ≤ b → x = b - (sbulk f.body + hnodes (f.hatches.take i) : Nat)) ∧ (¬ ((sbulk f.body + hnodes (f.hatches.take i) : Nat) : Int) ≤ b → x < 0 ∧ -1 - (i : Int) ≤ x)) (fun ⟨i, x⟩ => f.hatches.length - i) ((0, m)) (Sub.of rfl) (Has.of rfl) (fun _ => rfl) (fun _ => rfl) (fun _ => rfl) (⟨Nat.zero_le _, fun h => by simp [hnodes] at h ⊢; omega, fun h => by simp [hnodes] at h ⊢; omega⟩) ?_)
 rintro ⟨i, x⟩ ⟨hi, hy, hn⟩
 show V _ _ _ _ _ ((7, .int .i64 x) :: (29, .int .i64 i) :: _) _ (_) _
 refine Vs 6 rfl (V.ite rfl (fun hlt => ?_) (fun hlt => ?_))
 ·
  refine Vs 6 rfl (V.elG 1000 1 i (by omega) hh rfl rfl rfl (fun e b_e o_e c_e he_e hm_e ha_e hR_e => ?_))
  obtain ⟨v1_e, rfl, hk_e⟩ := hR_e
  obtain ⟨a1_e, n1_e, rfl⟩ := hk_e.form
  refine V.ix 1000 Tryz.runUnderlying23 Tryz.sizeOf87 rfl ha_e (by omega) (_) (rfl) rfl ?_
  have hsp := hnodes_take he_e
  refine Vs 1 rfl (V.alloc 9 Tryz.zeroValue87 rfl rfl (fun b9 => ?_))
  refine Vs 7 rfl (V.call2 Tryz.call31 rfl (fun w hI => termLeft_ok e.term _ D w x (RTm.put (Tr1 hI.k1 hk_e)) (by by_cases h4 : ((sbulk f.body + hnodes (f.hatches.take i) : Nat) : Int) ≤ b <;> first | (have := hy h4; omega) | (have := hn h4; omega)) (by by_cases h4 : ((sbulk f.body + hnodes (f.hatches.take i) : Nat) : Int) ≤ b <;> first | (have := hy h4; omega) | (have := hn h4; omega))) ?_)
  rintro r w1 w2 hI1 hk12 ⟨m2, rfl, h6, h7⟩ hlow2
  have g1 : ((sbulk f.body + hnodes (f.hatches.take (i + 1)) : Nat) : Int) ≤ b → m2 = b - (sbulk f.body + hnodes (f.hatches.take (i + 1)) : Nat) := fun h3 => by
   rw [hsp] at h3 ⊢
   have := hy (by omega)
   rw [h6 (by omega)]; omega
  have g2 : ¬ ((sbulk f.body + hnodes (f.hatches.take (i + 1)) : Nat) : Int) ≤ b → m2 < 0 ∧ -1 - ((i + 1 : Nat) : Int) ≤ m2 := fun h3 => by
   rw [hsp] at h3
   by_cases h4 : ((sbulk f.body + hnodes (f.hatches.take i) : Nat) : Int) ≤ b
   ·
    have := hy h4
    have := h7 (by omega)
    omega
   have := hn h4
   have := h7 (by omega)
   omega
  refine Va 8 rfl (by omega) (V.back (⟨i + 1, m2⟩) (Sub.of rfl) (Has.of rfl) (⟨by omega, g1, g2⟩) (by first | omega | (dsimp only; omega)) 1 rfl rfl)
 obtain rfl : i = f.hatches.length := by omega
 rw [List.take_length] at hy hn
 have g : decide (x ≥ 0) = decide ((f.vars.length : Int) ≤ a ∧ (f.hatches.length : Int) ≤ a ∧ ((sbulk f.body + hnodes f.hatches : Nat) : Int) ≤ b) := by
  by_cases h4 : ((sbulk f.body + hnodes f.hatches : Nat) : Int) ≤ b
  · rw [decide_eq_true (by have := hy h4; omega), decide_eq_true (by omega)]
  rw [decide_eq_false (by have := hn h4; omega), decide_eq_false (by omega)]
 refine Vs 13 rfl (V.ret1 Tryz.results15 rfl (fun w hI => ⟨_, rfl, by rw [← g], hI.k1⟩))
def kidsN (op : Int) : Int := if op = 0 ∨ op = 24 then 0 else if op = 6 ∨ op = 7 then 1 else if 8 ≤ op ∧ op ≤ 22 then 2 else if op = 23 then 3 else if op = 25 then -2 else -1
theorem refKids_ok (op : Int) (w : World) : Calls Tryz.prog 107 #[.int .i64 op] w (Ret fun r w' => r = .int .i64 (kidsN op) ∧ Ext w w') := by
 refine G.in1 Tryz.func107 rfl Tryz.ntmps107 rfl (V.inn (Vs 19 rfl (V.cutK (σ := Unit) [3] [] [] rfl (fun e u => (4, .bool (decide (op = 0 ∨ op = 24))) :: e) (fun e u => e) (fun u => True) (fun _ => rfl) (fun _ => rfl) ?_ ?_)))
 ·
  refine V.ite rfl (fun k1_ => ?_) (fun k1_ => ?_)
  · refine Vs 1 rfl (V.meet (()) (Sub.cons (by first | exact boolT (by omega) | exact boolF (by omega) | exact boolD (by omega)) (Sub.of rfl)) (Has.of rfl) (trivial) 0 rfl rfl)
  refine Vs 4 rfl (V.meet (()) (Sub.cons (by first | exact boolT (by omega) | exact boolF (by omega) | exact boolD (by omega)) (Sub.of rfl)) (Has.of rfl) (trivial) 0 rfl rfl)
 rintro u _
 refine Vs 1 rfl (V.ite rfl (fun h4 => ?_) (fun h4 => ?_))
 · refine Vs 8 rfl (V.ret1e 0 Tryz.results107 rfl rfl (by grind [kidsN]))
 refine Vs 7 rfl (V.cutK (σ := Unit) [3] [] [] rfl (fun e u => (7, .bool (decide (op = 6 ∨ op = 7))) :: e) (fun e u => e) (fun u => True) (fun _ => rfl) (fun _ => rfl) ?_ ?_)
 ·
  refine V.ite rfl (fun k1_ => ?_) (fun k1_ => ?_)
  · refine Vs 1 rfl (V.meet (()) (Sub.cons (by first | exact boolT (by omega) | exact boolF (by omega) | exact boolD (by omega)) (Sub.of rfl)) (Has.of rfl) (trivial) 0 rfl rfl)
  refine Vs 4 rfl (V.meet (()) (Sub.cons (by first | exact boolT (by omega) | exact boolF (by omega) | exact boolD (by omega)) (Sub.of rfl)) (Has.of rfl) (trivial) 0 rfl rfl)
 rintro u _
 refine Vs 1 rfl (V.ite rfl (fun h7 => ?_) (fun h7 => ?_))
 · refine Vs 8 rfl (V.ret1e 0 Tryz.results107 rfl rfl (by grind [kidsN]))
 refine Vs 7 rfl (V.cutK (σ := Unit) [3] [] [] rfl (fun e u => (10, .bool (decide (8 ≤ op ∧ op ≤ 22))) :: e) (fun e u => e) (fun u => True) (fun _ => rfl) (fun _ => rfl) ?_ ?_)
 ·
  refine V.ite rfl (fun k1_ => ?_) (fun k1_ => ?_)
  · refine Vs 1 rfl (V.meet (()) (Sub.cons (by first | exact boolT (by omega) | exact boolF (by omega) | exact boolD (by omega)) (Sub.of rfl)) (Has.of rfl) (trivial) 0 rfl rfl)
  refine Vs 6 rfl (V.ite rfl (fun k2_ => ?_) (fun k2_ => ?_))
  · refine Vs 1 rfl (V.meet (()) (Sub.cons (by first | exact boolT (by omega) | exact boolF (by omega) | exact boolD (by omega)) (Sub.of rfl)) (Has.of rfl) (trivial) 0 rfl rfl)
  refine Vs 6 rfl (V.ite rfl (fun k3_ => ?_) (fun k3_ => ?_))
  · refine Vs 1 rfl (V.meet (()) (Sub.cons (by first | exact boolT (by omega) | exact boolF (by omega) | exact boolD (by omega)) (Sub.of rfl)) (Has.of rfl) (trivial) 0 rfl rfl)
  refine Vs 6 rfl (V.ite rfl (fun k4_ => ?_) (fun k4_ => ?_))
  · refine Vs 1 rfl (V.meet (()) (Sub.cons (by first | exact boolT (by omega) | exact boolF (by omega) | exact boolD (by omega)) (Sub.of rfl)) (Has.of rfl) (trivial) 0 rfl rfl)
  refine Vs 6 rfl (V.ite rfl (fun k5_ => ?_) (fun k5_ => ?_))
  · refine Vs 1 rfl (V.meet (()) (Sub.cons (by first | exact boolT (by omega) | exact boolF (by omega) | exact boolD (by omega)) (Sub.of rfl)) (Has.of rfl) (trivial) 0 rfl rfl)
  refine Vs 6 rfl (V.ite rfl (fun k6_ => ?_) (fun k6_ => ?_))
  · refine Vs 1 rfl (V.meet (()) (Sub.cons (by first | exact boolT (by omega) | exact boolF (by omega) | exact boolD (by omega)) (Sub.of rfl)) (Has.of rfl) (trivial) 0 rfl rfl)
  refine Vs 6 rfl (V.ite rfl (fun k7_ => ?_) (fun k7_ => ?_))
  · refine Vs 1 rfl (V.meet (()) (Sub.cons (by first | exact boolT (by omega) | exact boolF (by omega) | exact boolD (by omega)) (Sub.of rfl)) (Has.of rfl) (trivial) 0 rfl rfl)
  refine Vs 6 rfl (V.ite rfl (fun k8_ => ?_) (fun k8_ => ?_))
  · refine Vs 1 rfl (V.meet (()) (Sub.cons (by first | exact boolT (by omega) | exact boolF (by omega) | exact boolD (by omega)) (Sub.of rfl)) (Has.of rfl) (trivial) 0 rfl rfl)
  refine Vs 6 rfl (V.ite rfl (fun k9_ => ?_) (fun k9_ => ?_))
  · refine Vs 1 rfl (V.meet (()) (Sub.cons (by first | exact boolT (by omega) | exact boolF (by omega) | exact boolD (by omega)) (Sub.of rfl)) (Has.of rfl) (trivial) 0 rfl rfl)
  refine Vs 6 rfl (V.ite rfl (fun k10_ => ?_) (fun k10_ => ?_))
  · refine Vs 1 rfl (V.meet (()) (Sub.cons (by first | exact boolT (by omega) | exact boolF (by omega) | exact boolD (by omega)) (Sub.of rfl)) (Has.of rfl) (trivial) 0 rfl rfl)
  refine Vs 6 rfl (V.ite rfl (fun k11_ => ?_) (fun k11_ => ?_))
  · refine Vs 1 rfl (V.meet (()) (Sub.cons (by first | exact boolT (by omega) | exact boolF (by omega) | exact boolD (by omega)) (Sub.of rfl)) (Has.of rfl) (trivial) 0 rfl rfl)
  refine Vs 6 rfl (V.ite rfl (fun k12_ => ?_) (fun k12_ => ?_))
  · refine Vs 1 rfl (V.meet (()) (Sub.cons (by first | exact boolT (by omega) | exact boolF (by omega) | exact boolD (by omega)) (Sub.of rfl)) (Has.of rfl) (trivial) 0 rfl rfl)
  refine Vs 6 rfl (V.ite rfl (fun k13_ => ?_) (fun k13_ => ?_))
  · refine Vs 1 rfl (V.meet (()) (Sub.cons (by first | exact boolT (by omega) | exact boolF (by omega) | exact boolD (by omega)) (Sub.of rfl)) (Has.of rfl) (trivial) 0 rfl rfl)
  refine Vs 6 rfl (V.ite rfl (fun k14_ => ?_) (fun k14_ => ?_))
  · refine Vs 1 rfl (V.meet (()) (Sub.cons (by first | exact boolT (by omega) | exact boolF (by omega) | exact boolD (by omega)) (Sub.of rfl)) (Has.of rfl) (trivial) 0 rfl rfl)
  refine Vs 4 rfl (V.meet (()) (Sub.cons (by first | exact boolT (by omega) | exact boolF (by omega) | exact boolD (by omega)) (Sub.of rfl)) (Has.of rfl) (trivial) 0 rfl rfl)
 rintro u _
 refine Vs 1 rfl (V.ite rfl (fun h10 => ?_) (fun h10 => ?_))
 · refine Vs 8 rfl (V.ret1e 0 Tryz.results107 rfl rfl (by grind [kidsN]))
 refine Vs 6 rfl (V.ite rfl (fun k1_ => ?_) (fun k1_ => ?_))
 · refine Vs 8 rfl (V.ret1e 0 Tryz.results107 rfl rfl (by grind [kidsN]))
 refine Vs 6 rfl (V.ite rfl (fun k2_ => ?_) (fun k2_ => ?_))
 · refine Vs 8 rfl (V.ret1e 0 Tryz.results107 rfl rfl (by grind [kidsN]))
 refine Vs 9 rfl (V.ret1e 0 Tryz.results107 rfl rfl (by grind [kidsN]))
theorem flatKids_ok (op : Int) (w : World) : Calls Tryz.prog 136 #[.int .i64 op] w (Ret fun r w' => (∃ a b : Int, r = .tuple #[.int .i64 a, .int .i64 b] ∧ (a < 0 ↔ kidsN op = -1) ∧ (0 ≤ kidsN op → a = kidsN op ∧ b = kidsN op) ∧ (kidsN op = -2 → a = 2 ∧ b = 33)) ∧ Ext w w') := by
 refine G.in1 Tryz.func136 rfl Tryz.ntmps136 rfl (V.inn (Vs 13 rfl (V.sp 7 rfl (fun k1_ => ?_) (fun k1_ => ?_))))
 · refine Vs 16 rfl (V.ret2 Tryz.results136 rfl rfl (fun w hI => ⟨_, rfl, ⟨_, _, rfl, by grind [kidsN]⟩, hI.k0⟩))
 refine Vs 6 rfl (V.ite rfl (fun k2_ => ?_) (fun k2_ => ?_))
 · refine Vs 9 rfl (V.ret2 Tryz.results136 rfl rfl (fun w hI => ⟨_, rfl, ⟨_, _, rfl, by grind [kidsN]⟩, hI.k0⟩))
 refine Vs 5 rfl (V.sp 14 rfl (fun k3_ => ?_) (fun k3_ => ?_))
 · refine Vs 16 rfl (V.ret2 Tryz.results136 rfl rfl (fun w hI => ⟨_, rfl, ⟨_, _, rfl, by grind [kidsN]⟩, hI.k0⟩))
 refine Vs 6 rfl (V.ite rfl (fun k4_ => ?_) (fun k4_ => ?_))
 · refine Vs 9 rfl (V.ret2 Tryz.results136 rfl rfl (fun w hI => ⟨_, rfl, ⟨_, _, rfl, by grind [kidsN]⟩, hI.k0⟩))
 refine Vs 5 rfl (V.sp 21 rfl (fun k5_ => ?_) (fun k5_ => ?_))
 ·
  refine Vs 6 rfl (V.ite rfl (fun k6_ => ?_) (fun k6_ => ?_))
  · refine Vs 9 rfl (V.ret2 Tryz.results136 rfl rfl (fun w hI => ⟨_, rfl, ⟨_, _, rfl, by grind [kidsN]⟩, hI.k0⟩))
  refine Vs 7 rfl (V.ite rfl (fun k7_ => ?_) (fun k7_ => ?_))
  · refine Vs 9 rfl (V.ret2 Tryz.results136 rfl rfl (fun w hI => ⟨_, rfl, ⟨_, _, rfl, by grind [kidsN]⟩, hI.k0⟩))
  refine Vs 7 rfl (V.ite rfl (fun k8_ => ?_) (fun k8_ => ?_))
  · refine Vs 9 rfl (V.ret2 Tryz.results136 rfl rfl (fun w hI => ⟨_, rfl, ⟨_, _, rfl, by grind [kidsN]⟩, hI.k0⟩))
  refine Vs 10 rfl (V.ret2 Tryz.results136 rfl rfl (fun w hI => ⟨_, rfl, ⟨_, _, rfl, by grind [kidsN]⟩, hI.k0⟩))
 refine Vs 14 rfl (V.ite rfl (fun k6_ => ?_) (fun k6_ => ?_))
 · refine Vs 9 rfl (V.ret2 Tryz.results136 rfl rfl (fun w hI => ⟨_, rfl, ⟨_, _, rfl, by grind [kidsN]⟩, hI.k0⟩))
 refine Vs 7 rfl (V.ite rfl (fun k7_ => ?_) (fun k7_ => ?_))
 · refine Vs 9 rfl (V.ret2 Tryz.results136 rfl rfl (fun w hI => ⟨_, rfl, ⟨_, _, rfl, by grind [kidsN]⟩, hI.k0⟩))
 refine Vs 10 rfl (V.ret2 Tryz.results136 rfl rfl (fun w hI => ⟨_, rfl, ⟨_, _, rfl, by grind [kidsN]⟩, hI.k0⟩))
@[irreducible] def letterB (n : Int) : Bool := decide (97 ≤ n ∧ n ≤ 122)
@[irreducible] def otherB (n : Int) : Bool := decide (48 ≤ n ∧ n ≤ 57 ∨ n = 46 ∨ n = 95)
def okB (i : Nat) (n : Int) : Bool := letterB n || (decide (i ≠ 0) && otherB n)
@[irreducible] def isNm (s : ByteArray) : Bool := decide (1 ≤ s.size ∧ s.size ≤ 40 ∧ ∀ (i : Nat) (h : i < s.size), okB i (s[i].toNat : Int) = true)
theorem refIsName_ok (s : ByteArray) (w : World) : Calls Tryz.prog 34 #[.string s] w (Ret fun r w' => r = .bool (isNm s) ∧ Ext w w') := by
 refine G.in1 Tryz.func34 rfl Tryz.ntmps34 rfl (V.inn (Vs 12 rfl (V.sp 10 rfl (fun h1 => ?_) (fun h1 => ?_))))
 · refine Vs 14 rfl (V.ret1e 0 Tryz.results34 rfl rfl (by rw [isNm, decide_eq_false (fun h => by omega)]))
 refine Vs 6 rfl (V.ite rfl (fun h2 => ?_) (fun h2 => ?_))
 · refine Vs 7 rfl (V.ret1e 0 Tryz.results34 rfl rfl (by rw [isNm, decide_eq_false (fun h => by omega)]))
 refine Vs 9 rfl (V.loopK (σ := Nat) [0] [] [] rfl (fun e i => (3, .int .i64 i) :: e) (fun e i => e) (fun i => i ≤ s.size ∧ (∀ (j : Nat) (h : j < s.size), j < i → okB j (s[j].toNat : Int) = true)) (fun i => s.size - i) (0) (Sub.of rfl) (Has.of rfl) (fun _ => rfl) (fun _ => rfl) (fun _ => rfl) (⟨Nat.zero_le _, fun j _ h => absurd h (Nat.not_lt_zero _)⟩) ?_)
 rintro i ⟨hi, hall⟩
 refine Vs 9 rfl (V.ite rfl (fun hlt => ?_) (fun hlt => ?_))
 ·
  have hlt' : i < s.size := by omega
  refine Vs 8 rfl (V.ops1 rfl (fun w hI => R.indexStr Tryz.underlying9 rfl rfl i rfl hlt') ?_)
  obtain ⟨n, hn⟩ : ∃ n : Int, n = (s[i].toNat : Int) := ⟨_, rfl⟩
  rw [← hn]
  refine Vs 4 rfl (V.cutK (σ := Unit) [0, 3, 4] [] [] rfl (fun e u => (5, .bool (letterB n)) :: e) (fun e u => e) (fun u => True) (fun _ => rfl) (fun _ => rfl) ?_ ?_)
  ·
   refine Vs 4 rfl (V.sb 26 rfl (fun k1_ => ?_) (fun k1_ => ?_))
   · refine Vs 5 rfl (V.meet (()) (Sub.cons (by exact boolG (by unfold letterB; grind)) (Sub.of rfl)) (Has.of rfl) (trivial) 0 rfl rfl)
   refine Vs 5 rfl (V.meet (()) (Sub.cons (by exact boolG (by unfold letterB; grind)) (Sub.of rfl)) (Has.of rfl) (trivial) 0 rfl rfl)
  rintro u _
  refine Vs 2 rfl (V.cutK (σ := Unit) [0, 3, 5] [] [] rfl (fun e u => (6, .bool (otherB n)) :: e) (fun e u => e) (fun u => True) (fun _ => rfl) (fun _ => rfl) ?_ ?_)
  ·
   refine Vs 4 rfl (V.sb 32 rfl (fun k1_ => ?_) (fun k1_ => ?_))
   ·
    refine Vs 4 rfl (V.sb 36 rfl (fun k2_ => ?_) (fun k2_ => ?_))
    · refine Vs 9 rfl (V.meet (()) (Sub.cons (by exact boolG (by unfold otherB; grind)) (Sub.of rfl)) (Has.of rfl) (trivial) 0 rfl rfl)
    refine Vs 4 rfl (V.sb 40 rfl (fun k3_ => ?_) (fun k3_ => ?_))
    · refine Vs 5 rfl (V.meet (()) (Sub.cons (by exact boolG (by unfold otherB; grind)) (Sub.of rfl)) (Has.of rfl) (trivial) 0 rfl rfl)
    refine Vs 5 rfl (V.meet (()) (Sub.cons (by exact boolG (by unfold otherB; grind)) (Sub.of rfl)) (Has.of rfl) (trivial) 0 rfl rfl)
   refine Vs 8 rfl (V.sb 40 rfl (fun k2_ => ?_) (fun k2_ => ?_))
   · refine Vs 5 rfl (V.meet (()) (Sub.cons (by exact boolG (by unfold otherB; grind)) (Sub.of rfl)) (Has.of rfl) (trivial) 0 rfl rfl)
   refine Vs 5 rfl (V.meet (()) (Sub.cons (by exact boolG (by unfold otherB; grind)) (Sub.of rfl)) (Has.of rfl) (trivial) 0 rfl rfl)
  rintro u _
  have hstep : okB i n = true → ∀ (j : Nat) (h : j < s.size), j < i + 1 → okB j (s[j].toNat : Int) = true := by
   intro h0 j h h1
   by_cases e : j = i
   · subst e; rw [← hn]; exact h0
   exact hall j h (by omega)
  have hbad : okB i n = false → isNm s = false := by
   intro h0
   rw [isNm, decide_eq_false]
   rintro ⟨_, _, h3⟩
   have := h3 i hlt'
   rw [← hn, h0] at this
   cases this
  refine Vs 2 rfl (V.cutK (σ := Unit) [0, 3] [] [] rfl (fun e u => (53, .bool (!okB i n)) :: e) (fun e u => e) (fun u => True) (fun _ => rfl) (fun _ => rfl) ?_ ?_)
  ·
   refine Vs 2 rfl (V.ops1 rfl (fun w hI => R.notU rfl (by first | exact not_decide_eq | rfl)) (Vs 1 rfl (V.sb 46 rfl (fun k1_ => ?_) (fun k1_ => ?_))))
   ·
    refine Vs 3 rfl (V.sb 49 rfl (fun k2_ => ?_) (fun k2_ => ?_))
    · refine Vs 5 rfl (V.meet (()) (Sub.cons (by exact boolG (by unfold okB; grind)) (Sub.of rfl)) (Has.of rfl) (trivial) 0 rfl rfl)
    refine Vs 1 rfl (V.ops1 rfl (fun w hI => R.notU rfl (by first | exact not_decide_eq | rfl)) (Vs 3 rfl (V.meet (()) (Sub.cons (by exact boolG (by unfold okB; grind)) (Sub.of rfl)) (Has.of rfl) (trivial) 0 rfl rfl)))
   refine Vs 8 rfl (V.meet (()) (Sub.cons (by exact boolG (by unfold okB; grind)) (Sub.of rfl)) (Has.of rfl) (trivial) 0 rfl rfl)
  rintro u _
  refine Vs 1 rfl (V.bool rfl (fun ho => ?_) (fun ho => ?_))
  · refine Vs 11 rfl (V.ret1e 0 Tryz.results34 rfl rfl (by rw [hbad (by simpa using ho)]))
  refine Va 8 rfl (by omega) (V.back (i + 1) (Sub.of rfl) (Has.of rfl) (⟨by omega, hstep (by simpa using ho)⟩) (by first | omega | (dsimp only; omega)) 0 rfl rfl)
 refine Vs 11 rfl (V.ret1e 0 Tryz.results34 rfl rfl (by rw [isNm, decide_eq_true ⟨by omega, by omega, fun j h => hall j h (by omega)⟩]))
theorem flatIsName_ok (s : ByteArray) (w : World) : Calls Tryz.prog 81 #[.string s] w (Ret fun r w' => r = .bool (isNm s) ∧ Ext w w') := by
 refine G.in1 Tryz.func81 rfl Tryz.ntmps81 rfl (V.inn (Vs 11 rfl (V.sp 8 rfl (fun h1 => ?_) (fun h1 => ?_))))
 ·
  have h1' : s.size = 0 := by
   have := congrArg List.length h1
   rw [ByteArray.toList_eq] at this
   simpa using this
  refine Vs 14 rfl (V.ret1e 0 Tryz.results81 rfl rfl (by rw [isNm, decide_eq_false (fun h => by omega)]))
 have h1' : s.size ≠ 0 := by
  intro h
  apply h1
  have : s.toList.length = 0 := by rw [ByteArray.toList_eq]; simpa using h
  rw [List.eq_nil_of_length_eq_zero this, ByteArray.toList_eq]
 refine Vs 6 rfl (V.ite rfl (fun h2 => ?_) (fun h2 => ?_))
 · refine Vs 7 rfl (V.ret1e 0 Tryz.results81 rfl rfl (by rw [isNm, decide_eq_false (fun h => by omega)]))
 refine Vs 11 rfl (V.loopK (σ := Nat) [0, 14] [] [] rfl (fun e i => (15, .int .i64 i) :: e) (fun e i => e) (fun i => i ≤ s.size ∧ (∀ (j : Nat) (h : j < s.size), j < i → okB j (s[j].toNat : Int) = true)) (fun i => s.size - i) (0) (Sub.of rfl) (Has.of rfl) (fun _ => rfl) (fun _ => rfl) (fun _ => rfl) (⟨Nat.zero_le _, fun j _ h => absurd h (Nat.not_lt_zero _)⟩) ?_)
 rintro i ⟨hi, hall⟩
 refine Vs 6 rfl (V.ite rfl (fun hlt => ?_) (fun hlt => ?_))
 ·
  have hlt' : i < s.size := by omega
  refine Vs 14 rfl (V.ops1 rfl (fun w hI => R.indexStr Tryz.underlying9 rfl rfl i rfl hlt') ?_)
  obtain ⟨n, hn⟩ : ∃ n : Int, n = (s[i].toNat : Int) := ⟨_, rfl⟩
  rw [← hn]
  refine Vs 4 rfl (V.cutK (σ := Unit) [0, 3, 4, 14, 15] [] [] rfl (fun e u => (5, .bool (letterB n)) :: e) (fun e u => e) (fun u => True) (fun _ => rfl) (fun _ => rfl) ?_ ?_)
  ·
   refine Vs 4 rfl (V.sb 23 rfl (fun k1_ => ?_) (fun k1_ => ?_))
   · refine Vs 5 rfl (V.meet (()) (Sub.cons (by exact boolG (by unfold letterB; grind)) (Sub.of rfl)) (Has.of rfl) (trivial) 0 rfl rfl)
   refine Vs 5 rfl (V.meet (()) (Sub.cons (by exact boolG (by unfold letterB; grind)) (Sub.of rfl)) (Has.of rfl) (trivial) 0 rfl rfl)
  rintro u _
  have hstep : okB i n = true → ∀ (j : Nat) (h : j < s.size), j < i + 1 → okB j (s[j].toNat : Int) = true := by
   intro h0 j h h1
   by_cases e : j = i
   · subst e; rw [← hn]; exact h0
   exact hall j h (by omega)
  have hbad : okB i n = false → isNm s = false := by
   intro h0
   rw [isNm, decide_eq_false]
   rintro ⟨_, _, h3⟩
   have := h3 i hlt'
   rw [← hn, h0] at this
   cases this
  refine Vs 2 rfl (V.cutK (σ := Unit) [0, 14, 15] [] [] rfl (fun e u => (48, .bool (!okB i n)) :: e) (fun e u => e) (fun u => True) (fun _ => rfl) (fun _ => rfl) ?_ ?_)
  ·
   refine Vs 2 rfl (V.ops1 rfl (fun w hI => R.notU rfl (by first | exact not_decide_eq | rfl)) (Vs 1 rfl (V.sb 29 rfl (fun k1_ => ?_) (fun k1_ => ?_))))
   ·
    refine Vs 3 rfl (V.sb 32 rfl (fun k2_ => ?_) (fun k2_ => ?_))
    · refine Vs 17 rfl (V.meet (()) (Sub.cons (by exact boolG (by unfold okB otherB; grind)) (Sub.of rfl)) (Has.of rfl) (trivial) 0 rfl rfl)
    refine Vs 3 rfl (V.sb 35 rfl (fun k3_ => ?_) (fun k3_ => ?_))
    ·
     refine Vs 8 rfl (V.sb 43 rfl (fun k4_ => ?_) (fun k4_ => ?_))
     · refine Vs 6 rfl (V.meet (()) (Sub.cons (by exact boolG (by unfold okB otherB; grind)) (Sub.of rfl)) (Has.of rfl) (trivial) 0 rfl rfl)
     refine Vs 6 rfl (V.meet (()) (Sub.cons (by exact boolG (by unfold okB otherB; grind)) (Sub.of rfl)) (Has.of rfl) (trivial) 0 rfl rfl)
    refine Vs 4 rfl (V.sb 39 rfl (fun k4_ => ?_) (fun k4_ => ?_))
    ·
     refine Vs 4 rfl (V.sb 43 rfl (fun k5_ => ?_) (fun k5_ => ?_))
     · refine Vs 6 rfl (V.meet (()) (Sub.cons (by exact boolG (by unfold okB otherB; grind)) (Sub.of rfl)) (Has.of rfl) (trivial) 0 rfl rfl)
     refine Vs 6 rfl (V.meet (()) (Sub.cons (by exact boolG (by unfold okB otherB; grind)) (Sub.of rfl)) (Has.of rfl) (trivial) 0 rfl rfl)
    refine Vs 10 rfl (V.meet (()) (Sub.cons (by exact boolG (by unfold okB otherB; grind)) (Sub.of rfl)) (Has.of rfl) (trivial) 0 rfl rfl)
   refine Vs 20 rfl (V.meet (()) (Sub.cons (by exact boolG (by unfold okB otherB; grind)) (Sub.of rfl)) (Has.of rfl) (trivial) 0 rfl rfl)
  rintro u _
  refine Vs 1 rfl (V.bool rfl (fun ho => ?_) (fun ho => ?_))
  · refine Vs 11 rfl (V.ret1e 0 Tryz.results81 rfl rfl (by rw [hbad (by simpa using ho)]))
  refine Va 7 rfl (by omega) (V.back (i + 1) (Sub.of rfl) (Has.of rfl) (⟨by omega, hstep (by simpa using ho)⟩) (by first | omega | (dsimp only; omega)) 0 rfl rfl)
 refine Vs 11 rfl (V.ret1e 0 Tryz.results81 rfl rfl (by rw [isNm, decide_eq_true ⟨by omega, by omega, fun j h => hall j h (by omega)⟩]))
@[irreducible] def bndB (low high : Int) : Bool := decide (low ≤ high ∧ -1048576 ≤ low ∧ high ≤ 1048576)
theorem refBounded_ok (a b : Int) (w : World) : Calls Tryz.prog 35 #[.int .i64 a, .int .i64 b] w (Ret fun r w' => r = .bool (bndB a b) ∧ Ext w w') := by
 refine G.in2 Tryz.func35 rfl Tryz.ntmps35 rfl (V.inn (Vs 11 rfl (V.sp 8 rfl (fun k1_ => ?_) (fun k1_ => ?_))))
 ·
  refine Vs 4 rfl (V.sp 12 rfl (fun k2_ => ?_) (fun k2_ => ?_))
  · refine Vs 7 rfl (V.ret1e 0 Tryz.results35 rfl rfl (by unfold bndB; congr 1; grind))
  refine Vs 7 rfl (V.ret1e 0 Tryz.results35 rfl rfl (by unfold bndB; congr 1; grind))
 refine Vs 11 rfl (V.ret1e 0 Tryz.results35 rfl rfl (by unfold bndB; congr 1; grind))
theorem flatBounded_ok (a b : Int) (w : World) : Calls Tryz.prog 83 #[.int .i64 a, .int .i64 b] w (Ret fun r w' => r = .bool (bndB a b) ∧ Ext w w') := by
 refine G.in2 Tryz.func83 rfl Tryz.ntmps83 rfl (V.inn (Vs 11 rfl (V.sp 8 rfl (fun k1_ => ?_) (fun k1_ => ?_))))
 ·
  refine Vs 4 rfl (V.sp 12 rfl (fun k2_ => ?_) (fun k2_ => ?_))
  · refine Vs 7 rfl (V.ret1e 0 Tryz.results83 rfl rfl (by unfold bndB; congr 1; grind))
  refine Vs 7 rfl (V.ret1e 0 Tryz.results83 rfl rfl (by unfold bndB; congr 1; grind))
 refine Vs 11 rfl (V.ret1e 0 Tryz.results83 rfl rfl (by unfold bndB; congr 1; grind))
def kidsFit (op : Int) (n : Nat) : Bool := if 0 ≤ kidsN op then decide ((n : Int) = kidsN op) else decide (kidsN op = -2 ∧ 2 ≤ n ∧ n ≤ 33)
def isLocal (vs : List Vr) (n : Int) : Bool := match vs[n.toNat]? with
 | some v => decide (v.kind = 0)
 | none => false
def refFit (vs : List Vr) (inputs : Bool) (op n : Int) : Bool := if op = 24 then decide (0 ≤ n ∧ n < vs.length) && !(inputs && isLocal vs n) else decide (op = 0 ∨ n = 0)
mutual
def formedT (vs : List Vr) (inputs : Bool) : Tm → Bool
 | .mk op n ks => kidsFit op ks.length && refFit vs inputs op n && formedL vs inputs ks
def formedL (vs : List Vr) (inputs : Bool) : List Tm → Bool
 | [] => true
 | k :: r => formedT vs inputs k && formedL vs inputs r
end
section
variable {vs : List Vr} {inp : Bool}
theorem formedT_eq (t : Tm) : formedT vs inp t = (kidsFit t.op t.kids.length && refFit vs inp t.op t.n && formedL vs inp t.kids) := by cases t; rw [formedT]; rfl
theorem formedL_append (a b : List Tm) : formedL vs inp (a ++ b) = (formedL vs inp a && formedL vs inp b) := by
 induction a with
 | nil => simp [formedL]
 | cons x r ih => simp [formedL, ih, Bool.and_assoc]
theorem formedL_take {l : List Tm} {i : Nat} {x : Tm} (h : l[i]? = some x) : formedL vs inp (l.take (i + 1)) = (formedL vs inp (l.take i) && formedT vs inp x) := by rw [take_get h, formedL_append]; simp [formedL]
theorem formedL_mem {l : List Tm} {x : Tm} (h : formedL vs inp l = true) (hx : x ∈ l) : formedT vs inp x = true := by
 obtain ⟨i, hi⟩ := List.mem_iff_getElem?.1 hx
 rw [split_get hi, formedL_append] at h
 simp [formedL] at h
 exact h.2.1
theorem formedL_bad {l : List Tm} {x : Tm} (hx : x ∈ l) (h : formedT vs inp x = false) : formedL vs inp l = false := by
 cases h1 : formedL vs inp l with
 | false => rfl
 | true => rw [formedL_mem h1 hx] at h; cases h
theorem kidsN_vals (op : Int) : kidsN op = 0 ∨ kidsN op = 1 ∨ kidsN op = 2 ∨ kidsN op = 3 ∨ kidsN op = -2 ∨ kidsN op = -1 := by
 unfold kidsN; (repeat' split); all_goals omega
end
theorem refFormed_ok (vs : List Vr) (inp : Bool) (vv : Value) (Dv : Nat → Prop) (t : Tm) : ∀ (cs : List Value) (D : Nat → Prop) (w : World), SlR 5 RVr Dv w vv vs → RTm D w t cs → Calls Tryz.prog 77 #[vv, .agg cs.toArray, .bool inp] w (Ret fun r w' => r = .bool (formedT vs inp t) ∧ Ext w w') := by
 induction t using Tm.ind with
 | h t ih =>
 intro cs D w hvs ht
 obtain ⟨v, rfl, hk⟩ := ht.get
 have hmx := hk.max
 obtain ⟨ao, cap, rfl⟩ := hk.form
 obtain ⟨av, nv, rfl⟩ := hvs.form
 have hfe := formedT_eq (vs := vs) (inp := inp) t
 have hkv := kidsN_vals t.op
 refine G.in3 Tryz.func77 rfl Tryz.ntmps77 rfl (V.inn (Vs 2 rfl (V.box 4 rfl rfl (fun b4 => ?_))))
 refine Vs 7 rfl (V.call1 Tryz.call107 rfl (fun w hI => refKids_ok t.op w) (Vs 5 rfl (V.cutK (σ := Unit) [0, 2, 4] [4] [4] rfl (fun e u => (40, .bool (!kidsFit t.op t.kids.length)) :: e) (fun e u => e) (fun u => True) (fun _ => rfl) (fun _ => rfl) ?_ ?_)))
 ·
  refine Vs 4 rfl (V.sb 14 rfl (fun k1_ => ?_) (fun k1_ => ?_))
  · refine Vs 27 rfl (V.meet (()) (Sub.cons (by exact boolG (by grind [kidsFit])) (Sub.of rfl)) (Has.of rfl) (trivial) 0 rfl rfl)
  refine Vs 3 rfl (V.sb 17 rfl (fun k2_ => ?_) (fun k2_ => ?_))
  ·
   refine Vs 8 rfl (V.sb 25 rfl (fun k3_ => ?_) (fun k3_ => ?_))
   · refine Vs 16 rfl (V.meet (()) (Sub.cons (by exact boolG (by grind [kidsFit])) (Sub.of rfl)) (Has.of rfl) (trivial) 0 rfl rfl)
   refine Vs 3 rfl (V.sb 28 rfl (fun k4_ => ?_) (fun k4_ => ?_))
   ·
    refine Vs 5 rfl (V.sb 33 rfl (fun k5_ => ?_) (fun k5_ => ?_))
    · refine Vs 8 rfl (V.meet (()) (Sub.cons (by exact boolG (by grind [kidsFit])) (Sub.of rfl)) (Has.of rfl) (trivial) 0 rfl rfl)
    refine Vs 8 rfl (V.meet (()) (Sub.cons (by exact boolG (by grind [kidsFit])) (Sub.of rfl)) (Has.of rfl) (trivial) 0 rfl rfl)
   refine Vs 13 rfl (V.meet (()) (Sub.cons (by exact boolG (by grind [kidsFit])) (Sub.of rfl)) (Has.of rfl) (trivial) 0 rfl rfl)
  refine Vs 11 rfl (V.sb 28 rfl (fun k3_ => ?_) (fun k3_ => ?_))
  ·
   refine Vs 5 rfl (V.sb 33 rfl (fun k4_ => ?_) (fun k4_ => ?_))
   · refine Vs 8 rfl (V.meet (()) (Sub.cons (by exact boolG (by grind [kidsFit])) (Sub.of rfl)) (Has.of rfl) (trivial) 0 rfl rfl)
   refine Vs 8 rfl (V.meet (()) (Sub.cons (by exact boolG (by grind [kidsFit])) (Sub.of rfl)) (Has.of rfl) (trivial) 0 rfl rfl)
  refine Vs 13 rfl (V.meet (()) (Sub.cons (by exact boolG (by grind [kidsFit])) (Sub.of rfl)) (Has.of rfl) (trivial) 0 rfl rfl)
 rintro u _
 refine Vs 1 rfl (V.bool rfl (fun hq => ?_) (fun hq => ?_))
 · refine Vs 7 rfl (V.ret1e 0 Tryz.results77 rfl rfl (by rw [hfe, show kidsFit t.op t.kids.length = false by simpa using hq]; rfl))
 rw [show kidsFit t.op t.kids.length = true by simpa using hq, Bool.true_and] at hfe
 refine Vs 10 rfl (V.cutK (σ := Unit) [0, 2, 4] [4] [4] rfl (fun e u => e) (fun e u => e) (fun u => refFit vs inp t.op t.n = true) (fun _ => rfl) (fun _ => rfl) ?_ ?_)
 ·
  refine V.bool rfl (fun k1_ => ?_) (fun k1_ => ?_)
  ·
   refine Vs 6 rfl (V.sb 47 rfl (fun k2_ => ?_) (fun k2_ => ?_))
   · refine Vs 29 rfl (V.ret1e 0 Tryz.results77 rfl rfl (by rw [hfe, show refFit vs inp t.op t.n = false by grind [refFit]]; rfl))
   refine Vs 7 rfl (V.sb 54 rfl (fun k3_ => ?_) (fun k3_ => ?_))
   · refine Vs 22 rfl (V.ret1e 0 Tryz.results77 rfl rfl (by rw [hfe, show refFit vs inp t.op t.n = false by grind [refFit]]; rfl))
   refine Vs 2 rfl (V.sb 56 rfl (fun k4_ => ?_) (fun k4_ => ?_))
   ·
    refine Vs 3 rfl ?_
    have hv : 0 ≤ t.n ∧ t.n < vs.length := by grind
    refine V.elG 1000 0 t.n.toNat (by omega) hvs rfl rfl rfl (fun x b_x o_x c_x he_x hm_x ha_x hR_x => ?_)
    obtain rfl := hR_x
    refine V.ix 1000 Tryz.runUnderlying22 Tryz.sizeOf96 rfl ha_x (by omega) (t.n.toNat) (by omega) rfl ?_
    have hil : isLocal vs t.n = decide (x.kind = 0) := by unfold isLocal; rw [he_x]
    refine Vs 7 rfl (V.bool rfl (fun k5_ => ?_) (fun k5_ => ?_))
    · refine Vs 8 rfl (V.ret1e 0 Tryz.results77 rfl rfl (by rw [hfe, show refFit vs inp t.op t.n = false by grind [refFit]]; rfl))
    refine Vs 1 rfl (V.meet (()) (Sub.of rfl) (Has.of rfl) (by grind [refFit]) 0 rfl rfl)
   refine Vs 13 rfl (V.meet (()) (Sub.of rfl) (Has.of rfl) (by grind [refFit]) 0 rfl rfl)
  refine Vs 6 rfl (V.sb 69 rfl (fun k2_ => ?_) (fun k2_ => ?_))
  ·
   refine Vs 6 rfl (V.bool rfl (fun k3_ => ?_) (fun k3_ => ?_))
   · refine Vs 8 rfl (V.ret1e 0 Tryz.results77 rfl rfl (by rw [hfe, show refFit vs inp t.op t.n = false by grind [refFit]]; rfl))
   refine Vs 1 rfl (V.meet (()) (Sub.of rfl) (Has.of rfl) (by grind [refFit]) 0 rfl rfl)
  refine Vs 8 rfl (V.meet (()) (Sub.of rfl) (Has.of rfl) (by grind [refFit]) 0 rfl rfl)
 rintro u hrf
 rw [hrf, Bool.true_and] at hfe
 refine Vs 8 rfl (V.loopK (σ := Nat) [0, 2, 4] [4] [4] rfl (fun e i => (8, .int .i64 i) :: e) (fun e i => e) (fun i => i ≤ t.kids.length ∧ formedL vs inp (t.kids.take i) = true) (fun i => t.kids.length - i) (0) (Sub.of rfl) (Has.of rfl) (fun _ => rfl) (fun _ => rfl) (fun _ => rfl) (⟨Nat.zero_le _, by simp [formedL]⟩) ?_)
 rintro i ⟨hi, hall⟩
 refine Vs 10 rfl (V.ite rfl (fun hlt => ?_) (fun hlt => ?_))
 ·
  refine Vs 10 rfl (V.elG 2000 0 i (by omega) hk rfl rfl rfl (fun k b_k o_k c_k he_k hm_k ha_k hR_k => ?_))
  obtain ⟨v1_k, rfl, hk_k⟩ := hR_k.get
  obtain ⟨a1_k, n1_k, rfl⟩ := hk_k.form
  refine V.ix 2000 Tryz.runUnderlying68 Tryz.sizeOf70 rfl ha_k (by omega) (_) (rfl) rfl (Vs 2 rfl (V.call1 Tryz.call77 rfl (fun w hI => ih k hm_k _ D w (Tr1 hI.k0 hvs) (RTm.put (Tr1 hI.k0 hk_k))) (V.ops1 rfl (fun w hI => R.notU rfl (by first | exact not_decide_eq | rfl)) (Vs 2 rfl (V.bool rfl (fun hb => ?_) (fun hb => ?_))))))
  · refine Vs 11 rfl (V.ret1e 0 Tryz.results77 rfl rfl (by rw [hfe, formedL_bad hm_k (by simpa using hb)]))
  refine Va 8 rfl (by omega) (V.back (i + 1) (Sub.of rfl) (Has.of rfl) (⟨by omega, by rw [formedL_take he_k, hall]; simpa using hb⟩) (by first | omega | (dsimp only; omega)) 0 rfl rfl)
 obtain rfl : i = t.kids.length := by omega
 rw [List.take_length] at hall
 refine Vs 11 rfl (V.ret1e 0 Tryz.results77 rfl rfl (by rw [hfe, hall]))
theorem flatFormed_ok (vs : List Vr) (inp : Bool) (vv : Value) (Dv : Nat → Prop) (t : Tm) : ∀ (cs : List Value) (D : Nat → Prop) (w : World), SlR 5 RVr Dv w vv vs → RTm D w t cs → Calls Tryz.prog 114 #[vv, .agg cs.toArray, .bool inp] w (Ret fun r w' => r = .bool (formedT vs inp t) ∧ Ext w w') := by
 induction t using Tm.ind with
 | h t ih =>
 intro cs D w hvs ht
 have hcs1 := ht.one
 obtain ⟨v, rfl, hk⟩ := ht.get
 have hmx := hk.max
 obtain ⟨ao, cap, rfl⟩ := hk.form
 obtain ⟨av, nv, rfl⟩ := hvs.form
 have hfe := formedT_eq (vs := vs) (inp := inp) t
 have hkv := kidsN_vals t.op
 refine G.in3 Tryz.func114 rfl Tryz.ntmps114 rfl (V.inn (Vs 2 rfl (V.box 4 rfl rfl (fun b4 => ?_))))
 refine Vs 7 rfl (V.call2 Tryz.call136 rfl (fun w hI => flatKids_ok t.op w) ?_)
 rintro r w1 w2 hI1 hk12 ⟨la, mo, rfl, hk1, hk2, hk3⟩ hlow
 refine Vs 9 rfl (V.cutK (σ := Unit) [0, 2, 4] [4] [4] rfl (fun e u => (32, .bool (!kidsFit t.op t.kids.length)) :: e) (fun e u => e) (fun u => True) (fun _ => rfl) (fun _ => rfl) ?_ ?_)
 ·
  refine Vs 4 rfl (V.sb 19 rfl (fun k1_ => ?_) (fun k1_ => ?_))
  · refine Vs 14 rfl (V.meet (()) (Sub.cons (by exact boolG (by grind [kidsFit])) (Sub.of rfl)) (Has.of rfl) (trivial) 0 rfl rfl)
  refine Vs 7 rfl (V.sb 26 rfl (fun k2_ => ?_) (fun k2_ => ?_))
  · refine Vs 7 rfl (V.meet (()) (Sub.cons (by exact boolG (by grind [kidsFit])) (Sub.of rfl)) (Has.of rfl) (trivial) 0 rfl rfl)
  refine Vs 7 rfl (V.meet (()) (Sub.cons (by exact boolG (by grind [kidsFit])) (Sub.of rfl)) (Has.of rfl) (trivial) 0 rfl rfl)
 rintro u _
 refine Vs 1 rfl (V.bool rfl (fun hq => ?_) (fun hq => ?_))
 · refine Vs 7 rfl (V.ret1e 1 Tryz.results114 rfl rfl (by rw [hfe, show kidsFit t.op t.kids.length = false by simpa using hq]; rfl))
 rw [show kidsFit t.op t.kids.length = true by simpa using hq, Bool.true_and] at hfe
 refine Vs 9 rfl (V.cutK (σ := Unit) [0, 2, 4] [4] [4] rfl (fun e u => e) (fun e u => e) (fun u => refFit vs inp t.op t.n = true) (fun _ => rfl) (fun _ => rfl) ?_ ?_)
 ·
  refine Vs 7 rfl (V.bool rfl (fun k1_ => ?_) (fun k1_ => ?_))
  · refine Vs 2 rfl (V.meet (()) (Sub.of rfl) (Has.of rfl) (by grind [refFit]) 0 rfl rfl)
  refine Vs 6 rfl (V.bool rfl (fun k2_ => ?_) (fun k2_ => ?_))
  ·
   refine Vs 6 rfl (V.sb 45 rfl (fun k3_ => ?_) (fun k3_ => ?_))
   · refine Vs 30 rfl (V.ret1e 1 Tryz.results114 rfl rfl (by rw [hfe, show refFit vs inp t.op t.n = false by grind [refFit]]; rfl))
   refine Vs 7 rfl (V.sb 52 rfl (fun k4_ => ?_) (fun k4_ => ?_))
   · refine Vs 23 rfl (V.ret1e 1 Tryz.results114 rfl rfl (by rw [hfe, show refFit vs inp t.op t.n = false by grind [refFit]]; rfl))
   refine Vs 2 rfl (V.sb 54 rfl (fun k5_ => ?_) (fun k5_ => ?_))
   ·
    refine Vs 3 rfl ?_
    have hv : 0 ≤ t.n ∧ t.n < vs.length := by grind
    refine V.elG 1000 1 t.n.toNat (by omega) hvs rfl rfl rfl (fun x b_x o_x c_x he_x hm_x ha_x hR_x => ?_)
    obtain rfl := hR_x
    refine V.ix 1000 Tryz.runUnderlying22 Tryz.sizeOf96 rfl ha_x (by omega) (t.n.toNat) (by omega) rfl ?_
    have hil : isLocal vs t.n = decide (x.kind = 0) := by unfold isLocal; rw [he_x]
    refine Vs 7 rfl (V.bool rfl (fun k6_ => ?_) (fun k6_ => ?_))
    · refine Vs 9 rfl (V.ret1e 1 Tryz.results114 rfl rfl (by rw [hfe, show refFit vs inp t.op t.n = false by grind [refFit]]; rfl))
    refine Vs 2 rfl (V.meet (()) (Sub.of rfl) (Has.of rfl) (by grind [refFit]) 0 rfl rfl)
   refine Vs 14 rfl (V.meet (()) (Sub.of rfl) (Has.of rfl) (by grind [refFit]) 0 rfl rfl)
  refine Vs 7 rfl (V.bool rfl (fun k3_ => ?_) (fun k3_ => ?_))
  · refine Vs 9 rfl (V.ret1e 1 Tryz.results114 rfl rfl (by rw [hfe, show refFit vs inp t.op t.n = false by grind [refFit]]; rfl))
  refine Vs 2 rfl (V.meet (()) (Sub.of rfl) (Has.of rfl) (by grind [refFit]) 0 rfl rfl)
 rintro u hrf
 rw [hrf, Bool.true_and] at hfe
 refine Vs 11 rfl (V.loopK (σ := Nat) [0, 2, 65, 66] [] [] rfl (fun e i => (67, .int .i64 i) :: e) (fun e i => e) (fun i => i ≤ t.kids.length ∧ formedL vs inp (t.kids.take i) = true) (fun i => t.kids.length - i) (0) (Sub.of rfl) (Has.of rfl) (fun _ => rfl) (fun _ => rfl) (fun _ => rfl) (⟨Nat.zero_le _, by simp [formedL]⟩) ?_)
 rintro i ⟨hi, hall⟩
 refine Vs 6 rfl (V.ite rfl (fun hlt => ?_) (fun hlt => ?_))
 ·
  refine Vs 6 rfl (V.elG 2000 1 i (by omega) hk rfl rfl rfl (fun k b_k o_k c_k he_k hm_k ha_k hR_k => ?_))
  obtain ⟨v1_k, rfl, hk_k⟩ := hR_k.get
  obtain ⟨a1_k, n1_k, rfl⟩ := hk_k.form
  refine V.ix 2000 Tryz.runUnderlying68 Tryz.sizeOf70 rfl ha_k (by omega) (_) (rfl) rfl (Vs 1 rfl (V.alloc 10 Tryz.zeroValue70 rfl rfl (fun b10 => ?_)))
  refine Vs 8 rfl (V.call1 Tryz.call114 rfl (fun w hI => ih k hm_k _ D w (Tr1 hI.k1 hvs) (RTm.put (Tr1 hI.k1 hk_k))) (V.ops1 rfl (fun w hI => R.notU rfl (by first | exact not_decide_eq | rfl)) (Vs 2 rfl (V.bool rfl (fun hb => ?_) (fun hb => ?_)))))
  · refine Vs 11 rfl (V.ret1e 1 Tryz.results114 rfl rfl (by rw [hfe, formedL_bad hm_k (by simpa using hb)]))
  refine Va 7 rfl (by omega) (V.back (i + 1) (Sub.of rfl) (Has.of rfl) (⟨by omega, by rw [formedL_take he_k, hall]; simpa using hb⟩) (by first | omega | (dsimp only; omega)) 0 rfl rfl)
 obtain rfl : i = t.kids.length := by omega
 rw [List.take_length] at hall
 refine Vs 11 rfl (V.ret1e 1 Tryz.results114 rfl rfl (by rw [hfe, hall]))
end Go.Proofs.YtgojdedggmehiaaGreat
namespace Go.GL
section
variable {P : Program} {n : Fm} {Q : Exit → Act → World → Prop} {ks : List Fr} {env : Env} {A : Tgs} {H Hs : Hp} {Bs B0 : Bases} {ops : Array Oper} {L : List Nat} {fuel : Nat} {listed : Array Bool} {d : Nat} {ty : TypeId} {ps : String} {aft : Array Edge} {g : Option (Nat × Bool)} {v : Value}
theorem VD.call1V (i j : Nat) {f : FuncId} {x : Operand} {fs cs : List Value} {xs : Array Operand} {ts : Array TypeId} {vs : List Value} (hf : ∀ args w, (callFunc f args).run P w = .ok (.enter f args) w) (hi : ops[i]? = some ⟨some d, .call ⟨.value x, xs, ts⟩, ty, ps, aft, g⟩) (hr : Region.ready .any ops listed = [i]) (hn : (Nat.blt d n, gd ops env g, evAll env xs.toList, ev env x, uniq (Hs.map (·.1))) = (true, some true, some vs, some (.func (.func f) fs.toArray cs.toArray), true)) (hB : Bs.drop j = B0)
  (hc : ∀ w, VI Bs H w → Calls P f (fs ++ vs ++ cs).toArray w (Ret fun r w' => r = v ∧ Ext w w')) (h : VD P n Q ks ops Hs B0 L fuel (listed.setIfInBounds i true) ((d, v) :: env) ((d, none) :: A) H Bs) : VD P n Q ks ops Hs B0 L (fuel + 1) listed env A H Bs := by
 simp only [Prod.mk.injEq] at hn
 subst hB
 refine fun hH hA w hI => VD.eff i hi hr hn.1 hn.2.1 (.inr ⟨f, _, F.callV hf hn.2.2.2.1 (evAll_ok hn.2.2.1), hc w hI⟩) ?_
 rintro _ w' ⟨rfl, hk⟩
 exact ⟨((hI.ext hk).drop j).pick hH hn.2.2.2.2, h hH hA.none w' (hI.ext hk)⟩
end
end Go.GL
namespace Go.Proofs.YtgojdedggmehiaaGreat
open Go.GL
abbrev Rg := Int × Int
def okR (r : Rg) : Bool := decide (-1048576 ≤ r.1 ∧ r.2 ≤ 1048576)
def Good (r : Rg) : Prop := -1048576 ≤ r.1 ∧ r.1 ≤ r.2 ∧ r.2 ≤ 1048576
def hullL (x : Rg) (l : List Rg) : Rg := l.foldl (fun o r => (min o.1 r.1, max o.2 r.2)) x
def cornersI (a b : Rg) : Rg := hullL (a.1 * b.1, a.1 * b.1) [(a.1 * b.2, a.1 * b.2), (a.2 * b.1, a.2 * b.1), (a.2 * b.2, a.2 * b.2)]
theorem hullL_take {x : Rg} {l : List Rg} {i : Nat} {r : Rg} (h : l[i]? = some r) : hullL x (l.take (i + 1)) = (min (hullL x (l.take i)).1 r.1, max (hullL x (l.take i)).2 r.2) := by
 rw [take_get h]; simp [hullL]
theorem mul_le {x y : Int} (hx : -1048576 ≤ x ∧ x ≤ 1048576) (hy : -1048576 ≤ y ∧ y ≤ 1048576) : -1099511627776 ≤ x * y ∧ x * y ≤ 1099511627776 := by
 have h1 := Int.natAbs_mul x y
 have h2 : x.natAbs * y.natAbs ≤ 1048576 * 1048576 := Nat.mul_le_mul (by omega) (by omega)
 omega
theorem hull_ok (a b : Rg) (w : World) : Calls Tryz.prog 144 #[.agg #[.int .i64 a.1, .int .i64 a.2], .agg #[.int .i64 b.1, .int .i64 b.2]] w (Ret fun r w' => r = .agg #[.int .i64 (min a.1 b.1), .int .i64 (max a.2 b.2)] ∧ Ext w w') := by
 refine G.in2 Tryz.func144 rfl Tryz.ntmps144 rfl (V.inn (Vs 2 rfl (V.box 2 rfl rfl (fun b2 => ?_))))
 refine V.box 3 rfl rfl (fun b3 => (V.alloc 4 Tryz.zeroValue174 rfl rfl (fun b4 => ?_)))
 refine Vs 14 rfl (V.bld [Value.int IntKind.i64 0, Value.int IntKind.i64 0] [(0, 1), (1, 1)] [(0, _), (1, _)] rfl rfl (fun _ => by kernel_rfl) (Vs 4 rfl (V.retC Tryz.results144 Tryz.isAgg174 Tryz.sizeOf174 rfl rfl rfl (fun w hI => ⟨_, rfl, rfl, hI.k0⟩))))
theorem mulF_ok (a b : Int) (w : World) (ha : -1048576 ≤ a ∧ a ≤ 1048576) (hb : -1048576 ≤ b ∧ b ≤ 1048576) : Calls Tryz.prog 143 #[.int .i64 a, .int .i64 b] w (Ret fun r w' => r = .int .i64 (a * b) ∧ Ext w w') := by
 have := mul_le ha hb
 refine G.in2 Tryz.func143 rfl Tryz.ntmps143 rfl (V.inn (Va 14 rfl (by omega) (V.ret1e 0 Tryz.results143 rfl rfl (rfl))))
theorem corners_ok (a b : Rg) (w : World) (ha : Good a) (hb : Good b) : Calls Tryz.prog 142 #[.agg #[.int .i64 a.1, .int .i64 a.2], .agg #[.int .i64 b.1, .int .i64 b.2], .func (.func 143) #[] #[]] w (Ret fun r w' => r = .agg #[.int .i64 (cornersI a b).1, .int .i64 (cornersI a b).2] ∧ Ext w w') := by
 unfold Good at ha hb
 obtain ⟨es, hes⟩ : ∃ es : List Int, es = [a.1 * b.2, a.2 * b.1, a.2 * b.2] := ⟨_, rfl⟩
 have hel : es.length = 3 := by rw [hes]; rfl
 refine G.in3 Tryz.func142 rfl Tryz.ntmps142 rfl (V.inn (Vs 2 rfl (V.box 3 rfl rfl (fun b3 => ?_))))
 refine V.box 4 rfl rfl (fun b4 => (V.alloc 6 Tryz.zeroValue174 rfl rfl (fun b6 => ?_)))
 refine Vs 9 rfl (V.call1V Tryz.call143 rfl (fun w hI => mulF_ok a.1 b.1 w (by omega) (by omega)) (Vs 7 rfl (V.bld [Value.int IntKind.i64 0, Value.int IntKind.i64 0] [(0, 1), (1, 1)] [(0, _), (1, _)] rfl rfl (fun _ => by kernel_rfl) (V.alloc 8 Tryz.zeroValue174 rfl rfl (fun b8 => ?_)))))
 refine Vs 5 rfl (Vw [3, 4, 6, 8] [] rfl (Vd [0, 1, 2, 3, 4, 6, 7, 8, 9, 10, 12, 13, 14, 15, 16, 20] 0 (by kernel_rfl) rfl rfl rfl (VD.call1V 5 0 Tryz.call143 rfl (by kernel_rfl) rfl rfl (fun w hI => mulF_ok a.1 b.2 w (by omega) (by omega)) (VD.call1V 11 0 Tryz.call143 rfl (by kernel_rfl) rfl rfl (fun w hI => mulF_ok a.2 b.1 w (by omega) (by omega)) (VD.call1V 17 0 Tryz.call143 rfl (by kernel_rfl) rfl rfl (fun w hI => mulF_ok a.2 b.2 w (by omega) (by omega)) (VD.bs 18 38 0 [(0, _), (1, _), (2, _)] Tryz.runUnderlying49 Tryz.sizeOf3 Tryz.zeroValue3 (by decide) rfl (by kernel_rfl) rfl rfl (by kernel_rfl) (fun b38 => ?_)))))))
 refine Vd [19] 0 (by kernel_rfl) rfl rfl rfl (VD.done (by kernel_rfl) (Vs 2 rfl (V.loopK (σ := Nat) [6, 8, 38, 39] [6, 38] [6, 8] rfl (fun e k => (40, .int .i64 k) :: e) (fun e k => (8, .own b8 [.int .i64 (hullL (a.1 * b.1, a.1 * b.1) ((es.map (fun x => (x, x))).take k)).1, .int .i64 (hullL (a.1 * b.1, a.1 * b.1) ((es.map (fun x => (x, x))).take k)).2] 174) :: e) (fun k => k ≤ 3) (fun k => 3 - k) (0) (Sub.of rfl) (Has.of rfl) (fun _ => rfl) (fun _ => rfl) (fun _ => rfl) (Nat.zero_le _) ?_)))
 rintro k hk
 refine Vs 6 rfl (V.ite rfl (fun hlt => ?_) (fun hlt => ?_))
 ·
  obtain ⟨x, hx⟩ : ∃ x, es[k]? = some x := ⟨_, List.getElem?_eq_getElem (by omega)⟩
  refine Vs 6 rfl (V.ops1 rfl (fun w hI => R.indexS Tryz.runUnderlying49 Tryz.sizeOf3 rfl rfl rfl (by omega)) (V.ops1 rfl (fun w hI => R.load Tryz.isAgg3 rfl (by rw [show 0 + (k : Int).toNat * 1 = 0 + k by omega]; exact (show Blk w b38 (es.map (.int .i64)) _ from by rw [hes]; exact hI.at 38 rfl).cells k _ (by rw [List.getElem?_map, hx]; rfl))) ?_))
  refine Vs 7 rfl (V.bld [Value.int IntKind.i64 0, Value.int IntKind.i64 0] [(0, 1), (1, 1)] [(0, _), (1, _)] rfl rfl (fun _ => by kernel_rfl) (V.call1 Tryz.call144 rfl (fun w hI => hull_ok (hullL (a.1 * b.1, a.1 * b.1) ((es.map (fun x => (x, x))).take k)) (x, x) w) (Va 8 rfl (by omega) (V.heq 8 rfl (e' := .own b8 [.int .i64 (hullL (a.1 * b.1, a.1 * b.1) ((es.map (fun x => (x, x))).take (k + 1))).1, .int .i64 (hullL (a.1 * b.1, a.1 * b.1) ((es.map (fun x => (x, x))).take (k + 1))).2] 174) (by rw [hullL_take (show (es.map (fun x => (x, x)))[k]? = some (x, x) by rw [List.getElem?_map, hx]; rfl)]) ?_))))
  refine V.back (k + 1) (Sub.of rfl) (Has.of rfl) (by omega) (by first | omega | (dsimp only; omega)) 0 rfl rfl
 obtain rfl : k = 3 := by omega
 refine Vs 12 rfl (V.retC Tryz.results142 Tryz.isAgg174 Tryz.sizeOf174 rfl rfl rfl (fun w hI => ⟨_, rfl, by rw [hes]; rfl, hI.k0⟩))
def at2 (l : List Rg) (i : Nat) : Rg := l[i]?.getD (0, 0)
theorem at2_eq {l : List Rg} {i : Nat} {x : Rg} (h : l[i]? = some x) : at2 l i = x := by simp [at2, h]
def vat (vs : List Vr) (n : Int) : Rg := match vs[n.toNat]? with
 | some v => (v.low, v.high)
 | none => (0, 0)
theorem vat_eq {vs : List Vr} {n : Int} {v : Vr} (h : vs[n.toNat]? = some v) : vat vs n = (v.low, v.high) := by simp [vat, h]
def spanOf (vs : List Vr) (op n : Int) (l : List Rg) : Rg :=
 if op = 0 then (n, n)
 else if op = 24 then vat vs n
 else if op = 6 then (-(at2 l 0).2, -(at2 l 0).1)
 else if op = 8 then ((at2 l 0).1 + (at2 l 1).1, (at2 l 0).2 + (at2 l 1).2)
 else if op = 9 then ((at2 l 0).1 - (at2 l 1).2, (at2 l 0).2 - (at2 l 1).1)
 else if op = 10 then cornersI (at2 l 0) (at2 l 1)
 else if op = 11 then (if 0 ≤ (at2 l 0).1 ∧ 0 ≤ (at2 l 1).1 then 0 else -(max (at2 l 0).2 (-(at2 l 0).1)), max (at2 l 0).2 (-(at2 l 0).1))
 else if op = 12 then (if (at2 l 1).1 < 0 then min ((at2 l 1).1 + 1) 0 else 0, if 0 < (at2 l 1).2 then max ((at2 l 1).2 - 1) 0 else 0)
 else if op = 21 then (min (at2 l 0).1 (at2 l 1).1, min (at2 l 0).2 (at2 l 1).2)
 else if op = 22 then (max (at2 l 0).1 (at2 l 1).1, max (at2 l 0).2 (at2 l 1).2)
 else if op = 23 ∨ op = 25 then hullL (at2 l 1) (l.drop 2)
 else (0, 1)
structure NodeOk (vs : List Vr) (op n : Int) (l : List Rg) : Prop where
 k0 : op = 0 ∨ op = 24 → l.length = 0
 k1 : op = 6 ∨ op = 7 → l.length = 1
 k2 : 8 ≤ op ∧ op ≤ 22 → l.length = 2
 k3 : op = 23 ∨ op = 25 → 2 ≤ l.length ∧ l.length ≤ 33
 good : ∀ r ∈ l, Good r
 var : op = 24 → 0 ≤ n ∧ n < vs.length
 vars : ∀ v ∈ vs, Good (v.low, v.high)
theorem nodeOk_of {vs : List Vr} {inp : Bool} {op n : Int} {l : List Rg} {k : Nat} (hl : l.length = k) (h1 : kidsFit op k = true) (h2 : refFit vs inp op n = true) (hg : ∀ r ∈ l, Good r) (hv : ∀ v ∈ vs, Good (v.low, v.high)) : NodeOk vs op n l := by
 have h3 : (0 ≤ kidsN op → (l.length : Int) = kidsN op) ∧ (¬ 0 ≤ kidsN op → 2 ≤ l.length ∧ l.length ≤ 33) := by
  unfold kidsFit at h1
  rw [hl]
  constructor
  · intro h; rw [if_pos h] at h1; exact of_decide_eq_true h1
  intro h; rw [if_neg h] at h1; exact (of_decide_eq_true h1).2
 unfold kidsN at h3
 refine ⟨fun h => ?_, fun h => ?_, fun h => ?_, fun h => ?_, hg, fun h => ?_, hv⟩
 · rw [if_pos h] at h3; have := h3.1 (by omega); omega
 · rw [if_neg (by omega), if_pos h] at h3; have := h3.1 (by omega); omega
 · rw [if_neg (by omega), if_neg (by omega), if_pos h] at h3; have := h3.1 (by omega); omega
 ·
  rcases h with h | h
  · rw [if_neg (by omega), if_neg (by omega), if_neg (by omega), if_pos h] at h3; have := h3.1 (by omega); omega
  rw [if_neg (by omega), if_neg (by omega), if_neg (by omega), if_neg (by omega), if_pos h] at h3; exact h3.2 (by omega)
 unfold refFit at h2
 rw [if_pos h, Bool.and_eq_true] at h2
 exact of_decide_eq_true h2.1
theorem rule_ok (vs : List Vr) (t : Tm) (ks : List Rg) (vv kv : Value) (cs : List Value) (Dv D Dk : Nat → Prop) (w : World) (hvs : SlR 5 RVr Dv w vv vs) (ht : RTm D w t cs) (hks : SlR 2 RPair Dk w kv ks) (hn : NodeOk vs t.op t.n ks) : Calls Tryz.prog 137 #[vv, .agg cs.toArray, kv] w (Ret fun r w' => r = .agg #[.int .i64 (spanOf vs t.op t.n ks).1, .int .i64 (spanOf vs t.op t.n ks).2] ∧ Ext w w') := by
 obtain ⟨v, rfl, hk⟩ := ht.get
 obtain ⟨av, nv, rfl⟩ := hvs.form
 obtain ⟨ak, nk, rfl⟩ := hks.form
 have hmx := hks.max
 have hg := hn.good
 unfold Good at hg
 refine G.in3 Tryz.func137 rfl Tryz.ntmps137 rfl (V.inn (Vs 2 rfl (V.box 4 rfl rfl (fun b4 => ?_))))
 refine V.alloc 6 Tryz.zeroValue174 rfl rfl (fun b6 => (Vs 16 rfl (V.ite rfl (fun h0 => ?_) (fun h0 => ?_))))
 · refine Vs 6 rfl (V.bld [Value.int IntKind.i64 0, Value.int IntKind.i64 0] [(0, 1), (1, 1)] [(0, _), (1, _)] rfl rfl (fun _ => by kernel_rfl) (Vs 6 rfl (V.retC Tryz.results137 Tryz.isAgg174 Tryz.sizeOf174 rfl rfl rfl (fun w hI => ⟨_, rfl, by simp [spanOf, h0], hI.k0⟩))))
 refine Vs 6 rfl (V.ite rfl (fun h24 => ?_) (fun h24 => ?_))
 ·
  have hv := hn.var h24
  refine V.elG 1000 0 t.n.toNat (by omega) hvs rfl rfl rfl (fun x b_x o_x c_x he_x hm_x ha_x hR_x => ?_)
  obtain rfl := hR_x
  refine Vs 1 rfl (Vw [4, 6, 1000] [13] rfl (Vd [0, 1, 2, 6, 7, 8] 0 (by kernel_rfl) rfl rfl rfl (VD.ix 3 1000 Tryz.runUnderlying22 Tryz.sizeOf96 rfl (by kernel_rfl) rfl ha_x (by omega) (t.n.toNat) (by omega) rfl (Vd [4, 5] 0 (by kernel_rfl) rfl rfl rfl (VD.ix 9 1000 Tryz.runUnderlying22 Tryz.sizeOf96 rfl (by kernel_rfl) rfl ha_x (by omega) (t.n.toNat) (by omega) rfl (Vd [10, 11] 0 (by kernel_rfl) rfl rfl rfl (VD.bld 12 [Value.int IntKind.i64 0, Value.int IntKind.i64 0] [(0, 1), (1, 1)] [(0, _), (1, _)] rfl (by kernel_rfl) rfl rfl (fun _ => by kernel_rfl) (Vl 13 rfl (by kernel_rfl) rfl ?_))))))))
  refine VDx.done (by kernel_rfl) (Vs 4 rfl (V.retC Tryz.results137 Tryz.isAgg174 Tryz.sizeOf174 rfl rfl rfl (fun w hI => ⟨_, rfl, by simp [spanOf, h24, vat_eq he_x], hI.k0⟩)))
 refine Vs 6 rfl (V.ite rfl (fun h6 => ?_) (fun h6 => ?_))
 ·
  have hl := hn.k1 (.inl h6)
  refine V.elG 2000 0 0 (by omega) hks rfl rfl rfl (fun x b_x o_x c_x he_x hm_x ha_x hR_x => ?_)
  obtain rfl := hR_x
  have := hg x hm_x
  refine Vs 1 rfl (Vw [4, 6, 2000] [11] rfl (Vd [0, 5] 0 (by kernel_rfl) rfl rfl rfl ?_))
  refine VD.ix 1 2000 Tryz.runUnderlying190 Tryz.sizeOf174 rfl (by kernel_rfl) rfl ha_x (by omega) (_) (rfl) rfl (Vb [2, 3, 4] 0 (by kernel_rfl) rfl rfl rfl (by omega) ?_)
  refine VD.ix 6 2000 Tryz.runUnderlying190 Tryz.sizeOf174 rfl (by kernel_rfl) rfl ha_x (by omega) (_) (rfl) rfl (Vb [7, 8, 9] 0 (by kernel_rfl) rfl rfl rfl (by omega) (VD.bld 10 [Value.int IntKind.i64 0, Value.int IntKind.i64 0] [(0, 1), (1, 1)] [(0, _), (1, _)] rfl (by kernel_rfl) rfl rfl (fun _ => by kernel_rfl) (Vl 11 rfl (by kernel_rfl) rfl (VDx.done (by kernel_rfl) (Vs 4 rfl (V.retC Tryz.results137 Tryz.isAgg174 Tryz.sizeOf174 rfl rfl rfl (fun w hI => ⟨_, rfl, by simp [spanOf, at2, h6, he_x], hI.k0⟩)))))))
 refine Vs 6 rfl (V.ite rfl (fun h8 => ?_) (fun h8 => ?_))
 ·
  have hl := hn.k2 (by omega)
  refine V.elG 3000 0 0 (by omega) hks rfl rfl rfl (fun x b_x o_x c_x he_x hm_x ha_x hR_x => ?_)
  obtain rfl := hR_x
  refine V.elG 4000 0 1 (by omega) hks rfl rfl rfl (fun y b_y o_y c_y he_y hm_y ha_y hR_y => ?_)
  obtain rfl := hR_y
  have := hg x hm_x
  have := hg y hm_y
  refine Vs 1 rfl (Vw [4, 6, 3000, 4000] [19] rfl (Vd [0, 4, 9, 13] 0 (by kernel_rfl) rfl rfl rfl ?_))
  refine VD.ix 1 3000 Tryz.runUnderlying190 Tryz.sizeOf174 rfl (by kernel_rfl) rfl ha_x (by omega) (_) (rfl) rfl (Vd [2, 3] 0 (by kernel_rfl) rfl rfl rfl ?_)
  refine VD.ix 10 3000 Tryz.runUnderlying190 Tryz.sizeOf174 rfl (by kernel_rfl) rfl ha_x (by omega) (_) (rfl) rfl (Vd [11, 12] 0 (by kernel_rfl) rfl rfl rfl ?_)
  refine VD.ix 5 4000 Tryz.runUnderlying190 Tryz.sizeOf174 rfl (by kernel_rfl) rfl ha_y (by omega) (_) (rfl) rfl (Vb [6, 7, 8] 0 (by kernel_rfl) rfl rfl rfl (by omega) ?_)
  refine VD.ix 14 4000 Tryz.runUnderlying190 Tryz.sizeOf174 rfl (by kernel_rfl) rfl ha_y (by omega) (_) (rfl) rfl (Vb [15, 16, 17] 0 (by kernel_rfl) rfl rfl rfl (by omega) (VD.bld 18 [Value.int IntKind.i64 0, Value.int IntKind.i64 0] [(0, 1), (1, 1)] [(0, _), (1, _)] rfl (by kernel_rfl) rfl rfl (fun _ => by kernel_rfl) (Vl 19 rfl (by kernel_rfl) rfl (VDx.done (by kernel_rfl) (Vs 4 rfl (V.retC Tryz.results137 Tryz.isAgg174 Tryz.sizeOf174 rfl rfl rfl (fun w hI => ⟨_, rfl, by simp [spanOf, at2, h8, he_x, he_y], hI.k0⟩)))))))
 refine Vs 6 rfl (V.ite rfl (fun h9 => ?_) (fun h9 => ?_))
 ·
  have hl := hn.k2 (by omega)
  refine V.elG 5000 0 0 (by omega) hks rfl rfl rfl (fun x b_x o_x c_x he_x hm_x ha_x hR_x => ?_)
  obtain rfl := hR_x
  refine V.elG 6000 0 1 (by omega) hks rfl rfl rfl (fun y b_y o_y c_y he_y hm_y ha_y hR_y => ?_)
  obtain rfl := hR_y
  have := hg x hm_x
  have := hg y hm_y
  refine Vs 1 rfl (Vw [4, 6, 5000, 6000] [19] rfl (Vd [0, 4, 9, 13] 0 (by kernel_rfl) rfl rfl rfl ?_))
  refine VD.ix 1 5000 Tryz.runUnderlying190 Tryz.sizeOf174 rfl (by kernel_rfl) rfl ha_x (by omega) (_) (rfl) rfl (Vd [2, 3] 0 (by kernel_rfl) rfl rfl rfl ?_)
  refine VD.ix 10 5000 Tryz.runUnderlying190 Tryz.sizeOf174 rfl (by kernel_rfl) rfl ha_x (by omega) (_) (rfl) rfl (Vd [11, 12] 0 (by kernel_rfl) rfl rfl rfl ?_)
  refine VD.ix 5 6000 Tryz.runUnderlying190 Tryz.sizeOf174 rfl (by kernel_rfl) rfl ha_y (by omega) (_) (rfl) rfl (Vb [6, 7, 8] 0 (by kernel_rfl) rfl rfl rfl (by omega) ?_)
  refine VD.ix 14 6000 Tryz.runUnderlying190 Tryz.sizeOf174 rfl (by kernel_rfl) rfl ha_y (by omega) (_) (rfl) rfl (Vb [15, 16, 17] 0 (by kernel_rfl) rfl rfl rfl (by omega) (VD.bld 18 [Value.int IntKind.i64 0, Value.int IntKind.i64 0] [(0, 1), (1, 1)] [(0, _), (1, _)] rfl (by kernel_rfl) rfl rfl (fun _ => by kernel_rfl) (Vl 19 rfl (by kernel_rfl) rfl (VDx.done (by kernel_rfl) (Vs 4 rfl (V.retC Tryz.results137 Tryz.isAgg174 Tryz.sizeOf174 rfl rfl rfl (fun w hI => ⟨_, rfl, by simp [spanOf, at2, h9, he_x, he_y], hI.k0⟩)))))))
 refine Vs 6 rfl (V.ite rfl (fun h10 => ?_) (fun h10 => ?_))
 ·
  have hl := hn.k2 (by omega)
  refine V.elG 7000 0 0 (by omega) hks rfl rfl rfl (fun x b_x o_x c_x he_x hm_x ha_x hR_x => ?_)
  obtain rfl := hR_x
  refine V.elG 8000 0 1 (by omega) hks rfl rfl rfl (fun y b_y o_y c_y he_y hm_y ha_y hR_y => ?_)
  obtain rfl := hR_y
  refine Vs 1 rfl (Vw [4, 6, 7000, 8000] [7] rfl (Vd [0, 3] 0 (by kernel_rfl) rfl rfl rfl ?_))
  refine VD.ix 1 7000 Tryz.runUnderlying190 Tryz.sizeOf174 rfl (by kernel_rfl) rfl ha_x (by omega) (_) (rfl) rfl (Vd [2] 0 (by kernel_rfl) rfl rfl rfl ?_)
  refine VD.ix 4 8000 Tryz.runUnderlying190 Tryz.sizeOf174 rfl (by kernel_rfl) rfl ha_y (by omega) (_) (rfl) rfl (Vd [5] 0 (by kernel_rfl) rfl rfl rfl (VD.call1 6 0 Tryz.call142 rfl (by kernel_rfl) rfl rfl (fun w hI => corners_ok x y w (hn.good x hm_x) (hn.good y hm_y)) (Vl 7 rfl (by kernel_rfl) rfl (VDx.done (by kernel_rfl) (Vs 4 rfl (V.retC Tryz.results137 Tryz.isAgg174 Tryz.sizeOf174 rfl rfl rfl (fun w hI => ⟨_, rfl, by simp [spanOf, at2, h10, he_x, he_y], hI.k0⟩)))))))
 refine Vs 6 rfl (V.ite rfl (fun h11 => ?_) (fun h11 => ?_))
 ·
  have hl := hn.k2 (by omega)
  refine V.elG 9000 0 0 (by omega) hks rfl rfl rfl (fun x b_x o_x c_x he_x hm_x ha_x hR_x => ?_)
  obtain rfl := hR_x
  refine V.elG 10000 0 1 (by omega) hks rfl rfl rfl (fun y b_y o_y c_y he_y hm_y ha_y hR_y => ?_)
  obtain rfl := hR_y
  have := hg x hm_x
  have := hg y hm_y
  refine Vs 1 rfl (Vq (by kernel_rfl) (Vs 1 rfl ?_))
  refine V.ixQ 9000 Tryz.runUnderlying190 Tryz.sizeOf174 rfl ha_x (by omega) (_) (rfl) rfl (Vs 3 rfl ?_)
  refine V.ixQ 9000 Tryz.runUnderlying190 Tryz.sizeOf174 rfl ha_x (by omega) (_) (rfl) rfl (Va 11 rfl (by omega) ?_)
  refine V.ix 9000 Tryz.runUnderlying190 Tryz.sizeOf174 rfl ha_x (by omega) (_) (rfl) rfl (Vs 4 rfl (V.sp 117 rfl (fun p0 => ?_) (fun p0 => ?_)))
  ·
   refine Vs 1 rfl ?_
   refine V.ix 10000 Tryz.runUnderlying190 Tryz.sizeOf174 rfl ha_y (by omega) (_) (rfl) rfl (Vs 6 rfl (V.ite rfl (fun p1 => ?_) (fun p1 => ?_)))
   · refine Vs 3 rfl (V.bld [Value.int IntKind.i64 0, Value.int IntKind.i64 0] [(0, 1), (1, 1)] [(0, _), (1, _)] rfl rfl (fun _ => by kernel_rfl) (Vs 7 rfl (V.retC Tryz.results137 Tryz.isAgg174 Tryz.sizeOf174 rfl rfl rfl (fun w hI => ⟨_, rfl, by simp [spanOf, at2, h11, he_x, he_y, p0, p1], hI.k0⟩))))
   refine Va 7 rfl (by omega) (V.bld [Value.int IntKind.i64 0, Value.int IntKind.i64 0] [(0, 1), (1, 1)] [(0, _), (1, _)] rfl rfl (fun _ => by kernel_rfl) (Vs 6 rfl (V.retC Tryz.results137 Tryz.isAgg174 Tryz.sizeOf174 rfl rfl rfl (fun w hI => ⟨_, rfl, by simp [spanOf, at2, h11, he_x, he_y, p0, p1], hI.k0⟩))))
  refine Va 16 rfl (by omega) (V.bld [Value.int IntKind.i64 0, Value.int IntKind.i64 0] [(0, 1), (1, 1)] [(0, _), (1, _)] rfl rfl (fun _ => by kernel_rfl) (Vs 6 rfl (V.retC Tryz.results137 Tryz.isAgg174 Tryz.sizeOf174 rfl rfl rfl (fun w hI => ⟨_, rfl, by simp [spanOf, at2, h11, he_x, he_y, p0], hI.k0⟩))))
 refine Vs 6 rfl (V.ite rfl (fun h12 => ?_) (fun h12 => ?_))
 ·
  have hl := hn.k2 (by omega)
  refine V.elG 11000 0 1 (by omega) hks rfl rfl rfl (fun y b_y o_y c_y he_y hm_y ha_y hR_y => ?_)
  obtain rfl := hR_y
  have := hg y hm_y
  refine Vs 2 rfl (V.bld [Value.int IntKind.i64 0, Value.int IntKind.i64 0] [(0, 1), (1, 1)] [] rfl rfl (fun _ => by kernel_rfl) (V.alloc 8 Tryz.zeroValue174 rfl rfl (fun b8 => ?_)))
  refine Vs 7 rfl ?_
  refine V.ix 11000 Tryz.runUnderlying190 Tryz.sizeOf174 rfl ha_y (by omega) (_) (rfl) rfl (Vs 5 rfl (V.ite rfl (fun p0 => ?_) (fun p0 => ?_)))
  ·
   refine Vs 2 rfl ?_
   refine V.ix 11000 Tryz.runUnderlying190 Tryz.sizeOf174 rfl ha_y (by omega) (_) (rfl) rfl (Va 12 rfl (by omega) ?_)
   refine V.ix 11000 Tryz.runUnderlying190 Tryz.sizeOf174 rfl ha_y (by omega) (_) (rfl) rfl (Vs 5 rfl (V.ite rfl (fun p1 => ?_) (fun p1 => ?_)))
   ·
    refine Vs 2 rfl ?_
    refine V.ix 11000 Tryz.runUnderlying190 Tryz.sizeOf174 rfl ha_y (by omega) (_) (rfl) rfl (Va 17 rfl (by omega) (V.retC Tryz.results137 Tryz.isAgg174 Tryz.sizeOf174 rfl rfl rfl (fun w hI => ⟨_, rfl, by simp [spanOf, at2, h12, he_y, p0, p1], hI.k0⟩)))
   refine Vs 11 rfl (V.retC Tryz.results137 Tryz.isAgg174 Tryz.sizeOf174 rfl rfl rfl (fun w hI => ⟨_, rfl, by simp [spanOf, at2, h12, he_y, p0, p1], hI.k0⟩))
  refine Vs 6 rfl ?_
  refine V.ix 11000 Tryz.runUnderlying190 Tryz.sizeOf174 rfl ha_y (by omega) (_) (rfl) rfl (Vs 5 rfl (V.ite rfl (fun p1 => ?_) (fun p1 => ?_)))
  ·
   refine Vs 2 rfl ?_
   refine V.ix 11000 Tryz.runUnderlying190 Tryz.sizeOf174 rfl ha_y (by omega) (_) (rfl) rfl (Va 17 rfl (by omega) (V.retC Tryz.results137 Tryz.isAgg174 Tryz.sizeOf174 rfl rfl rfl (fun w hI => ⟨_, rfl, by simp [spanOf, at2, h12, he_y, p0, p1], hI.k0⟩)))
  refine Vs 11 rfl (V.retC Tryz.results137 Tryz.isAgg174 Tryz.sizeOf174 rfl rfl rfl (fun w hI => ⟨_, rfl, by simp [spanOf, at2, h12, he_y, p0, p1], hI.k0⟩))
 refine Vs 6 rfl (V.ite rfl (fun h21 => ?_) (fun h21 => ?_))
 ·
  have hl := hn.k2 (by omega)
  refine V.elG 12000 0 0 (by omega) hks rfl rfl rfl (fun x b_x o_x c_x he_x hm_x ha_x hR_x => ?_)
  obtain rfl := hR_x
  refine V.elG 13000 0 1 (by omega) hks rfl rfl rfl (fun y b_y o_y c_y he_y hm_y ha_y hR_y => ?_)
  obtain rfl := hR_y
  have := hg x hm_x
  have := hg y hm_y
  refine Vs 1 rfl (Vw [4, 6, 12000, 13000] [19] rfl (Vd [0, 4, 9, 13] 0 (by kernel_rfl) rfl rfl rfl ?_))
  refine VD.ix 1 12000 Tryz.runUnderlying190 Tryz.sizeOf174 rfl (by kernel_rfl) rfl ha_x (by omega) (_) (rfl) rfl (Vd [2, 3] 0 (by kernel_rfl) rfl rfl rfl ?_)
  refine VD.ix 10 12000 Tryz.runUnderlying190 Tryz.sizeOf174 rfl (by kernel_rfl) rfl ha_x (by omega) (_) (rfl) rfl (Vd [11, 12] 0 (by kernel_rfl) rfl rfl rfl ?_)
  refine VD.ix 5 13000 Tryz.runUnderlying190 Tryz.sizeOf174 rfl (by kernel_rfl) rfl ha_y (by omega) (_) (rfl) rfl (Vd [6, 7, 8] 0 (by kernel_rfl) rfl rfl rfl ?_)
  refine VD.ix 14 13000 Tryz.runUnderlying190 Tryz.sizeOf174 rfl (by kernel_rfl) rfl ha_y (by omega) (_) (rfl) rfl (Vd [15, 16, 17] 0 (by kernel_rfl) rfl rfl rfl (VD.bld 18 [Value.int IntKind.i64 0, Value.int IntKind.i64 0] [(0, 1), (1, 1)] [(0, _), (1, _)] rfl (by kernel_rfl) rfl rfl (fun _ => by kernel_rfl) (Vl 19 rfl (by kernel_rfl) rfl (VDx.done (by kernel_rfl) (Vs 4 rfl (V.retC Tryz.results137 Tryz.isAgg174 Tryz.sizeOf174 rfl rfl rfl (fun w hI => ⟨_, rfl, by simp [spanOf, at2, h21, he_x, he_y], hI.k0⟩)))))))
 refine Vs 6 rfl (V.ite rfl (fun h22 => ?_) (fun h22 => ?_))
 ·
  have hl := hn.k2 (by omega)
  refine V.elG 14000 0 0 (by omega) hks rfl rfl rfl (fun x b_x o_x c_x he_x hm_x ha_x hR_x => ?_)
  obtain rfl := hR_x
  refine V.elG 15000 0 1 (by omega) hks rfl rfl rfl (fun y b_y o_y c_y he_y hm_y ha_y hR_y => ?_)
  obtain rfl := hR_y
  have := hg x hm_x
  have := hg y hm_y
  refine Vs 1 rfl (Vw [4, 6, 14000, 15000] [19] rfl (Vd [0, 4, 9, 13] 0 (by kernel_rfl) rfl rfl rfl ?_))
  refine VD.ix 1 14000 Tryz.runUnderlying190 Tryz.sizeOf174 rfl (by kernel_rfl) rfl ha_x (by omega) (_) (rfl) rfl (Vd [2, 3] 0 (by kernel_rfl) rfl rfl rfl ?_)
  refine VD.ix 10 14000 Tryz.runUnderlying190 Tryz.sizeOf174 rfl (by kernel_rfl) rfl ha_x (by omega) (_) (rfl) rfl (Vd [11, 12] 0 (by kernel_rfl) rfl rfl rfl ?_)
  refine VD.ix 5 15000 Tryz.runUnderlying190 Tryz.sizeOf174 rfl (by kernel_rfl) rfl ha_y (by omega) (_) (rfl) rfl (Vd [6, 7, 8] 0 (by kernel_rfl) rfl rfl rfl ?_)
  refine VD.ix 14 15000 Tryz.runUnderlying190 Tryz.sizeOf174 rfl (by kernel_rfl) rfl ha_y (by omega) (_) (rfl) rfl (Vd [15, 16, 17] 0 (by kernel_rfl) rfl rfl rfl (VD.bld 18 [Value.int IntKind.i64 0, Value.int IntKind.i64 0] [(0, 1), (1, 1)] [(0, _), (1, _)] rfl (by kernel_rfl) rfl rfl (fun _ => by kernel_rfl) (Vl 19 rfl (by kernel_rfl) rfl (VDx.done (by kernel_rfl) (Vs 4 rfl (V.retC Tryz.results137 Tryz.isAgg174 Tryz.sizeOf174 rfl rfl rfl (fun w hI => ⟨_, rfl, by simp [spanOf, at2, h22, he_x, he_y], hI.k0⟩)))))))
 refine Vs 7 rfl (V.cutK (σ := Unit) [2, 6] [6] [6] rfl (fun e u => (200, .bool (decide (t.op = 23 ∨ t.op = 25))) :: e) (fun e u => e) (fun u => True) (fun _ => rfl) (fun _ => rfl) ?_ ?_)
 ·
  refine V.ite rfl (fun k1_ => ?_) (fun k1_ => ?_)
  · refine Vs 1 rfl (V.meet (()) (Sub.cons (by first | exact boolT (by omega) | exact boolF (by omega) | exact boolD (by omega)) (Sub.of rfl)) (Has.of rfl) (trivial) 0 rfl rfl)
  refine Vs 4 rfl (V.meet (()) (Sub.cons (by first | exact boolT (by omega) | exact boolF (by omega) | exact boolD (by omega)) (Sub.of rfl)) (Has.of rfl) (trivial) 0 rfl rfl)
 rintro u _
 refine Vs 1 rfl (V.ite rfl (fun p1 => ?_) (fun p1 => ?_))
 ·
  have hl := hn.k3 p1
  refine V.elG 16000 0 1 (by omega) hks rfl rfl rfl (fun y b_y o_y c_y he_y hm_y ha_y hR_y => ?_)
  obtain rfl := hR_y
  refine Vs 3 rfl ?_
  refine V.ix 16000 Tryz.runUnderlying190 Tryz.sizeOf174 rfl ha_y (by omega) (_) (rfl) rfl ?_
  have hdr := hks.drop 2 (by omega)
  have hdl : (ks.drop 2).length = ks.length - 2 := List.length_drop
  refine Vs 1 rfl (V.alloc 9 Tryz.zeroValue174 rfl rfl (fun b9 => ?_))
  refine Vs 7 rfl (V.ops1 rfl (fun w hI => R.sliceLo Tryz.runUnderlying190 Tryz.sizeOf174 rfl rfl (by omega)) (Vs 5 rfl (V.loopK (σ := Nat) [6, 9, 207, 208] [6] [6, 9] rfl (fun e k => (209, .int .i64 k) :: e) (fun e k => (9, .own b9 [.int .i64 (hullL y ((ks.drop 2).take k)).1, .int .i64 (hullL y ((ks.drop 2).take k)).2] 174) :: e) (fun k => k ≤ ks.length - 2) (fun k => ks.length - 2 - k) (0) (Sub.of rfl) (Has.of rfl) (fun _ => rfl) (fun _ => rfl) (fun _ => rfl) (Nat.zero_le _) ?_)))
  rintro k hk
  refine Vs 6 rfl (V.ite rfl (fun hlt => ?_) (fun hlt => ?_))
  ·
   refine Vs 6 rfl (V.elG 17000 0 k (by omega) hdr rfl rfl rfl (fun z b_z o_z c_z he_z hm_z ha_z hR_z => ?_))
   obtain rfl := hR_z
   refine V.ix 17000 Tryz.runUnderlying190 Tryz.sizeOf174 rfl ha_z (by omega) (_) (rfl) rfl (Vs 1 rfl (V.alloc 11 Tryz.zeroValue174 rfl rfl (fun b11 => ?_)))
   refine Vs 6 rfl (V.call1 Tryz.call144 rfl (fun w hI => hull_ok (hullL y ((ks.drop 2).take k)) z w) (Va 8 rfl (by omega) (V.heq 9 rfl (e' := .own b9 [.int .i64 (hullL y ((ks.drop 2).take (k + 1))).1, .int .i64 (hullL y ((ks.drop 2).take (k + 1))).2] 174) (by rw [hullL_take he_z]) (V.back (k + 1) (Sub.of rfl) (Has.of rfl) (by omega) (by first | omega | (dsimp only; omega)) 0 rfl rfl))))
  obtain rfl : k = ks.length - 2 := by omega
  refine Vs 14 rfl (V.retC Tryz.results137 Tryz.isAgg174 Tryz.sizeOf174 rfl rfl rfl (fun w hI => ⟨_, rfl, by rw [← hdl, List.take_length]; simp [at2_eq he_y, spanOf, h0, h24, h6, h8, h9, h10, h11, h12, h21, h22, p1], hI.k0⟩))
 refine Vs 5 rfl (V.bld [Value.int IntKind.i64 0, Value.int IntKind.i64 0] [(0, 1), (1, 1)] [(0, _), (1, _)] rfl rfl (fun _ => by kernel_rfl) (Vs 4 rfl (V.retC Tryz.results137 Tryz.isAgg174 Tryz.sizeOf174 rfl rfl rfl (fun w hI => ⟨_, rfl, by simp [spanOf, h0, h24, h6, h8, h9, h10, h11, h12, h21, h22, p1], hI.k0⟩))))
end Go.Proofs.YtgojdedggmehiaaGreat
namespace Go.GL.Gr
def okE (n : Int) (e : Int × Int) : Bool := decide (0 ≤ e.1 ∧ e.1 < n) && decide (0 ≤ e.2 ∧ e.2 < n)
def check (n : Int) (es : List (Int × Int)) : Int := if n < 0 then 1 else if 4096 < n ∨ 1048576 < es.length then 4 else if es.all (okE n) then 0 else 3
theorem all_take_succ {α : Type} {p : α → Bool} {l : List α} {k : Nat} {x : α} (hx : l[k]? = some x) (h : (l.take k).all p = true) (hp : p x = true) : (l.take (k + 1)).all p = true := by
 obtain ⟨hk, rfl⟩ := List.getElem?_eq_some_iff.1 hx
 rw [List.take_succ_eq_append_getElem hk, List.all_append, h]
 simp [hp]
theorem all_false {α : Type} {p : α → Bool} {l : List α} {k : Nat} {x : α} (hx : l[k]? = some x) (hp : p x = false) : l.all p = false := by
 rw [List.all_eq_false]
 exact ⟨x, List.mem_of_getElem? hx, by simp [hp]⟩
theorem check_zero {n : Int} {es : List (Int × Int)} (h : check n es = 0) : 0 ≤ n ∧ n ≤ 4096 ∧ es.length ≤ 1048576 ∧ es.all (okE n) = true := by
 unfold check at h
 split at h
 · cases h
 split at h
 · cases h
 split at h
 ·
  rename_i h1 h2 h3
  exact ⟨by omega, by omega, by omega, h3⟩
 cases h
section
variable {α : Type} [DecidableEq α]
def cstep (acc : List α) (x : α) : List α := if acc.getLast? = some x then acc else acc ++ [x]
def compactL (l : List α) : List α := l.foldl cstep []
theorem getLast_cstep (acc : List α) (x : α) : (cstep acc x).getLast? = some x := by
 unfold cstep
 split
 · assumption
 simp
theorem compactL_snoc (l : List α) (x : α) : compactL (l ++ [x]) = cstep (compactL l) x := by simp [compactL]
theorem compactL_take {l : List α} {k : Nat} {x : α} (hx : l[k]? = some x) : compactL (l.take (k + 1)) = cstep (compactL (l.take k)) x := by
 obtain ⟨hk, rfl⟩ := List.getElem?_eq_some_iff.1 hx
 rw [List.take_succ_eq_append_getElem hk, compactL_snoc]
theorem compactL_last {l : List α} {k : Nat} {x : α} (hx : l[k]? = some x) : (compactL (l.take (k + 1))).getLast? = some x := by
 rw [compactL_take hx, getLast_cstep]
theorem compactL_len (l : List α) : (compactL l).length ≤ l.length := by
 have : ∀ (l acc : List α), (l.foldl cstep acc).length ≤ acc.length + l.length := by
  intro l
  induction l with
  | nil => intro acc; simp
  | cons x r ih =>
   intro acc
   have h1 := ih (cstep acc x)
   have h2 : (cstep acc x).length ≤ acc.length + 1 := by unfold cstep; split <;> simp
   simp only [List.foldl_cons, List.length_cons]
   omega
 simpa [compactL] using this l []
theorem compactL_mem (l : List α) (x : α) : x ∈ compactL l ↔ x ∈ l := by
 have : ∀ (l acc : List α), x ∈ l.foldl cstep acc ↔ x ∈ acc ∨ x ∈ l := by
  intro l
  induction l with
  | nil => intro acc; simp
  | cons y r ih =>
   intro acc
   rw [List.foldl_cons, ih]
   have h2 : x ∈ cstep acc y ↔ x ∈ acc ∨ x = y := by
    unfold cstep
    split
    ·
     rename_i h
     constructor
     · exact .inl
     rintro (h' | rfl)
     · exact h'
     exact List.mem_of_getLast? h
    simp
   rw [h2]
   simp [or_assoc]
 simpa [compactL] using this l []
theorem compactL_strict {le : α → α → Prop} (hanti : ∀ a b, le a b → le b a → a = b) {l : List α} (h : l.Pairwise le) : (compactL l).Pairwise (fun a b => le a b ∧ a ≠ b) := by
 have : ∀ (l acc : List α), acc.Pairwise (fun a b => le a b ∧ a ≠ b) → (∀ a ∈ acc, ∀ b ∈ l, le a b) → l.Pairwise le → (l.foldl cstep acc).Pairwise (fun a b => le a b ∧ a ≠ b) := by
  intro l
  induction l with
  | nil => intro acc h1 _ _; exact h1
  | cons x r ih =>
   intro acc h1 h2 h3
   rw [List.pairwise_cons] at h3
   rw [List.foldl_cons]
   refine ih _ ?_ ?_ h3.2
   ·
    unfold cstep
    split
    · exact h1
    rename_i hne
    rw [List.pairwise_append]
    refine ⟨h1, List.pairwise_singleton _ _, ?_⟩
    intro a ha b hb
    rw [List.mem_singleton] at hb
    subst hb
    refine ⟨h2 a ha _ (List.mem_cons_self ..), ?_⟩
    rintro rfl
    apply hne
    obtain ⟨z, hz⟩ : ∃ z, acc.getLast? = some z := by
     cases hacc : acc.getLast? with
     | none => rw [List.getLast?_eq_none_iff] at hacc; subst hacc; simp at ha
     | some z => exact ⟨z, rfl⟩
    rw [hz]
    have hzm := List.mem_of_getLast? hz
    have hza := h2 z hzm a (List.mem_cons_self ..)
    by_cases e : a = z
    · rw [e]
    obtain ⟨ini, rfl⟩ : ∃ ini, acc = ini ++ [z] := by
     rw [List.getLast?_eq_some_iff] at hz; obtain ⟨ys, h⟩ := hz; exact ⟨ys, h⟩
    rw [List.mem_append, List.mem_singleton] at ha
    rcases ha with ha | ha
    ·
     rw [List.pairwise_append] at h1
     have := (h1.2.2 a ha z (by simp)).1
     rw [hanti a z this hza]
    exact absurd ha e
   intro a ha b hb
   have : a ∈ acc ∨ a = x := by
    unfold cstep at ha
    split at ha
    · exact .inl ha
    simpa using ha
   rcases this with ha | rfl
   · exact h2 a ha b (List.mem_cons_of_mem _ hb)
   exact h3.1 b hb
 exact this l [] List.Pairwise.nil (by simp) h
end
def rowsOf (n : Nat) (s : List (Int × Int)) : List (List Int) := (List.range n).map fun (a : Nat) => (s.filter fun e => decide (e.1 = (a : Int))).map (·.2)
theorem rowsOf_len (n : Nat) (s : List (Int × Int)) : (rowsOf n s).length = n := by simp [rowsOf]
theorem rowsOf_nil (n : Nat) : rowsOf n [] = List.replicate n [] := by
 apply List.ext_getElem
 · simp [rowsOf]
 intro i h1 h2
 simp [rowsOf]
theorem rowsOf_at {n : Nat} {s : List (Int × Int)} {a : Nat} (ha : a < n) : (rowsOf n s)[a]? = some ((s.filter fun e => decide (e.1 = (a : Int))).map (·.2)) := by
 simp [rowsOf, ha]
theorem rowsOf_snoc {n : Nat} {s : List (Int × Int)} {a : Nat} {b : Int} {r : List Int} (hr : (rowsOf n s)[a]? = some r) : rowsOf n (s ++ [((a : Int), b)]) = (rowsOf n s).set a (r ++ [b]) := by
 have ha : a < n := by
  have := (List.getElem?_eq_some_iff.1 hr).1
  rwa [rowsOf_len] at this
 rw [rowsOf_at ha] at hr
 cases hr
 apply List.ext_getElem?
 intro i
 by_cases hi : i < n
 ·
  rw [rowsOf_at hi]
  by_cases hia : a = i
  ·
   subst hia
   rw [List.getElem?_set_self (by rw [rowsOf_len]; exact hi)]
   simp [List.filter_append]
  rw [List.getElem?_set_ne hia, rowsOf_at hi]
  have : ¬ ((a : Int) = (i : Int)) := by omega
  simp [List.filter_append, this]
 rw [List.getElem?_eq_none (by rw [rowsOf_len]; omega), List.getElem?_eq_none (by rw [List.length_set, rowsOf_len]; omega)]
theorem rowsOf_take {n : Nat} {s : List (Int × Int)} {k : Nat} {a : Nat} {b : Int} {r : List Int} (hk : s[k]? = some ((a : Int), b)) (hr : (rowsOf n (s.take k))[a]? = some r) : rowsOf n (s.take (k + 1)) = (rowsOf n (s.take k)).set a (r ++ [b]) := by
 obtain ⟨hlt, he⟩ := List.getElem?_eq_some_iff.1 hk
 rw [List.take_succ_eq_append_getElem hlt, he]
 exact rowsOf_snoc hr
theorem rowsOf_mem {n : Nat} {s : List (Int × Int)} {a : Nat} {r : List Int} (hr : (rowsOf n s)[a]? = some r) (b : Int) : b ∈ r ↔ ((a : Int), b) ∈ s := by
 have ha : a < n := by
  have := (List.getElem?_eq_some_iff.1 hr).1
  rwa [rowsOf_len] at this
 rw [rowsOf_at ha] at hr
 cases hr
 simp only [List.mem_map, List.mem_filter, decide_eq_true_eq]
 constructor
 ·
  rintro ⟨e, ⟨h1, h2⟩, rfl⟩
  rw [← h2]; exact h1
 intro h
 exact ⟨_, ⟨h, rfl⟩, rfl⟩
theorem rowsOf_sorted {n : Nat} {s : List (Int × Int)} {a : Nat} {r : List Int} (hr : (rowsOf n s)[a]? = some r) (hs : s.Pairwise fun x y => x.1 < y.1 ∨ x.1 = y.1 ∧ x.2 < y.2) : r.Pairwise (· < ·) := by
 have ha : a < n := by
  have := (List.getElem?_eq_some_iff.1 hr).1
  rwa [rowsOf_len] at this
 rw [rowsOf_at ha] at hr
 cases hr
 rw [List.pairwise_map, List.pairwise_filter]
 refine hs.imp ?_
 intro x y h hx hy
 simp only [decide_eq_true_eq] at hx hy
 omega
end Go.GL.Gr
namespace Go.Proofs.YtgojdedggmehiaaGreat
open Go.GL
theorem filled_ok (n : Nat) (hn : n ≤ 1000000) (w : World) : Calls Tryz.prog 68 #[.int .i64 n] w (Ret fun v w' => ∃ b, v = .slice (some ⟨b, 0, none⟩) n n ∧ w.heap.size ≤ b ∧ Blk w' b (List.replicate n (.int .i64 (-1))) 3 ∧ Ext w w') := by
 refine G.in1 Tryz.func68 rfl Tryz.ntmps68 rfl (Gs 8 rfl (G.mem rfl rfl (M.make Tryz.underlying49 Tryz.el3 rfl rfl (by omega) (by omega) (made1 _ n rfl)) ?_))
 rintro _ w1 ⟨b, rfl, hb, hsz, hB, hk⟩
 refine Gs 12 rfl (G.loop (σ := Nat) (fun k => [(3, .slice (some ⟨b, 0, none⟩) n n), (8, .int .i64 n), (9, .int .i64 k)]) (fun k => fun w' => k ≤ n ∧ w'.heap.size = w1.heap.size ∧ Blk w' b (List.replicate k (.int .i64 (-1)) ++ List.replicate (n - k) (.int .i64 0)) 3 ∧ Ext w w') (fun k => n - k) (0) (Sub.of rfl) (⟨Nat.zero_le _, rfl, by simpa using hB, hk⟩) ?_)
 rintro k w2 ⟨hkn, hsz2, hB2, hk2⟩
 refine Gs 6 rfl (G.ite0 rfl (fun hlt => ?_) (fun hge => ?_))
 ·
  refine Ga 14 rfl (by omega) (G.mem0 rfl (M.store Tryz.sizeOf3 rfl rfl rfl rfl hB2 (by simp; omega)) ?_)
  rintro w3 ⟨hs3, hB3, hk3⟩
  refine Ga 7 rfl (by omega) (G.back (k + 1) (Sub.of rfl) (⟨by omega, by omega, ?_, hk2.trans hk3 (fun q hq hb3 => by omega)⟩) ((by omega)))
  have e : n - k = (n - (k + 1)) + 1 := by omega
  rw [e, List.replicate_succ] at hB3
  simpa [List.replicate_succ', List.set_append] using hB3
 refine Gs 12 rfl (G.ret1 Tryz.results68 rfl ⟨_, rfl, b, rfl, by omega, ?_, hk2⟩)
 have e : n = k := by omega
 subst e
 simpa using hB2
theorem node_ok (n x : Int) (ev : Value) (w : World) : Calls Tryz.prog 92 #[.agg #[.int .i64 n, ev], .int .i64 x] w (Ret fun v w' => v = .bool (decide (0 ≤ x ∧ x < n)) ∧ Ext w w') := by
 refine G.in2 Tryz.func92 rfl Tryz.ntmps92 rfl (V.inn (Vs 2 rfl (V.box 2 rfl rfl (fun b2 => ?_))))
 refine Vs 8 rfl (V.sp 7 rfl (fun k1_ => ?_) (fun k1_ => ?_))
 · refine Vs 9 rfl (V.ret1 Tryz.results92 rfl (fun w hI => ⟨_, rfl, by simp [k1_], hI.k0⟩))
 refine Vs 9 rfl (V.ret1 Tryz.results92 rfl (fun w hI => ⟨_, rfl, by simp [k1_], hI.k0⟩))
theorem check_ok (n : Int) (es : List (Int × Int)) (ev : Value) (D : Nat → Prop) (w : World) (hes : SlR 2 RPair D w ev es) : Calls Tryz.prog 51 #[.agg #[.int .i64 n, ev]] w (Ret fun v w' => v = .int .i64 (Gr.check n es) ∧ Ext w w') := by
 obtain ⟨ao, cap, rfl⟩ := hes.form
 have hmx := hes.max
 refine G.in1 Tryz.func51 rfl Tryz.ntmps51 rfl (V.inn (Vs 2 rfl (V.box 1 rfl rfl (fun b1 => ?_))))
 refine Vs 11 rfl (V.ite rfl (fun hn => ?_) (fun hn => ?_))
 · refine Vs 7 rfl (V.ret1e 0 Tryz.results51 rfl rfl (by simp [Gr.check, hn]))
 refine Vs 9 rfl (V.sp 11 rfl (fun h1 => ?_) (fun h1 => ?_))
 · refine Vs 15 rfl (V.ret1e 0 Tryz.results51 rfl rfl (by simp [Gr.check, hn, h1]))
 refine Vs 7 rfl (V.ite rfl (fun h2 => ?_) (fun h2 => ?_))
 ·
  have h2' : 1048576 < es.length := by omega
  refine Vs 7 rfl (V.ret1e 0 Tryz.results51 rfl rfl (by simp [Gr.check, hn, h2']))
 refine Vs 12 rfl (V.loopK (σ := Nat) [1, 18, 19] [1] [1] rfl (fun e k => (20, .int .i64 k) :: e) (fun e k => e) (fun k => k ≤ es.length ∧ (es.take k).all (Gr.okE n) = true) (fun k => es.length - k) (0) (Sub.of rfl) (Has.of rfl) (fun _ => rfl) (fun _ => rfl) (fun _ => rfl) (⟨Nat.zero_le _, rfl⟩) ?_)
 rintro k ⟨hkn, hall⟩
 refine Vs 6 rfl (V.ite rfl (fun hlt => ?_) (fun hge => ?_))
 ·
  refine Vs 6 rfl (V.elG 1000 0 k (by omega) hes rfl rfl rfl (fun e b_e o_e c_e he_e hm_e ha_e hR_e => ?_))
  obtain rfl := hR_e
  refine V.ix 1000 Tryz.runUnderlying35 Tryz.sizeOf43 rfl ha_e (by omega) (_) (rfl) rfl ?_
  have hbad : ¬ (0 ≤ e.1 ∧ e.1 < n ∧ 0 ≤ e.2 ∧ e.2 < n) → Gr.check n es = 3 := fun h => by
   have : es.all (Gr.okE n) = false := Gr.all_false he_e (by simp [Gr.okE]; omega)
   simp [Gr.check, hn, h1, this]; omega
  refine Vs 1 rfl (V.alloc 4 Tryz.zeroValue43 rfl rfl (fun b4 => ?_))
  refine Vs 8 rfl (V.call1 Tryz.call92 rfl (fun w hI => node_ok _ _ _ w) (V.ops1 rfl (fun w hI => R.notU rfl (by first | exact not_decide_eq | rfl)) (Vs 1 rfl (V.sp 29 rfl (fun h3 => ?_) (fun h3 => ?_)))))
  · refine Vs 20 rfl (V.ret1e 0 Tryz.results51 rfl rfl (by rw [hbad (by simp at h3; omega)]))
  refine Vs 3 rfl (V.call1 Tryz.call92 rfl (fun w hI => node_ok _ _ _ w) (V.ops1 rfl (fun w hI => R.notU rfl (by first | exact not_decide_eq | rfl)) (Vs 3 rfl (V.ite rfl (fun h4 => ?_) (fun h4 => ?_)))))
  · refine Vs 11 rfl (V.ret1e 0 Tryz.results51 rfl rfl (by rw [hbad (by simp at h4; omega)]))
  refine Va 7 rfl (by omega) (V.back (k + 1) (Sub.of rfl) (Has.of rfl) (⟨by omega, Gr.all_take_succ he_e hall (by simp [Gr.okE] at *; omega)⟩) (by first | omega | (dsimp only; omega)) 0 rfl rfl)
 obtain rfl : k = es.length := by omega
 rw [List.take_length] at hall
 refine Vs 11 rfl (V.ret1e 0 Tryz.results51 rfl rfl (by simp [Gr.check, hn, h1, hall]; omega))
theorem compare_ok (a b : Int × Int) (w : World) (ha : -4611686018427387904 ≤ a.1 ∧ a.1 ≤ 4611686018427387903 ∧ -4611686018427387904 ≤ a.2 ∧ a.2 ≤ 4611686018427387903) (hb : -4611686018427387904 ≤ b.1 ∧ b.1 ≤ 4611686018427387903 ∧ -4611686018427387904 ≤ b.2 ∧ b.2 ≤ 4611686018427387903) :
  Calls Tryz.prog 94 #[.agg #[.int .i64 a.1, .int .i64 a.2], .agg #[.int .i64 b.1, .int .i64 b.2]] w (Ret fun v w' => v = .int .i64 (if a.1 ≠ b.1 then a.1 - b.1 else a.2 - b.2) ∧ Ext w w') := by
 refine G.in2 Tryz.func94 rfl Tryz.ntmps94 rfl (V.inn (Vs 2 rfl (V.box 2 rfl rfl (fun b2 => ?_))))
 refine V.box 3 rfl rfl (fun b3 => (Vs 13 rfl (V.ite rfl (fun h => ?_) (fun h => ?_))))
 · refine Va 12 rfl (by omega) (V.ret1e 0 Tryz.results94 rfl rfl (by rw [if_pos h]))
 refine Va 13 rfl (by omega) (V.ret1e 0 Tryz.results94 rfl rfl (by rw [if_neg h]))
def encP (e : Int × Int) : List Value := [.int .i64 e.1, .int .i64 e.2]
theorem encP_len (e : Int × Int) : (encP e).length = 2 := rfl
theorem encP_one (e : Int × Int) : ∀ u ∈ encP e, u.oneCell' = true := by simp [encP, Value.oneCell']
theorem take_flat {α β : Type} (f : α → List β) {l : List α} {k : Nat} {x : α} (hx : l[k]? = some x) : (l.take k).flatMap f ++ f x = (l.take (k + 1)).flatMap f := by
 obtain ⟨hk, rfl⟩ := List.getElem?_eq_some_iff.1 hx
 rw [List.take_succ_eq_append_getElem hk, List.flatMap_append, List.flatMap_cons, List.flatMap_nil, List.append_nil]
theorem turned_ok (n : Int) (es : List (Int × Int)) (ev : Value) (D : Nat → Prop) (w : World) (hes : SlR 2 RPair D w ev es) (hlen : es.length ≤ 1048576) : Calls Tryz.prog 101 #[.agg #[.int .i64 n, ev]] w (Ret fun v w' => SlR 2 RPair (fun b => w.heap.size ≤ b) w' v (es.map fun e => (e.2, e.1)) ∧ Ext w w') := by
 obtain ⟨ao, cap, rfl, hlc, hcm, hel⟩ := hes
 refine G.in1 Tryz.func101 rfl Tryz.ntmps101 rfl (Gs 2 rfl (G.mem rfl rfl (M.box rfl rfl) ?_))
 rintro _ w1 ⟨b, rfl, hb, hsz, hB, hk⟩
 refine Gs 12 rfl (G.ld rfl Tryz.isAgg35 (hB.cells 1 _ rfl) (Gs 5 rfl (G.loop (σ := Nat × Value) (fun ⟨k, v⟩ => [(3, v), (7, .slice ao es.length cap), (8, .int .i64 es.length), (9, .int .i64 k)]) (fun ⟨k, v⟩ => fun w' => k ≤ es.length ∧ w'.ownsRow 0 43 2 v k ((es.take k).flatMap fun e => encP (e.2, e.1)) ∧ (∀ g, v.ownBlock = some g → w1.heap.size ≤ g) ∧ Ext w1 w') (fun ⟨k, v⟩ => es.length - k) ((0, .slice none 0 0)) (Sub.of rfl) (⟨Nat.zero_le _, own_nil _ _ _, by simp [Value.ownBlock], Keep.refl _ _⟩) ?_)))
 rintro ⟨k, v⟩ w2 ⟨hkn, hown, hfr, hk2⟩
 show G _ _ _ _ _ [(3, v), (7, .slice ao es.length cap), (8, .int .i64 es.length), (9, .int .i64 k)] _
 refine Gs 6 rfl (G.ite0 rfl (fun hlt => ?_) (fun hge => ?_))
 ·
  refine Gs 6 rfl ?_
  obtain ⟨e, he⟩ : ∃ e, es[k]? = some e := ⟨_, List.getElem?_eq_getElem (by omega)⟩
  obtain ⟨be, oe, ce, hao, _, hcl, hcs, rfl⟩ := hel k e he
  refine G.ops1 rfl rfl (R.indexS Tryz.runUnderlying35 Tryz.sizeOf43 rfl rfl hao (by omega)) (G.ldK rfl Tryz.isAgg43 Tryz.sizeOf43 ((hk.ext hk2).cells hcs (fun h => h)) rfl (G.mem rfl rfl (M.alloc (cs := _) Tryz.zeroValue43 rfl) ?_))
  rintro _ w3 ⟨b4, rfl, hb4, hsz3, hB3, hk3⟩
  refine G.mem0 rfl (M.storeK Tryz.sizeOf43 rfl rfl rfl rfl (encP_one e) hB3 (by simp)) ?_
  rintro w4 ⟨hs4, hB4, hk4⟩
  refine Gs 4 rfl (G.ops1 rfl rfl (R.indexA Tryz.runUnderlying43 Tryz.sizeOf3 rfl rfl (by omega)) (G.ld rfl Tryz.isAgg3 (hB4.cells 1 _ rfl) (G.ops1 rfl rfl (R.indexA Tryz.runUnderlying43 Tryz.sizeOf3 rfl rfl (by omega)) (G.ld rfl Tryz.isAgg3 (hB4.cells 0 _ rfl) (G.ops1 rfl rfl (R.build (v := .agg #[.int .i64 e.2, .int .i64 e.1]) [(0, _), (1, _)] rfl (fun _ => by kernel_rfl)) (G.mem rfl rfl (M.buildSlice (cs := encP (e.2, e.1)) [(0, _)] Tryz.runUnderlying35 Tryz.sizeOf43 Tryz.zeroValue43 (by decide) rfl (by kernel_rfl)) ?_))))))
  rintro _ w5 ⟨b5, rfl, hb5, hs5, hB5, hk5⟩
  have hE4 : Ext w2 w4 := hk3.trans hk4 (fun q hq h => by omega)
  have hE5 := hE4.ext hk5
  have hown5 := own_keep hown hE5 (fun _ _ h => h)
  refine G.mem rfl rfl (M.append Tryz.underlying35 Tryz.el43 rfl (by decide) rfl rfl hown5 rfl (Cells.add hB5.cells) (encP_one _) (by omega) (by omega)) ?_
  rintro v' w6 ⟨hown6, hfr6, hk6, _⟩
  rw [take_flat (fun e : Int × Int => encP (e.2, e.1)) he] at hown6
  refine Ga 8 rfl (by omega) ?_
  have hlt5 : w1.heap.size ≤ w5.heap.size := Nat.le_trans hk2.size hE5.size
  refine G.back ((k + 1, v')) (Sub.of rfl) (⟨by omega, hown6, ?_, (hk2.ext hE5).trans hk6 (fun q hq h => by have := hfr q h; omega)⟩) (by first | omega | (dsimp only; omega))
  intro g hg
  rcases hfr6 with h | ⟨g', h, h'⟩
  · exact hfr g (by rw [← h]; exact hg)
  rw [h] at hg; cases hg; omega
 refine Gs 12 rfl (G.ret1 Tryz.results101 rfl ⟨_, rfl, ?_, hk.ext hk2⟩)
 have : k = es.length := by omega
 subst this
 rw [List.take_length] at hown
 have e1 : (es.flatMap fun e => encP (e.2, e.1)) = (es.map fun e => (e.2, e.1)).flatMap encP := by rw [List.flatMap_map]
 rw [e1] at hown
 exact SlR.ofRowK (by omega) encP encP_len (fun x _ => rfl) hown (fun g hg => by have := hfr g hg; omega)
mutual
/-- The range of a term whose nodes all lie within the limit. -/
def rng (vs : List Vr) : Tm → Option Rg
 | .mk op n ks => (rngL vs ks).bind fun l => if okR (spanOf vs op n l) then some (spanOf vs op n l) else none
def rngL (vs : List Vr) : List Tm → Option (List Rg)
 | [] => some []
 | k :: r => (rng vs k).bind fun x => (rngL vs r).map fun l => x :: l
end
section
variable {vs : List Vr}
theorem rng_eq (t : Tm) : rng vs t = (rngL vs t.kids).bind fun l => if okR (spanOf vs t.op t.n l) then some (spanOf vs t.op t.n l) else none := by cases t; rw [rng]; rfl
theorem rngL_append (a b : List Tm) : rngL vs (a ++ b) = (rngL vs a).bind fun l => (rngL vs b).map fun m => l ++ m := by
 induction a with
 | nil => simp [rngL]
 | cons x r ih =>
  simp only [List.cons_append, rngL, ih]
  cases rng vs x <;> cases rngL vs r <;> cases rngL vs b <;> simp
theorem rngL_take {l : List Tm} {i : Nat} {x : Tm} {m : List Rg} {r : Rg} (h : l[i]? = some x) (h1 : rngL vs (l.take i) = some m) (h2 : rng vs x = some r) : rngL vs (l.take (i + 1)) = some (m ++ [r]) := by
 rw [take_get h, rngL_append, h1]; simp [rngL, h2]
theorem rngL_none {l : List Tm} {i : Nat} {x : Tm} (h : l[i]? = some x) (h2 : rng vs x = none) : rngL vs l = none := by
 rw [split_get h, rngL_append]
 cases rngL vs (l.take i) <;> simp [rngL, h2]
theorem rngL_len : ∀ (l : List Tm) (m : List Rg), rngL vs l = some m → m.length = l.length
 | [], m, h => by simp [rngL] at h; subst h; rfl
 | x :: r, m, h => by
  simp only [rngL, Option.bind_eq_some_iff, Option.map_eq_some_iff] at h
  obtain ⟨y, _, z, h2, rfl⟩ := h
  simp [rngL_len r z h2]
theorem rngL_mem : ∀ (l : List Tm) (m : List Rg), rngL vs l = some m → ∀ r ∈ m, ∃ t ∈ l, rng vs t = some r
 | [], m, h, r, hr => by simp [rngL] at h; subst h; simp at hr
 | x :: l, m, h, r, hr => by
  simp only [rngL, Option.bind_eq_some_iff, Option.map_eq_some_iff] at h
  obtain ⟨y, h1, z, h2, rfl⟩ := h
  rcases List.mem_cons.1 hr with rfl | hr
  · exact ⟨x, List.mem_cons_self .., h1⟩
  obtain ⟨t, h3, h4⟩ := rngL_mem l z h2 r hr
  exact ⟨t, List.mem_cons_of_mem _ h3, h4⟩
theorem hullL_le (x : Rg) (h : x.1 ≤ x.2) : ∀ l : List Rg, (hullL x l).1 ≤ x.1 ∧ x.2 ≤ (hullL x l).2 := by
 intro l
 induction l generalizing x with
 | nil => simp [hullL]
 | cons y r ih =>
  have := ih (min x.1 y.1, max x.2 y.2) (by dsimp only; omega)
  simp only [hullL, List.foldl_cons] at this ⊢
  constructor <;> omega
theorem at2_mem {l : List Rg} {i : Nat} (h : i < l.length) : at2 l i ∈ l := by
 unfold at2
 rw [List.getElem?_eq_getElem h]
 exact List.getElem_mem h
theorem vat_good {n : Int} (hv : ∀ v ∈ vs, Good (v.low, v.high)) (hn : 0 ≤ n ∧ n < vs.length) : Good (vat vs n) := by
 unfold vat
 rw [List.getElem?_eq_getElem (show n.toNat < vs.length by omega)]
 exact hv _ (List.getElem_mem _)
theorem spanOf_le {op n : Int} {l : List Rg} (h : NodeOk vs op n l) : (spanOf vs op n l).1 ≤ (spanOf vs op n l).2 := by
 have hg : ∀ i, i < l.length → Good (at2 l i) := fun i hi => h.good _ (at2_mem hi)
 unfold Good at hg
 unfold spanOf
 split
 · exact Int.le_refl _
 split
 · rename_i h1 h2; exact (vat_good h.vars (h.var h2)).2.1
 split
 · rename_i h1 h2 h3; have := h.k1 (.inl h3); have := hg 0 (by omega); dsimp only; omega
 split
 · have := h.k2 (by omega); have := hg 0 (by omega); have := hg 1 (by omega); dsimp only; omega
 split
 · have := h.k2 (by omega); have := hg 0 (by omega); have := hg 1 (by omega); dsimp only; omega
 split
 ·
  have := hullL_le ((at2 l 0).1 * (at2 l 1).1, (at2 l 0).1 * (at2 l 1).1) (Int.le_refl _) [((at2 l 0).1 * (at2 l 1).2, (at2 l 0).1 * (at2 l 1).2), ((at2 l 0).2 * (at2 l 1).1, (at2 l 0).2 * (at2 l 1).1), ((at2 l 0).2 * (at2 l 1).2, (at2 l 0).2 * (at2 l 1).2)]
  unfold cornersI
  exact Int.le_trans this.1 this.2
 split
 · have := h.k2 (by omega); have := hg 0 (by omega); dsimp only; split <;> omega
 split
 · have := h.k2 (by omega); have := hg 1 (by omega); dsimp only; split <;> split <;> omega
 split
 · have := h.k2 (by omega); have := hg 0 (by omega); have := hg 1 (by omega); dsimp only; omega
 split
 · have := h.k2 (by omega); have := hg 0 (by omega); have := hg 1 (by omega); dsimp only; omega
 split
 ·
  rename_i hk
  have := h.k3 hk; have h2 := hg 1 (by omega)
  have := hullL_le (at2 l 1) h2.2.1 (l.drop 2)
  omega
 decide
theorem rng_good {inp : Bool} (hv : ∀ v ∈ vs, Good (v.low, v.high)) (t : Tm) : formedT vs inp t = true → ∀ r, rng vs t = some r → Good r := by
 induction t using Tm.ind with
 | h t ih =>
  intro hf r hr
  rw [formedT_eq, Bool.and_eq_true, Bool.and_eq_true] at hf
  rw [rng_eq, Option.bind_eq_some_iff] at hr
  obtain ⟨l, h1, h2⟩ := hr
  have hn : NodeOk vs t.op t.n l := nodeOk_of (rngL_len _ _ h1) hf.1.1 hf.1.2 (fun x hx => by
   obtain ⟨k, hk, hkx⟩ := rngL_mem _ _ h1 x hx
   exact ih k hk (formedL_mem hf.2 hk) x hkx) hv
  have := spanOf_le hn
  split at h2
  ·
   rename_i hok
   cases h2
   have := of_decide_eq_true hok
   exact ⟨this.1, by omega, this.2⟩
  cases h2
end
theorem ranged_ok (vs : List Vr) (inp : Bool) (vv : Value) (Dv : Nat → Prop) (hvb : ∀ v ∈ vs, Good (v.low, v.high)) (t : Tm) : ∀ (cs : List Value) (D : Nat → Prop) (w : World), SlR 5 RVr Dv w vv vs → RTm D w t cs → formedT vs inp t = true → t.nodes ≤ 1000000 →
  Calls Tryz.prog 115 #[vv, .agg cs.toArray] w (Ret fun r w' => (∃ a b : Int, r = .tuple #[.agg #[.int .i64 a, .int .i64 b], .bool (rng vs t).isSome] ∧ ∀ x, rng vs t = some x → (a, b) = x) ∧ Ext w w') := by
 induction t using Tm.ind with
 | h t ih =>
 intro cs D w hvs ht hf hsz
 rw [formedT_eq, Bool.and_eq_true, Bool.and_eq_true] at hf
 have hlen := tlen_le t.kids
 have hse := t.nodes_eq
 obtain ⟨v, rfl, hk⟩ := ht.get
 obtain ⟨ao, cap, rfl⟩ := hk.form
 obtain ⟨av, nv, rfl⟩ := hvs.form
 refine G.in2 Tryz.func115 rfl Tryz.ntmps115 rfl (V.inn (Vs 2 rfl (V.box 3 rfl rfl (fun b3 => ?_))))
 refine V.alloc 4 Tryz.zeroValue174 rfl rfl (fun b4 => (Vs 4 rfl (V.nilrow 6 174 2 rfl (Vs 14 rfl (V.loopK (σ := Nat × List Rg × Value) [0, 3, 4, 13, 14] [3, 4] [3, 4] rfl (fun e ⟨i, l, vk⟩ => (6, vk) :: (15, .int .i64 i) :: e) (fun e ⟨i, l, vk⟩ => (6, .row 174 2 vk l.length (l.flatMap encP)) :: e) (fun ⟨i, l, vk⟩ => i ≤ t.kids.length ∧ rngL vs (t.kids.take i) = some l) (fun ⟨i, l, vk⟩ => t.kids.length - i) ((0, [], _)) (Sub.of rfl) (Has.of rfl) (fun _ => rfl) (fun _ => rfl) (fun _ => rfl) (⟨Nat.zero_le _, by rw [List.take_zero]; rfl⟩) ?_)))))
 rintro ⟨i, l, vk⟩ ⟨hi, hl⟩
 show V _ _ _ _ _ ((6, vk) :: (15, .int .i64 i) :: _) _ ((6, .row 174 2 vk l.length (l.flatMap encP)) :: _) _
 refine Vs 6 rfl (V.ite rfl (fun hlt => ?_) (fun hlt => ?_))
 ·
  refine Vs 6 rfl (V.elG 1000 0 i (by omega) hk rfl rfl rfl (fun k b_k o_k c_k he_k hm_k ha_k hR_k => ?_))
  obtain ⟨v1_k, rfl, hk_k⟩ := hR_k.get
  obtain ⟨a1_k, n1_k, rfl⟩ := hk_k.form
  refine V.ix 1000 Tryz.runUnderlying68 Tryz.sizeOf70 rfl ha_k (by omega) (_) (rfl) rfl ?_
  have hsp := tnodes_split he_k
  have hll := rngL_len _ _ hl
  rw [List.length_take] at hll
  refine Vs 1 rfl (V.alloc 8 Tryz.zeroValue70 rfl rfl (fun b8 => ?_))
  refine Vs 7 rfl (V.call2 Tryz.call115 rfl (fun w hI => (ih k hm_k _ D w (Tr1 hI.k0 hvs) (RTm.put (Tr1 hI.k0 hk_k)) (formedL_mem hf.2 hm_k) (by omega))) ?_)
  rintro r w1 w2 hI1 hk12 ⟨ka, kb, rfl, hval⟩ hlow
  refine Vs 3 rfl (V.alloc 9 Tryz.zeroValue174 rfl rfl (fun b9 => ?_))
  refine Vs 8 rfl (V.ops1 rfl (fun w hI => R.notU rfl (by first | exact not_decide_eq | rfl)) (Vs 2 rfl (V.bool rfl (fun hb => ?_) (fun hb => ?_))))
  ·
   have hb' : rng vs k = none := by cases h : rng vs k <;> simp [h] at hb ⊢
   have hnone : rng vs t = none := by rw [rng_eq, rngL_none he_k hb']; rfl
   refine Vs 2 rfl (V.bld [Value.int IntKind.i64 0, Value.int IntKind.i64 0] [(0, 1), (1, 1)] [] rfl rfl (fun _ => by kernel_rfl) (Vs 11 rfl (V.retCT Tryz.results115 Tryz.isAgg174 Tryz.sizeOf174 rfl rfl rfl rfl (fun w hI => ⟨_, rfl, ⟨0, 0, by rw [hnone]; rfl, fun x hx => by rw [hnone] at hx; cases hx⟩, hI.k1⟩))))
  obtain ⟨x, hx⟩ : ∃ x, rng vs k = some x := by cases h : rng vs k with
   | none => simp [h] at hb
   | some x => exact ⟨x, rfl⟩
  have hxv := hval x hx
  subst hxv
  refine Vs 5 rfl (V.bs 30 [(0, _)] Tryz.runUnderlying190 Tryz.sizeOf174 Tryz.zeroValue174 (by decide) rfl rfl (by kernel_rfl) (fun b30 => ?_))
  refine V.ap 6 30 Tryz.underlying190 Tryz.el174 rfl (by decide) rfl rfl (by omega) (by omega) (fun u6 => (Vs 4 rfl (V.heq 6 rfl (e' := .row 174 2 u6 (l ++ [(ka, kb)]).length ((l ++ [(ka, kb)]).flatMap encP)) (by simp [encP]) (Va 4 rfl (by omega) (V.back (⟨i + 1, l ++ [(ka, kb)], u6⟩) (Sub.of rfl) (Has.of rfl) (⟨by omega, rngL_take he_k hl hx⟩) (by first | omega | (dsimp only; omega)) 1 rfl rfl)))))
 obtain rfl : i = t.kids.length := by omega
 rw [List.take_length] at hl
 have hll := rngL_len _ _ hl
 have hn : NodeOk vs t.op t.n l := nodeOk_of hll hf.1.1 hf.1.2 (fun x hx => by
  obtain ⟨k, hk, hkx⟩ := rngL_mem _ _ hl x hx
  exact rng_good hvb k (formedL_mem hf.2 hk) x hkx) hvb
 have hrg : rng vs t = if okR (spanOf vs t.op t.n l) then some (spanOf vs t.op t.n l) else none := by rw [rng_eq, hl]; rfl
 obtain ⟨p, hp⟩ : ∃ p, p = spanOf vs t.op t.n l := ⟨_, rfl⟩
 refine Vs 10 rfl (V.call1 Tryz.call137 rfl (fun w hI => (by have h := rule_ok vs t l _ vk _ Dv D (fun _ => True) w (Tr1 hI.k0 hvs) (RTm.put (Tr1 hI.k0 hk)) (SlR.ofRowK (by omega) encP encP_len (fun x _ => rfl) (hI.at 6 rfl) (fun _ _ => trivial)) hn; rw [← hp] at h; exact h)) ?_)
 rw [← hp] at hrg
 have hso : (rng vs t).isSome = okR p := by rw [hrg]; cases okR p <;> rfl
 have hval : ∀ x, rng vs t = some x → (p.1, p.2) = x := by
  intro x hx
  rw [hrg] at hx
  split at hx
  · exact Option.some.inj hx
  cases hx
 refine V.alloc 11 Tryz.zeroValue174 rfl rfl (fun b11 => (Vs 4 rfl (Vw [3, 11] [] rfl (Vd [0, 1, 2, 3, 4] 0 (by kernel_rfl) rfl rfl rfl (VD.sp 41 rfl (fun g1 => ?_) (fun g1 => ?_))))))
 ·
  have ho : okR p = decide (p.2 ≤ 1048576) := by unfold okR; congr 1; simp; omega
  refine Vd [5, 6, 7, 8] 0 (by kernel_rfl) rfl rfl rfl (Ve 9 0 rfl (by kernel_rfl) rfl rfl rfl (Vd [10] 0 (by kernel_rfl) rfl rfl rfl (VD.done (by kernel_rfl) (Vs 2 rfl (V.retCT Tryz.results115 Tryz.isAgg174 Tryz.sizeOf174 rfl rfl rfl rfl (fun w hI => ⟨_, rfl, ⟨p.1, p.2, by rw [hso, ho], hval⟩, hI.k0⟩))))))
 have ho : okR p = false := by unfold okR; exact decide_eq_false (by omega)
 refine Vd [5, 6, 7, 8] 0 (by kernel_rfl) rfl rfl rfl (Ve 9 0 rfl (by kernel_rfl) rfl rfl rfl (Vd [10] 0 (by kernel_rfl) rfl rfl rfl (VD.done (by kernel_rfl) (Vs 2 rfl (V.retCT Tryz.results115 Tryz.isAgg174 Tryz.sizeOf174 rfl rfl rfl rfl (fun w hI => ⟨_, rfl, ⟨p.1, p.2, by rw [hso, ho], hval⟩, hI.k0⟩))))))
theorem refModSpan_ok (a b : Int) (w : World) (ha : -1048576 ≤ a ∧ a ≤ 1048576) (hb : -1048576 ≤ b ∧ b ≤ 1048576) : Calls Tryz.prog 134 #[.int .i64 a, .int .i64 b] w (Ret fun r w' => r = .tuple #[.int .i64 (if a < 0 then min (a + 1) 0 else 0), .int .i64 (if 0 < b then max (b - 1) 0 else 0)] ∧ Ext w w') := by
 refine G.in2 Tryz.func134 rfl Tryz.ntmps134 rfl (V.inn (Vs 19 rfl (V.ite rfl (fun p0 => ?_) (fun p0 => ?_))))
 ·
  refine Va 3 rfl (by omega) (V.call1 Tryz.call40 rfl (fun w hI => refLeast_ok 0 (a + 1) w) (Vs 10 rfl (V.ite rfl (fun p1 => ?_) (fun p1 => ?_))))
  · refine Va 3 rfl (by omega) (V.call1 Tryz.call39 rfl (fun w hI => refMost_ok 0 (b - 1) w) (Vs 12 rfl (V.ret2 Tryz.results134 rfl rfl (fun w hI => ⟨_, rfl, by rw [if_pos p0, if_pos p1, Int.min_comm, Int.max_comm], hI.k0⟩))))
  refine Vs 11 rfl (V.ret2 Tryz.results134 rfl rfl (fun w hI => ⟨_, rfl, by rw [if_pos p0, if_neg p1, Int.min_comm], hI.k0⟩))
 refine Vs 9 rfl (V.ite rfl (fun p1 => ?_) (fun p1 => ?_))
 · refine Va 3 rfl (by omega) (V.call1 Tryz.call39 rfl (fun w hI => refMost_ok 0 (b - 1) w) (Vs 12 rfl (V.ret2 Tryz.results134 rfl rfl (fun w hI => ⟨_, rfl, by rw [if_neg p0, if_pos p1, Int.max_comm], hI.k0⟩))))
 refine Vs 11 rfl (V.ret2 Tryz.results134 rfl rfl (fun w hI => ⟨_, rfl, by rw [if_neg p0, if_neg p1], hI.k0⟩))
theorem at2_of {l : List Rg} {i : Nat} {a b : Int} (h : (l.map Prod.fst)[i]? = some a) (h2 : (l.map Prod.snd)[i]? = some b) : l[i]? = some (a, b) := by
 rw [List.getElem?_map] at h h2
 cases h3 : l[i]? with
 | none => simp [h3] at h
 | some x => simp [h3] at h h2; rw [← h, ← h2]
theorem refSpan_ok (vs : List Vr) (t : Tm) (ks : List Rg) (vv lv hv : Value) (cs : List Value) (Dv D Dl Dh : Nat → Prop) (w : World) (hvs : SlR 5 RVr Dv w vv vs) (ht : RTm D w t cs) (hlo : SlR 1 RInt Dl w lv (ks.map Prod.fst)) (hhi : SlR 1 RInt Dh w hv (ks.map Prod.snd)) (hn : NodeOk vs t.op t.n ks) :
  Calls Tryz.prog 108 #[vv, .agg cs.toArray, lv, hv] w (Ret fun r w' => (∃ a b : Int, r = .tuple #[.int .i64 a, .int .i64 b] ∧ okR (a, b) = okR (spanOf vs t.op t.n ks) ∧ (okR (a, b) = true → (a, b) = spanOf vs t.op t.n ks)) ∧ Ext w w') := by
 obtain ⟨v, rfl, hk⟩ := ht.get
 obtain ⟨av, nv, rfl⟩ := hvs.form
 obtain ⟨al, nl, rfl⟩ := hlo.form
 obtain ⟨ah, nh, rfl⟩ := hhi.form
 have hmx := hlo.max
 have e1 : (ks.map Prod.fst).length = ks.length := List.length_map _
 have e2 : (ks.map Prod.snd).length = ks.length := List.length_map _
 have hg : ∀ {i : Nat} {a b : Int}, (ks.map Prod.fst)[i]? = some a → (ks.map Prod.snd)[i]? = some b → at2 ks i = (a, b) ∧ -1048576 ≤ a ∧ a ≤ b ∧ b ≤ 1048576 := fun h1 h2 => ⟨at2_eq (at2_of h1 h2), hn.good _ (List.mem_of_getElem? (at2_of h1 h2))⟩
 have same : ∀ {a b : Int} {w' : World}, Ext w w' → (a, b) = spanOf vs t.op t.n ks → ∃ v, Ending.returned (.tuple #[.int .i64 a, .int .i64 b]) = .returned v ∧ (∃ a b : Int, v = .tuple #[.int .i64 a, .int .i64 b] ∧ okR (a, b) = okR (spanOf vs t.op t.n ks) ∧ (okR (a, b) = true → (a, b) = spanOf vs t.op t.n ks)) ∧ Ext w w' :=
  fun hk he => ⟨_, rfl, ⟨_, _, rfl, by rw [he], fun _ => he⟩, hk⟩
 refine G.in4 Tryz.func108 rfl Tryz.ntmps108 rfl (V.inn (Vs 2 rfl (V.box 5 rfl rfl (fun b5 => ?_))))
 refine Vs 18 rfl (V.ite rfl (fun h0 => ?_) (fun h0 => ?_))
 ·
  refine Vs 7 rfl (V.sp 25 rfl (fun n0 => ?_) (fun n0 => ?_))
  · refine Vs 17 rfl (V.ret2 Tryz.results108 rfl rfl (fun w hI => ⟨_, rfl, ⟨_, _, rfl, by simp [spanOf, okR, h0]; omega, fun h => by cases h⟩, hI.k0⟩))
  refine Vs 6 rfl (V.ite rfl (fun n1 => ?_) (fun n1 => ?_))
  · refine Vs 10 rfl (V.ret2 Tryz.results108 rfl rfl (fun w hI => ⟨_, rfl, ⟨_, _, rfl, by simp [spanOf, okR, h0]; omega, fun h => by cases h⟩, hI.k0⟩))
  refine Vs 3 rfl (Vq (by kernel_rfl) (Vs 11 rfl (V.ret2 Tryz.results108 rfl rfl (fun w hI => (same hI.k0 (by simp [spanOf, h0]))))))
 refine Vs 6 rfl (V.ite rfl (fun h24 => ?_) (fun h24 => ?_))
 ·
  have hv := hn.var h24
  refine V.elG 1000 0 t.n.toNat (by omega) hvs rfl rfl rfl (fun x b_x o_x c_x he_x hm_x ha_x hR_x => ?_)
  obtain rfl := hR_x
  refine Vs 1 rfl (Vq (by kernel_rfl) (Vs 3 rfl (V.ixQ 1000 Tryz.runUnderlying22 Tryz.sizeOf96 rfl ha_x (by omega) (t.n.toNat) (by omega) rfl (Vs 5 rfl (V.ixQ 1000 Tryz.runUnderlying22 Tryz.sizeOf96 rfl ha_x (by omega) (t.n.toNat) (by omega) rfl (Vs 9 rfl (V.ret2 Tryz.results108 rfl rfl (fun w hI => (same hI.k0 (by simp [spanOf, h24, vat_eq he_x]))))))))))
 refine Vs 6 rfl (V.ite rfl (fun h6 => ?_) (fun h6 => ?_))
 ·
  have hl := hn.k1 (.inl h6)
  refine V.elI 2000 0 0 (by omega) hlo rfl rfl (fun p b_p o_p he_p hm_p ha_p => (V.elI 3000 0 0 (by omega) hhi rfl rfl (fun r b_r o_r he_r hm_r ha_r => ?_)))
  have x := hg he_p he_r
  refine Vs 1 rfl (Vq (by kernel_rfl) (Vs 1 rfl ?_))
  refine V.ixQ 3000 Tryz.runUnderlying49 Tryz.sizeOf3 rfl ha_r (by omega) (_) (rfl) rfl (Va 3 rfl (by omega) ?_)
  refine V.ixQ 2000 Tryz.runUnderlying49 Tryz.sizeOf3 rfl ha_p (by omega) (_) (rfl) rfl (Va 9 rfl (by omega) (V.ret2 Tryz.results108 rfl rfl (fun w hI => (same hI.k0 (by simp [spanOf, h6, x])))))
 refine Vs 6 rfl (V.ite rfl (fun h8 => ?_) (fun h8 => ?_))
 ·
  have hl := hn.k2 (by omega)
  refine V.elI 4000 0 0 (by omega) hlo rfl rfl (fun p b_p o_p he_p hm_p ha_p => (V.elI 5000 0 1 (by omega) hlo rfl rfl (fun q b_q o_q he_q hm_q ha_q => ?_)))
  refine V.elI 6000 0 0 (by omega) hhi rfl rfl (fun r b_r o_r he_r hm_r ha_r => (V.elI 7000 0 1 (by omega) hhi rfl rfl (fun s b_s o_s he_s hm_s ha_s => ?_)))
  have x := hg he_p he_r
  have y := hg he_q he_s
  refine Vs 1 rfl (Vq (by kernel_rfl) (Vs 1 rfl ?_))
  refine V.ixQ 4000 Tryz.runUnderlying49 Tryz.sizeOf3 rfl ha_p (by omega) (_) (rfl) rfl (Vs 2 rfl ?_)
  refine V.ixQ 5000 Tryz.runUnderlying49 Tryz.sizeOf3 rfl ha_q (by omega) (_) (rfl) rfl (Va 3 rfl (by omega) ?_)
  refine V.ixQ 6000 Tryz.runUnderlying49 Tryz.sizeOf3 rfl ha_r (by omega) (_) (rfl) rfl (Vs 2 rfl ?_)
  refine V.ixQ 7000 Tryz.runUnderlying49 Tryz.sizeOf3 rfl ha_s (by omega) (_) (rfl) rfl (Va 9 rfl (by omega) (V.ret2 Tryz.results108 rfl rfl (fun w hI => (same hI.k0 (by simp [spanOf, h8, x, y])))))
 refine Vs 6 rfl (V.ite rfl (fun h9 => ?_) (fun h9 => ?_))
 ·
  have hl := hn.k2 (by omega)
  refine V.elI 8000 0 0 (by omega) hlo rfl rfl (fun p b_p o_p he_p hm_p ha_p => (V.elI 9000 0 1 (by omega) hlo rfl rfl (fun q b_q o_q he_q hm_q ha_q => ?_)))
  refine V.elI 10000 0 0 (by omega) hhi rfl rfl (fun r b_r o_r he_r hm_r ha_r => (V.elI 11000 0 1 (by omega) hhi rfl rfl (fun s b_s o_s he_s hm_s ha_s => ?_)))
  have x := hg he_p he_r
  have y := hg he_q he_s
  refine Vs 1 rfl (Vq (by kernel_rfl) (Vs 1 rfl ?_))
  refine V.ixQ 8000 Tryz.runUnderlying49 Tryz.sizeOf3 rfl ha_p (by omega) (_) (rfl) rfl (Vs 2 rfl ?_)
  refine V.ixQ 11000 Tryz.runUnderlying49 Tryz.sizeOf3 rfl ha_s (by omega) (_) (rfl) rfl (Va 3 rfl (by omega) ?_)
  refine V.ixQ 10000 Tryz.runUnderlying49 Tryz.sizeOf3 rfl ha_r (by omega) (_) (rfl) rfl (Vs 2 rfl ?_)
  refine V.ixQ 9000 Tryz.runUnderlying49 Tryz.sizeOf3 rfl ha_q (by omega) (_) (rfl) rfl (Va 9 rfl (by omega) (V.ret2 Tryz.results108 rfl rfl (fun w hI => (same hI.k0 (by simp [spanOf, h9, x, y])))))
 refine Vs 6 rfl (V.ite rfl (fun h10 => ?_) (fun h10 => ?_))
 ·
  have hl := hn.k2 (by omega)
  refine V.elI 12000 0 0 (by omega) hlo rfl rfl (fun p b_p o_p he_p hm_p ha_p => (V.elI 13000 0 1 (by omega) hlo rfl rfl (fun q b_q o_q he_q hm_q ha_q => ?_)))
  refine V.elI 14000 0 0 (by omega) hhi rfl rfl (fun r b_r o_r he_r hm_r ha_r => (V.elI 15000 0 1 (by omega) hhi rfl rfl (fun s b_s o_s he_s hm_s ha_s => ?_)))
  have x := hg he_p he_r
  have y := hg he_q he_s
  have m1 := mul_le (x := p) (y := q) (by omega) (by omega)
  have m2 := mul_le (x := p) (y := s) (by omega) (by omega)
  have m3 := mul_le (x := r) (y := q) (by omega) (by omega)
  have m4 := mul_le (x := r) (y := s) (by omega) (by omega)
  refine Vs 1 rfl (Vq (by kernel_rfl) (Vs 1 rfl ?_))
  refine V.ixQ 12000 Tryz.runUnderlying49 Tryz.sizeOf3 rfl ha_p (by omega) (_) (rfl) rfl (Vs 2 rfl ?_)
  refine V.ixQ 13000 Tryz.runUnderlying49 Tryz.sizeOf3 rfl ha_q (by omega) (_) (rfl) rfl (Va 3 rfl (by omega) ?_)
  refine V.ixQ 12000 Tryz.runUnderlying49 Tryz.sizeOf3 rfl ha_p (by omega) (_) (rfl) rfl (Vs 2 rfl ?_)
  refine V.ixQ 15000 Tryz.runUnderlying49 Tryz.sizeOf3 rfl ha_s (by omega) (_) (rfl) rfl (Va 3 rfl (by omega) ?_)
  refine V.ixQ 14000 Tryz.runUnderlying49 Tryz.sizeOf3 rfl ha_r (by omega) (_) (rfl) rfl (Vs 2 rfl ?_)
  refine V.ixQ 13000 Tryz.runUnderlying49 Tryz.sizeOf3 rfl ha_q (by omega) (_) (rfl) rfl (Va 3 rfl (by omega) ?_)
  refine V.ixQ 14000 Tryz.runUnderlying49 Tryz.sizeOf3 rfl ha_r (by omega) (_) (rfl) rfl (Vs 2 rfl ?_)
  refine V.ixQ 15000 Tryz.runUnderlying49 Tryz.sizeOf3 rfl ha_s (by omega) (_) (rfl) rfl (Va 12 rfl (by omega) (V.call1 Tryz.call40 rfl (fun w hI => refLeast_ok _ _ w) (Vs 2 rfl (V.call1 Tryz.call40 rfl (fun w hI => refLeast_ok _ _ w) (V.call1 Tryz.call40 rfl (fun w hI => refLeast_ok _ _ w) (Vs 2 rfl (V.call1 Tryz.call39 rfl (fun w hI => refMost_ok _ _ w) (Vs 2 rfl (V.call1 Tryz.call39 rfl (fun w hI => refMost_ok _ _ w) (V.call1 Tryz.call39 rfl (fun w hI => refMost_ok _ _ w) (Vs 7 rfl (V.ret2 Tryz.results108 rfl rfl (fun w hI => (same hI.k0 (by simp [spanOf, h10, x, y, cornersI, hullL])))))))))))))))
 refine Vs 6 rfl (V.ite rfl (fun h11 => ?_) (fun h11 => ?_))
 ·
  have hl := hn.k2 (by omega)
  refine V.elI 16000 0 0 (by omega) hlo rfl rfl (fun p b_p o_p he_p hm_p ha_p => (V.elI 17000 0 1 (by omega) hlo rfl rfl (fun q b_q o_q he_q hm_q ha_q => ?_)))
  refine V.elI 18000 0 0 (by omega) hhi rfl rfl (fun r b_r o_r he_r hm_r ha_r => (V.elI 19000 0 1 (by omega) hhi rfl rfl (fun s b_s o_s he_s hm_s ha_s => ?_)))
  have x := hg he_p he_r
  have y := hg he_q he_s
  have hm : max (if p < 0 then -p else p) (if r < 0 then -r else r) = max r (-p) := by split <;> split <;> omega
  refine Vs 1 rfl (Vw [5, 16000, 17000, 18000, 19000] [] rfl (Vd [0, 4] 0 (by kernel_rfl) rfl rfl rfl ?_))
  refine VD.ix 1 16000 Tryz.runUnderlying49 Tryz.sizeOf3 rfl (by kernel_rfl) rfl ha_p (by omega) (_) (rfl) rfl (Vd [2] 0 (by kernel_rfl) rfl rfl rfl ?_)
  refine VD.ix 5 18000 Tryz.runUnderlying49 Tryz.sizeOf3 rfl (by kernel_rfl) rfl ha_r (by omega) (_) (rfl) rfl (Vd [6] 0 (by kernel_rfl) rfl rfl rfl (VD.call1 3 0 Tryz.call133 rfl (by kernel_rfl) rfl rfl (fun w hI => refSize1_ok p w (by omega)) (VD.call1 7 0 Tryz.call133 rfl (by kernel_rfl) rfl rfl (fun w hI => refSize1_ok r w (by omega)) (VD.call1 8 0 Tryz.call39 rfl (by kernel_rfl) rfl rfl (fun w hI => refMost_ok _ _ w) ?_))))
  rw [hm]
  refine Vd [9] 0 (by kernel_rfl) rfl rfl rfl (VD.done (by kernel_rfl) (Vs 5 rfl ?_))
  refine V.ix 16000 Tryz.runUnderlying49 Tryz.sizeOf3 rfl ha_p (by omega) (_) (rfl) rfl (Vs 3 rfl (V.sp 149 rfl (fun p0 => ?_) (fun p0 => ?_)))
  ·
   refine Vs 1 rfl ?_
   refine V.ix 17000 Tryz.runUnderlying49 Tryz.sizeOf3 rfl ha_q (by omega) (_) (rfl) rfl (Vs 5 rfl (V.ite rfl (fun p1 => ?_) (fun p1 => ?_)))
   · refine Vs 11 rfl (V.ret2 Tryz.results108 rfl rfl (fun w hI => (same hI.k0 (by simp [spanOf, h11, x, y, p0, p1]))))
   refine Va 14 rfl (by omega) (V.ret2 Tryz.results108 rfl rfl (fun w hI => (same hI.k0 (by simp [spanOf, h11, x, y, p0, p1]))))
  refine Va 22 rfl (by omega) (V.ret2 Tryz.results108 rfl rfl (fun w hI => (same hI.k0 (by simp [spanOf, h11, x, y, p0]))))
 refine Vs 6 rfl (V.ite rfl (fun h12 => ?_) (fun h12 => ?_))
 ·
  have hl := hn.k2 (by omega)
  refine V.elI 20000 0 1 (by omega) hlo rfl rfl (fun q b_q o_q he_q hm_q ha_q => (V.elI 21000 0 1 (by omega) hhi rfl rfl (fun s b_s o_s he_s hm_s ha_s => ?_)))
  have y := hg he_q he_s
  refine Vs 1 rfl (Vw [5, 20000, 21000] [] rfl (Vd [0, 3] 0 (by kernel_rfl) rfl rfl rfl ?_))
  refine VD.ix 1 20000 Tryz.runUnderlying49 Tryz.sizeOf3 rfl (by kernel_rfl) rfl ha_q (by omega) (_) (rfl) rfl (Vd [2] 0 (by kernel_rfl) rfl rfl rfl ?_)
  refine VD.ix 4 21000 Tryz.runUnderlying49 Tryz.sizeOf3 rfl (by kernel_rfl) rfl ha_s (by omega) (_) (rfl) rfl (Vd [5] 0 (by kernel_rfl) rfl rfl rfl (VD.call1 6 0 Tryz.call134 rfl (by kernel_rfl) rfl rfl (fun w hI => refModSpan_ok q s w (by omega) (by omega)) (Vd [7, 8, 9, 10] 0 (by kernel_rfl) rfl rfl rfl (VD.done (by kernel_rfl) (Vs 4 rfl (V.ret2 Tryz.results108 rfl rfl (fun w hI => (same hI.k0 (by simp [spanOf, h12, y])))))))))
 refine Vs 6 rfl (V.ite rfl (fun h21 => ?_) (fun h21 => ?_))
 ·
  have hl := hn.k2 (by omega)
  refine V.elI 22000 0 0 (by omega) hlo rfl rfl (fun p b_p o_p he_p hm_p ha_p => (V.elI 23000 0 1 (by omega) hlo rfl rfl (fun q b_q o_q he_q hm_q ha_q => ?_)))
  refine V.elI 24000 0 0 (by omega) hhi rfl rfl (fun r b_r o_r he_r hm_r ha_r => (V.elI 25000 0 1 (by omega) hhi rfl rfl (fun s b_s o_s he_s hm_s ha_s => ?_)))
  have x := hg he_p he_r
  have y := hg he_q he_s
  refine Vs 1 rfl (Vw [5, 22000, 23000, 24000, 25000] [] rfl (Vd [0, 3, 7, 10] 0 (by kernel_rfl) rfl rfl rfl ?_))
  refine VD.ix 1 22000 Tryz.runUnderlying49 Tryz.sizeOf3 rfl (by kernel_rfl) rfl ha_p (by omega) (_) (rfl) rfl (Vd [2] 0 (by kernel_rfl) rfl rfl rfl ?_)
  refine VD.ix 4 23000 Tryz.runUnderlying49 Tryz.sizeOf3 rfl (by kernel_rfl) rfl ha_q (by omega) (_) (rfl) rfl (Vd [5] 0 (by kernel_rfl) rfl rfl rfl ?_)
  refine VD.ix 8 24000 Tryz.runUnderlying49 Tryz.sizeOf3 rfl (by kernel_rfl) rfl ha_r (by omega) (_) (rfl) rfl (Vd [9] 0 (by kernel_rfl) rfl rfl rfl ?_)
  refine VD.ix 11 25000 Tryz.runUnderlying49 Tryz.sizeOf3 rfl (by kernel_rfl) rfl ha_s (by omega) (_) (rfl) rfl (Vd [12] 0 (by kernel_rfl) rfl rfl rfl (VD.call1 6 0 Tryz.call40 rfl (by kernel_rfl) rfl rfl (fun w hI => refLeast_ok _ _ w) (VD.call1 13 0 Tryz.call40 rfl (by kernel_rfl) rfl rfl (fun w hI => refLeast_ok _ _ w) (Vd [14, 15] 0 (by kernel_rfl) rfl rfl rfl (VD.done (by kernel_rfl) (Vs 4 rfl (V.ret2 Tryz.results108 rfl rfl (fun w hI => (same hI.k0 (by simp [spanOf, h21, x, y]))))))))))
 refine Vs 6 rfl (V.ite rfl (fun h22 => ?_) (fun h22 => ?_))
 ·
  have hl := hn.k2 (by omega)
  refine V.elI 26000 0 0 (by omega) hlo rfl rfl (fun p b_p o_p he_p hm_p ha_p => (V.elI 27000 0 1 (by omega) hlo rfl rfl (fun q b_q o_q he_q hm_q ha_q => ?_)))
  refine V.elI 28000 0 0 (by omega) hhi rfl rfl (fun r b_r o_r he_r hm_r ha_r => (V.elI 29000 0 1 (by omega) hhi rfl rfl (fun s b_s o_s he_s hm_s ha_s => ?_)))
  have x := hg he_p he_r
  have y := hg he_q he_s
  refine Vs 1 rfl (Vw [5, 26000, 27000, 28000, 29000] [] rfl (Vd [0, 3, 7, 10] 0 (by kernel_rfl) rfl rfl rfl ?_))
  refine VD.ix 1 26000 Tryz.runUnderlying49 Tryz.sizeOf3 rfl (by kernel_rfl) rfl ha_p (by omega) (_) (rfl) rfl (Vd [2] 0 (by kernel_rfl) rfl rfl rfl ?_)
  refine VD.ix 4 27000 Tryz.runUnderlying49 Tryz.sizeOf3 rfl (by kernel_rfl) rfl ha_q (by omega) (_) (rfl) rfl (Vd [5] 0 (by kernel_rfl) rfl rfl rfl ?_)
  refine VD.ix 8 28000 Tryz.runUnderlying49 Tryz.sizeOf3 rfl (by kernel_rfl) rfl ha_r (by omega) (_) (rfl) rfl (Vd [9] 0 (by kernel_rfl) rfl rfl rfl ?_)
  refine VD.ix 11 29000 Tryz.runUnderlying49 Tryz.sizeOf3 rfl (by kernel_rfl) rfl ha_s (by omega) (_) (rfl) rfl (Vd [12] 0 (by kernel_rfl) rfl rfl rfl (VD.call1 6 0 Tryz.call39 rfl (by kernel_rfl) rfl rfl (fun w hI => refMost_ok _ _ w) (VD.call1 13 0 Tryz.call39 rfl (by kernel_rfl) rfl rfl (fun w hI => refMost_ok _ _ w) (Vd [14, 15] 0 (by kernel_rfl) rfl rfl rfl (VD.done (by kernel_rfl) (Vs 4 rfl (V.ret2 Tryz.results108 rfl rfl (fun w hI => (same hI.k0 (by simp [spanOf, h22, x, y]))))))))))
 refine Vs 7 rfl (V.cutK (σ := Unit) [2, 3] [] [] rfl (fun e u => (202, .bool (decide (t.op = 23 ∨ t.op = 25))) :: e) (fun e u => e) (fun u => True) (fun _ => rfl) (fun _ => rfl) ?_ ?_)
 ·
  refine V.ite rfl (fun k1_ => ?_) (fun k1_ => ?_)
  · refine Vs 1 rfl (V.meet (()) (Sub.cons (by first | exact boolT (by omega) | exact boolF (by omega) | exact boolD (by omega)) (Sub.of rfl)) (Has.of rfl) (trivial) 0 rfl rfl)
  refine Vs 4 rfl (V.meet (()) (Sub.cons (by first | exact boolT (by omega) | exact boolF (by omega) | exact boolD (by omega)) (Sub.of rfl)) (Has.of rfl) (trivial) 0 rfl rfl)
 rintro u _
 refine Vs 1 rfl (V.ite rfl (fun p1 => ?_) (fun p1 => ?_))
 ·
  have hl := hn.k3 p1
  refine V.elI 30000 0 1 (by omega) hlo rfl rfl (fun q b_q o_q he_q hm_q ha_q => (V.elI 31000 0 1 (by omega) hhi rfl rfl (fun s b_s o_s he_s hm_s ha_s => ?_)))
  have y := hg he_q he_s
  refine Vs 1 rfl (Vq (by kernel_rfl) (Vs 1 rfl ?_))
  refine V.ixQ 30000 Tryz.runUnderlying49 Tryz.sizeOf3 rfl ha_q (by omega) (_) (rfl) rfl (Vs 2 rfl ?_)
  refine V.ixQ 31000 Tryz.runUnderlying49 Tryz.sizeOf3 rfl ha_s (by omega) (_) (rfl) rfl (Vs 12 rfl (V.loopK (σ := Nat) [2, 3] [] [] rfl (fun e k => (15, .int .i64 (hullL (q, s) ((ks.drop 2).take k)).1) :: (16, .int .i64 (hullL (q, s) ((ks.drop 2).take k)).2) :: (17, .int .i64 (k + 2 : Nat)) :: e) (fun e k => e) (fun k => k + 2 ≤ ks.length) (fun k => ks.length - k) (0) (Sub.of rfl) (Has.of rfl) (fun _ => rfl) (fun _ => rfl) (fun _ => rfl) (by omega) ?_))
  rintro k hk2
  refine Vs 9 rfl (V.ite rfl (fun hlt => ?_) (fun hlt => ?_))
  ·
   refine V.elI 32000 0 (k + 2) (by omega) hlo rfl rfl (fun z b_z o_z he_z hm_z ha_z => (V.elI 33000 0 (k + 2) (by omega) hhi rfl rfl (fun y b_y o_y he_y hm_y ha_y => ?_)))
   have htk := hullL_take (x := (q, s)) (show (ks.drop 2)[k]? = some (z, y) by rw [List.getElem?_drop, Nat.add_comm]; exact at2_of he_z he_y)
   refine Vs 4 rfl (Vw [32000, 33000] [] rfl (Vd [0, 1, 2, 6, 7, 8] 0 (by kernel_rfl) rfl rfl rfl ?_))
   refine VD.ix 3 32000 Tryz.runUnderlying49 Tryz.sizeOf3 rfl (by kernel_rfl) rfl ha_z (by omega) (_) (rfl) rfl (Vd [4] 0 (by kernel_rfl) rfl rfl rfl ?_)
   refine VD.ix 9 33000 Tryz.runUnderlying49 Tryz.sizeOf3 rfl (by kernel_rfl) rfl ha_y (by omega) (_) (rfl) rfl (Vd [10] 0 (by kernel_rfl) rfl rfl rfl (VD.call1 5 0 Tryz.call40 rfl (by kernel_rfl) rfl rfl (fun w hI => refLeast_ok _ _ w) (VD.call1 11 0 Tryz.call39 rfl (by kernel_rfl) rfl rfl (fun w hI => refMost_ok _ _ w) (Vd [12, 13] 0 (by kernel_rfl) rfl rfl rfl (VD.done (by kernel_rfl) (Va 7 rfl (by omega) (V.back (k + 1) (Sub.cons (by rw [htk]; rfl) (Sub.cons (by rw [htk]; rfl) (Sub.cons (rfl) (Sub.of rfl)))) (Has.of rfl) (by omega) (by first | omega | (dsimp only; omega)) 0 rfl rfl)))))))
  obtain rfl : k = ks.length - 2 := by omega
  refine Vs 16 rfl (V.ret2 Tryz.results108 rfl rfl (fun w hI => (same hI.k0 (by rw [← List.length_drop, List.take_length]; simp [spanOf, h0, h24, h6, h8, h9, h10, h11, h12, h21, h22, p1, y]))))
 refine Vs 10 rfl (V.ret2 Tryz.results108 rfl rfl (fun w hI => (same hI.k0 (by simp [spanOf, h0, h24, h6, h8, h9, h10, h11, h12, h21, h22, p1]))))
open Go.GL
def encI (x : Int) : List Value := [.int .i64 x]
theorem encI_len (x : Int) : (encI x).length = 1 := rfl
theorem flatI_len (l : List Int) : (l.flatMap encI).length = l.length * 1 := flat_len encI_len l
theorem mapI (l : List Int) : l.map (Value.int .i64) = l.flatMap encI := map_flat l
theorem refRange_ok (vs : List Vr) (inp : Bool) (vv : Value) (Dv : Nat → Prop) (hvb : ∀ v ∈ vs, Good (v.low, v.high)) (t : Tm) : ∀ (cs : List Value) (D : Nat → Prop) (w : World), SlR 5 RVr Dv w vv vs → RTm D w t cs → formedT vs inp t = true → t.nodes ≤ 1000000 →
  Calls Tryz.prog 78 #[vv, .agg cs.toArray] w (Ret fun r w' => (∃ a b : Int, r = .tuple #[.int .i64 a, .int .i64 b, .bool (rng vs t).isSome] ∧ ∀ x, rng vs t = some x → (a, b) = x) ∧ Ext w w') := by
 induction t using Tm.ind with
 | h t ih =>
 intro cs D w hvs ht hf hsz
 rw [formedT_eq, Bool.and_eq_true, Bool.and_eq_true] at hf
 have hlen := tlen_le t.kids
 have hse := t.nodes_eq
 obtain ⟨v, rfl, hk⟩ := ht.get
 obtain ⟨ao, cap, rfl⟩ := hk.form
 obtain ⟨av, nv, rfl⟩ := hvs.form
 refine G.in2 Tryz.func78 rfl Tryz.ntmps78 rfl (V.inn (Vs 2 rfl (V.box 3 rfl rfl (fun b3 => ?_))))
 refine Vs 7 rfl (V.bs0 15 Tryz.runUnderlying49 Tryz.sizeOf3 rfl (fun b15 => ?_))
 refine Vs 5 rfl (V.bs0 16 Tryz.runUnderlying49 Tryz.sizeOf3 rfl (fun b16 => ?_))
 refine Vs 10 rfl (V.loopK (σ := Nat × List Rg × Value × Value) [0, 3] [3] [3] rfl (fun e ⟨i, l, vl, vh⟩ => (7, vl) :: (8, vh) :: (9, .int .i64 i) :: e) (fun e ⟨i, l, vl, vh⟩ => (15, .row 3 1 vl l.length ((l.map Prod.fst).map (Value.int .i64))) :: (16, .row 3 1 vh l.length ((l.map Prod.snd).map (Value.int .i64))) :: e) (fun ⟨i, l, vl, vh⟩ => i ≤ t.kids.length ∧ rngL vs (t.kids.take i) = some l) (fun ⟨i, l, vl, vh⟩ => t.kids.length - i) ((0, [], _, _)) (Sub.of rfl) (Has.of rfl) (fun _ => rfl) (fun _ => rfl) (fun _ => rfl) (⟨Nat.zero_le _, by rw [List.take_zero]; rfl⟩) ?_)
 rintro ⟨i, l, vl, vh⟩ ⟨hi, hl⟩
 show V _ _ _ _ _ ((7, vl) :: (8, vh) :: (9, .int .i64 i) :: _) _ ((15, .row 3 1 vl l.length ((l.map Prod.fst).map (Value.int .i64))) :: (16, .row 3 1 vh l.length ((l.map Prod.snd).map (Value.int .i64))) :: _) _
 refine Vs 10 rfl (V.ite rfl (fun hlt => ?_) (fun hlt => ?_))
 ·
  refine Vs 10 rfl (V.elG 1000 0 i (by omega) hk rfl rfl rfl (fun k b_k o_k c_k he_k hm_k ha_k hR_k => ?_))
  obtain ⟨v1_k, rfl, hk_k⟩ := hR_k.get
  obtain ⟨a1_k, n1_k, rfl⟩ := hk_k.form
  refine V.ix 1000 Tryz.runUnderlying68 Tryz.sizeOf70 rfl ha_k (by omega) (_) (rfl) rfl ?_
  have hsp := tnodes_split he_k
  have hll := rngL_len _ _ hl
  rw [List.length_take] at hll
  refine Vs 1 rfl (V.call2 Tryz.call78 rfl (fun w hI => (ih k hm_k _ D w (Tr1 hI.k0 hvs) (RTm.put (Tr1 hI.k0 hk_k)) (formedL_mem hf.2 hm_k) (by omega))) ?_)
  rintro r w1 w2 hI1 hk12 ⟨ka, kb, rfl, hval⟩ hlow
  refine Vs 13 rfl (V.ops1 rfl (fun w hI => R.notU rfl (by first | exact not_decide_eq | rfl)) (Vs 2 rfl (V.bool rfl (fun hb => ?_) (fun hb => ?_))))
  ·
   have hb' : rng vs k = none := by cases h : rng vs k <;> simp [h] at hb ⊢
   have hnone : rng vs t = none := by rw [rng_eq, rngL_none he_k hb']; rfl
   refine Vs 14 rfl (V.ret3 Tryz.results78 rfl rfl rfl (fun w hI => ⟨_, rfl, ⟨0, 0, by rw [hnone]; rfl, fun x hx => by rw [hnone] at hx; cases hx⟩, hI.k1⟩))
  obtain ⟨x, hx⟩ : ∃ x, rng vs k = some x := by cases h : rng vs k with
   | none => simp [h] at hb
   | some x => exact ⟨x, rfl⟩
  have hxv := hval x hx
  subst hxv
  refine Vs 6 rfl (V.bs 39 [(0, _)] Tryz.runUnderlying49 Tryz.sizeOf3 Tryz.zeroValue3 (by decide) rfl rfl (by kernel_rfl) (fun b39 => ?_))
  refine V.ap 15 39 Tryz.underlying49 Tryz.el3 rfl (by decide) rfl rfl (by omega) (by omega) (fun u15 => (Vs 6 rfl (V.bs 43 [(0, _)] Tryz.runUnderlying49 Tryz.sizeOf3 Tryz.zeroValue3 (by decide) rfl rfl (by kernel_rfl) (fun b43 => ?_))))
  refine V.ap 16 43 Tryz.underlying49 Tryz.el3 rfl (by decide) rfl rfl (by omega) (by omega) (fun u16 => (Vs 4 rfl (V.heq 15 rfl (e' := .row 3 1 u15 (l ++ [(ka, kb)]).length (((l ++ [(ka, kb)]).map Prod.fst).map (Value.int .i64))) (by simp) (V.heq 16 rfl (e' := .row 3 1 u16 (l ++ [(ka, kb)]).length (((l ++ [(ka, kb)]).map Prod.snd).map (Value.int .i64))) (by simp) (Va 5 rfl (by omega) (V.back (⟨i + 1, l ++ [(ka, kb)], u15, u16⟩) (Sub.of rfl) (Has.of rfl) (⟨by omega, rngL_take he_k hl hx⟩) (by first | omega | (dsimp only; omega)) 1 rfl rfl))))))
 obtain rfl : i = t.kids.length := by omega
 rw [List.take_length] at hl
 have hll := rngL_len _ _ hl
 have hn : NodeOk vs t.op t.n l := nodeOk_of hll hf.1.1 hf.1.2 (fun x hx => by
  obtain ⟨k, hk, hkx⟩ := rngL_mem _ _ hl x hx
  exact rng_good hvb k (formedL_mem hf.2 hk) x hkx) hvb
 have hrg : rng vs t = if okR (spanOf vs t.op t.n l) then some (spanOf vs t.op t.n l) else none := by rw [rng_eq, hl]; rfl
 refine Vs 11 rfl (V.call2 Tryz.call108 rfl (fun w hI => (refSpan_ok vs t l _ vl vh _ Dv D (fun _ => True) (fun _ => True) w (Tr1 hI.k0 hvs) (RTm.put (Tr1 hI.k0 hk)) (by have h := SlR.ofRow1 (R := RInt) (Value.int .i64) (fun _ _ => rfl) (hI.at 15 rfl) (fun _ _ => trivial); exact h) (by have h := SlR.ofRow1 (R := RInt) (Value.int .i64) (fun _ _ => rfl) (hI.at 16 rfl) (fun _ _ => trivial); exact h) hn)) ?_)
 rintro r w1 w2 hI1 hk12 ⟨a, c, rfl, hok, hval⟩ hlow
 have hso : (rng vs t).isSome = okR (a, c) := by rw [hrg, hok]; cases okR (spanOf vs t.op t.n l) <;> rfl
 have hvv : ∀ x, rng vs t = some x → (a, c) = x := by
  intro x hx
  have h1 : okR (a, c) = true := by rw [← hso, hx]; rfl
  rw [hrg, ← hok, h1, if_pos rfl] at hx
  rw [hval h1]
  exact Option.some.inj hx
 refine Vs 14 rfl (V.sp 57 rfl (fun g1 => ?_) (fun g1 => ?_))
 ·
  have ho : okR (a, c) = decide (c ≤ 1048576) := by unfold okR; congr 1; simp; omega
  refine Vs 9 rfl (V.ret3 Tryz.results78 rfl rfl rfl (fun w hI => ⟨_, rfl, ⟨a, c, by rw [hso, ho] <;> rfl, hvv⟩, hI.k1⟩))
 have ho : okR (a, c) = false := by unfold okR; exact decide_eq_false (by dsimp only; omega)
 refine Vs 9 rfl (V.ret3 Tryz.results78 rfl rfl rfl (fun w hI => ⟨_, rfl, ⟨a, c, by rw [hso, ho] <;> rfl, hvv⟩, hI.k1⟩))
def termCodeN (vs : List Vr) (inp : Bool) (t : Tm) : Int := if formedT vs inp t then (if (rng vs t).isSome then 0 else 3) else 1
theorem refCheckTerm_ok (vs : List Vr) (inp : Bool) (vv : Value) (cs : List Value) (Dv D : Nat → Prop) (w : World) (t : Tm) (hvb : ∀ v ∈ vs, Good (v.low, v.high)) (hvs : SlR 5 RVr Dv w vv vs) (ht : RTm D w t cs) (hsz : t.nodes ≤ 1000000) : Calls Tryz.prog 36 #[vv, .agg cs.toArray, .bool inp] w (Ret fun r w' => r = .int .i64 (termCodeN vs inp t) ∧ Ext w w') := by
 obtain ⟨v, rfl, hk⟩ := ht.get
 have hE := Keep.refl (fun _ => False) w
 refine G.in3 Tryz.func36 rfl Tryz.ntmps36 rfl (Gs 2 rfl (G.mem rfl rfl (M.box rfl rfl) ?_))
 rintro _ w_b ⟨b, rfl, hg_b, hs_b, hB_b, hk_b⟩
 have hge_b : _ ≤ b := Nat.le_trans hE.size (Nat.le_of_eq hg_b.symm)
 obtain ⟨hE, hvs, hk⟩ := Tr3 hk_b hE hvs hk
 refine Gs 7 rfl (G.ldK rfl Tryz.isAgg70 Tryz.sizeOf70 hB_b.cells rfl (Gs 1 rfl (G.call rfl Tryz.call77 (refFormed_ok vs inp vv Dv t _ D _ hvs (RTm.put hk)) ?_)))
 rintro _ wz1 ⟨rfl, hz1⟩
 obtain ⟨hE, hvs, hk, hB_b⟩ := Tr4 hz1 hE hvs hk hB_b
 refine G.ops1 rfl rfl (R.notU rfl (by first | exact not_decide_eq | rfl)) (Gs 2 rfl (G.bool rfl (fun hf => ?_) (fun hf => ?_)))
 ·
  have hf' : formedT vs inp t = false := by simpa using hf
  refine Gs 7 rfl (G.ret1 Tryz.results36 rfl ⟨_, rfl, by rw [termCodeN, hf']; rfl, hE⟩)
 have hf' : formedT vs inp t = true := by simpa using hf
 refine Gs 5 rfl (G.ldK rfl Tryz.isAgg70 Tryz.sizeOf70 hB_b.cells rfl (G.call rfl Tryz.call78 (refRange_ok vs inp vv Dv hvb t _ D _ hvs (RTm.put hk) hf' hsz) ?_))
 rintro _ wz2 ⟨⟨a, c, rfl, _⟩, hz2⟩
 obtain ⟨hE, hvs, hk, hB_b⟩ := Tr4 hz2 hE hvs hk hB_b
 refine Gs 13 rfl (G.ops1 rfl rfl (R.notU rfl (by first | exact not_decide_eq | rfl)) (Gs 2 rfl (G.bool rfl (fun ho => ?_) (fun ho => ?_))))
 ·
  have ho' : (rng vs t).isSome = false := by simpa using ho
  refine Gs 7 rfl (G.ret1 Tryz.results36 rfl ⟨_, rfl, by rw [termCodeN, hf', ho']; rfl, hE⟩)
 have ho' : (rng vs t).isSome = true := by simpa using ho
 refine Gs 8 rfl (G.ret1 Tryz.results36 rfl ⟨_, rfl, by rw [termCodeN, hf', ho']; rfl, hE⟩)
theorem termCode_ok (vs : List Vr) (inp : Bool) (vv : Value) (cs : List Value) (Dv D : Nat → Prop) (w : World) (t : Tm) (hvb : ∀ v ∈ vs, Good (v.low, v.high)) (hvs : SlR 5 RVr Dv w vv vs) (ht : RTm D w t cs) (hsz : t.nodes ≤ 1000000) : Calls Tryz.prog 87 #[vv, .agg cs.toArray, .bool inp] w (Ret fun r w' => r = .int .i64 (termCodeN vs inp t) ∧ Ext w w') := by
 obtain ⟨v, rfl, hk⟩ := ht.get
 have hE := Keep.refl (fun _ => False) w
 refine G.in3 Tryz.func87 rfl Tryz.ntmps87 rfl (Gs 2 rfl (G.mem rfl rfl (M.box rfl rfl) ?_))
 rintro _ w_b ⟨b, rfl, hg_b, hs_b, hB_b, hk_b⟩
 have hge_b : _ ≤ b := Nat.le_trans hE.size (Nat.le_of_eq hg_b.symm)
 obtain ⟨hE, hvs, hk⟩ := Tr3 hk_b hE hvs hk
 refine Gs 7 rfl (G.ldK rfl Tryz.isAgg70 Tryz.sizeOf70 hB_b.cells rfl (Gs 1 rfl (G.call rfl Tryz.call114 (flatFormed_ok vs inp vv Dv t _ D _ hvs (RTm.put hk)) ?_)))
 rintro _ wz1 ⟨rfl, hz1⟩
 obtain ⟨hE, hvs, hk, hB_b⟩ := Tr4 hz1 hE hvs hk hB_b
 refine G.ops1 rfl rfl (R.notU rfl (by first | exact not_decide_eq | rfl)) (Gs 2 rfl (G.bool rfl (fun hf => ?_) (fun hf => ?_)))
 ·
  have hf' : formedT vs inp t = false := by simpa using hf
  refine Gs 7 rfl (G.ret1 Tryz.results87 rfl ⟨_, rfl, by rw [termCodeN, hf']; rfl, hE⟩)
 have hf' : formedT vs inp t = true := by simpa using hf
 refine Gs 6 rfl (G.ldK rfl Tryz.isAgg70 Tryz.sizeOf70 hB_b.cells rfl (G.call rfl Tryz.call115 (ranged_ok vs inp vv Dv hvb t _ D _ hvs (RTm.put hk) hf' hsz) ?_))
 rintro _ wz2 ⟨⟨a, c, rfl, _⟩, hz2⟩
 obtain ⟨hE, hvs, hk, hB_b⟩ := Tr4 hz2 hE hvs hk hB_b
 refine Gs 3 rfl (G.mem rfl rfl (M.alloc (cs := _) Tryz.zeroValue174 rfl) ?_)
 rintro _ wa3 ⟨o, rfl, hg_o, hs_o, hB_o, hk_o⟩
 refine G.mem0 rfl (M.storeK Tryz.sizeOf174 rfl rfl rfl rfl (by simp [Value.oneCell']) hB_o (by simp)) ?_
 rintro w_o ⟨_, hB_o, hkk_o⟩
 replace hk_o := hk_o.trans hkk_o (fun q hq h => by have h : q = o := h; omega)
 have hn_b_o : b ≠ o := by have := hB_b.lt; omega
 have hge_o : _ ≤ o := Nat.le_trans hE.size (Nat.le_of_eq hg_o.symm)
 obtain ⟨hE, hvs, hk, hB_b⟩ := Tr4 hk_o hE hvs hk hB_b
 refine Gs 6 rfl (G.ops1 rfl rfl (R.notU rfl (by first | exact not_decide_eq | rfl)) (Gs 2 rfl (G.bool rfl (fun ho => ?_) (fun ho => ?_))))
 ·
  have ho' : (rng vs t).isSome = false := by simpa using ho
  refine Gs 7 rfl (G.ret1 Tryz.results87 rfl ⟨_, rfl, by rw [termCodeN, hf', ho']; rfl, hE⟩)
 have ho' : (rng vs t).isSome = true := by simpa using ho
 refine Gs 8 rfl (G.ret1 Tryz.results87 rfl ⟨_, rfl, by rw [termCodeN, hf', ho']; rfl, hE⟩)
def spaceF (k : Int) : List Vr → Int → Option Int
 | [], n => some n
 | v :: r, n => if v.kind = k then (if 4096 < n * (v.high - v.low + 1) then none else spaceF k r (n * (v.high - v.low + 1))) else spaceF k r n
def spaceN (k : Int) (vs : List Vr) : Option Int := spaceF k vs 1
theorem spaceF_append (k : Int) : ∀ (a b : List Vr) (n : Int), spaceF k (a ++ b) n = (spaceF k a n).bind (spaceF k b)
 | [], b, n => rfl
 | v :: r, b, n => by
  simp only [List.cons_append, spaceF]
  split
  ·
   split
   · rfl
   exact spaceF_append k r b _
  exact spaceF_append k r b _
theorem spaceF_pos (k : Int) : ∀ (a : List Vr) (n m : Int), (∀ v ∈ a, Good (v.low, v.high)) → 1 ≤ n → n ≤ 4096 → spaceF k a n = some m → 1 ≤ m ∧ m ≤ 4096
 | [], n, m, _, h1, h2, h => by simp [spaceF] at h; omega
 | v :: r, n, m, hg, h1, h2, h => by
  have hv := hg v (List.mem_cons_self ..)
  have hr := fun x hx => hg x (List.mem_cons_of_mem _ hx)
  unfold Good at hv
  simp only [spaceF] at h
  split at h
  ·
   split at h
   · cases h
   rename_i h3
   refine spaceF_pos k r _ m hr ?_ (by omega) h
   have : (1 : Int) * 1 ≤ n * (v.high - v.low + 1) := Int.mul_le_mul h1 (by dsimp only at hv; omega) (by omega) (by omega)
   omega
  exact spaceF_pos k r n m hr h1 h2 h
theorem prod_le {n s : Int} (h1 : 1 ≤ n) (h2 : n ≤ 4096) (h3 : 1 ≤ s) (h4 : s ≤ 2097153) : 1 ≤ n * s ∧ n * s ≤ 4096 * 2097153 := by
 have a : (1 : Int) * 1 ≤ n * s := Int.mul_le_mul h1 h3 (by omega) (by omega)
 have b : n * s ≤ 4096 * 2097153 := Int.mul_le_mul h2 h4 (by omega) (by omega)
 omega
theorem refSpace17_ok (vs : List Vr) (k : Int) (vv : Value) (D : Nat → Prop) (w : World) (hg : ∀ v ∈ vs, Good (v.low, v.high)) (hvs : SlR 5 RVr D w vv vs) : Calls Tryz.prog 76 #[vv, .int .i64 k] w (Ret fun r w' => r = .int .i64 ((spaceN k vs).getD 4097) ∧ Ext w w') := by
 have hmx := hvs.max
 obtain ⟨av, nv, rfl⟩ := hvs.form
 refine G.in2 Tryz.func76 rfl Tryz.ntmps76 rfl (Gs 17 rfl (G.loop (σ := Nat × Int) (fun ⟨i, n⟩ => [(0, .slice av vs.length nv), (1, .int .i64 k), (5, .int .i64 n), (6, .int .i64 i)]) (fun ⟨i, n⟩ => fun w' => i ≤ vs.length ∧ spaceF k (vs.take i) 1 = some n ∧ Ext w w') (fun ⟨i, n⟩ => vs.length - i) ((0, 1)) (Sub.of rfl) (⟨Nat.zero_le _, rfl, Keep.refl _ _⟩) ?_))
 rintro ⟨i, n⟩ w1 ⟨hi, hs, hL1⟩
 show G _ _ _ _ _ [(0, .slice av vs.length nv), (1, .int .i64 k), (5, .int .i64 n), (6, .int .i64 i)] _
 replace hvs := Tr1 hL1 hvs
 have hn := spaceF_pos k (vs.take i) 1 n (fun v hv => hg v (List.mem_of_mem_take hv)) (by omega) (by omega) hs
 refine Gs 9 rfl (G.ite rfl (fun hlt => ?_) (fun hlt => ?_))
 ·
  obtain ⟨x, he_x⟩ : ∃ x, vs[i]? = some x := ⟨_, List.getElem?_eq_getElem (by omega)⟩
  have hm_x := List.mem_of_getElem? he_x
  obtain ⟨b_x, o_x, c_x, ha_x, _, hc_x, hR_x⟩ := hvs.at he_x
  have h1_x := RVr.one hR_x
  obtain rfl := hR_x
  have hlt_x : b_x < _ := World.block_lt_of_cell? _ _ (hc_x 0 _ rfl)
  have hgx := hg x hm_x
  unfold Good at hgx
  dsimp only at hgx
  have hp := prod_le (n := n) (s := x.high - x.low + 1) hn.1 hn.2 (by omega) (by omega)
  have hst : spaceF k (vs.take (i + 1)) 1 = if x.kind = k then (if 4096 < n * (x.high - x.low + 1) then none else some (n * (x.high - x.low + 1))) else some n := by
   rw [take_get he_x, spaceF_append, hs]; simp [spaceF]
  have hbad : spaceF k (vs.take (i + 1)) 1 = none → spaceN k vs = none := by
   intro h
   unfold spaceN
   rw [← List.take_append_drop (i + 1) vs, spaceF_append, h]; rfl
  refine Gs 9 rfl (G.ops1 rfl rfl (R.indexS Tryz.runUnderlying22 Tryz.sizeOf96 rfl rfl ha_x (by omega)) (Gs 1 rfl (G.ld rfl Tryz.isAgg57 (hc_x 1 _ rfl) (Gs 4 rfl (G.ite rfl (fun hk => ?_) (fun hk => ?_))))))
  · refine Ga 9 rfl (by omega) (G.back ((i + 1, n)) (Sub.of rfl) (⟨by omega, by rw [hst, if_neg hk], hL1⟩) (by first | omega | (dsimp only; omega)))
  have hk' : x.kind = k := Decidable.not_not.1 hk
  rw [if_pos hk'] at hst
  refine Gs 3 rfl (Qt (by kernel_rfl) (Gs 3 rfl (G.opQ rfl rfl (fun w1 hw1 => R.indexS Tryz.runUnderlying22 Tryz.sizeOf96 rfl rfl ha_x (by omega)) (Gs 1 rfl (G.ldQ rfl Tryz.isAgg3 (fun w1 hw1 => ((hw1.cells hc_x (fun h => h)) 3 _ rfl)) (Gs 2 rfl (G.opQ rfl rfl (fun w1 hw1 => R.indexS Tryz.runUnderlying22 Tryz.sizeOf96 rfl rfl ha_x (by omega)) (Gs 1 rfl (G.ldQ rfl Tryz.isAgg3 (fun w1 hw1 => ((hw1.cells hc_x (fun h => h)) 2 _ rfl)) (Ga 4 rfl (by omega) (G.nilQ (fun wz1 hz1 => ?_))))))))))))
  obtain ⟨hvs, hL1, hc_x⟩ := Tr3 hz1 hvs hL1 hc_x
  refine Gs 7 rfl (G.ite rfl (fun hb => ?_) (fun hb => ?_))
  ·
   rw [if_pos hb] at hst
   refine Gs 11 rfl (G.ret1 Tryz.results76 rfl ⟨_, rfl, by rw [hbad hst]; rfl, hL1⟩)
  refine Ga 8 rfl (by omega) (G.back ((i + 1, n * (x.high - x.low + 1))) (Sub.of rfl) (⟨by omega, by rw [hst, if_neg hb], hL1⟩) (by first | omega | (dsimp only; omega)))
 have : i = vs.length := by omega
 subst this
 rw [List.take_length] at hs
 refine Gs 12 rfl (G.ret1 Tryz.results76 rfl ⟨_, rfl, by rw [spaceN, hs]; rfl, hL1⟩)
theorem domSize_ok (v : Vr) (w : World) (hg : Good (v.low, v.high)) : Calls Tryz.prog 135 #[.agg #[.string v.name, .int .i64 v.kind, .int .i64 v.low, .int .i64 v.high, .int .i64 v.init]] w (Ret fun r w' => r = .int .i64 (v.high - v.low + 1) ∧ Ext w w') := by
 unfold Good at hg
 dsimp only at hg
 have hE := Keep.refl (fun _ => False) w
 refine G.in1 Tryz.func135 rfl Tryz.ntmps135 rfl (Gs 2 rfl (G.mem rfl rfl (M.box rfl rfl) ?_))
 rintro _ w_b ⟨b, rfl, hg_b, hs_b, hB_b, hk_b⟩
 have hge_b : _ ≤ b := Nat.le_trans hE.size (Nat.le_of_eq hg_b.symm)
 replace hE := Tr1 hk_b hE
 refine Gs 6 rfl (G.ld rfl Tryz.isAgg3 (hB_b.cells 3 _ rfl) (Gs 1 rfl (G.ld rfl Tryz.isAgg3 (hB_b.cells 2 _ rfl) (Ga 6 rfl (by omega) (G.ret1 Tryz.results135 rfl ⟨_, rfl, rfl, hE⟩)))))
def encV (v : Vr) : List Value := [.string v.name, .int .i64 v.kind, .int .i64 v.low, .int .i64 v.high, .int .i64 v.init]
theorem encV_len (v : Vr) : (encV v).length = 5 := rfl
theorem encV_one (v : Vr) : ∀ u ∈ encV v, u.oneCell' = true := by simp [encV, Value.oneCell']
def ofKind (k : Int) (vs : List Vr) : List Vr := vs.filter fun v => decide (v.kind = k)
theorem ofKind_take {k : Int} {vs : List Vr} {i : Nat} {x : Vr} (h : vs[i]? = some x) : ofKind k (vs.take (i + 1)) = ofKind k (vs.take i) ++ (if x.kind = k then [x] else []) := by
 unfold ofKind
 rw [take_get h, List.filter_append]
 congr 1
 by_cases e : x.kind = k <;> simp [e]
theorem ofKind_len (k : Int) (vs : List Vr) : (ofKind k vs).length ≤ vs.length := List.length_filter_le _ _
theorem spaceF_ofKind (k : Int) : ∀ (vs : List Vr) (n : Int), spaceF k (ofKind k vs) n = spaceF k vs n
 | [], n => rfl
 | v :: r, n => by
  unfold ofKind
  by_cases e : v.kind = k
  ·
   rw [List.filter_cons_of_pos (by simpa using e)]
   simp only [spaceF, e, if_true]
   split
   · rfl
   exact spaceF_ofKind k r _
  rw [List.filter_cons_of_neg (by simpa using e)]
  simp only [spaceF, e, if_false]
  exact spaceF_ofKind k r n
theorem chosen_ok (vs : List Vr) (k : Int) (vv : Value) (D : Nat → Prop) (w : World) (hk : 0 ≤ k ∧ k ≤ 3) (hg : ∀ v ∈ vs, Good (v.low, v.high)) (hvs : SlR 5 RVr D w vv vs) (hlen : vs.length ≤ 1000000) : Calls Tryz.prog 112 #[vv, .int .i64 k] w (Ret fun r w' => (∃ vl, r = .tuple #[vl, .int .i64 ((spaceN k vs).getD 0), .int .i64 (if (spaceN k vs).isSome then 0 else 4)] ∧ ((spaceN k vs).isSome = true → SlR 5 RVr (fun b => w.heap.size ≤ b) w' vl (ofKind k vs)) ∧ ((spaceN k vs).isSome = false → vl = .slice none 0 0)) ∧ Ext w w') := by
 obtain ⟨av, nv, rfl⟩ := hvs.form
 have hE := Keep.refl (fun _ => False) w
 refine G.in2 Tryz.func112 rfl Tryz.ntmps112 rfl (Gs 13 rfl (G.cut (σ := Unit) (fun u => [(0, .slice av vs.length nv), (1, .int .i64 k)]) (fun u => fun w' => w' = w) ?_ ?_))
 ·
  refine Gs 8 rfl (G.ite rfl (fun h0 => ?_) (fun h0 => ?_))
  · refine Gs 5 rfl (G.meet (()) (Sub.of rfl) (rfl))
  refine Gs 6 rfl (G.ite rfl (fun h1 => ?_) (fun h1 => ?_))
  · refine Gs 5 rfl (G.meet (()) (Sub.of rfl) (rfl))
  refine Gs 6 rfl (G.ite rfl (fun h2 => ?_) (fun h2 => ?_))
  · refine Gs 5 rfl (G.meet (()) (Sub.of rfl) (rfl))
  refine Gs 5 rfl (G.ite rfl (fun h3 => ?_) (fun h3 => ?_))
  · refine Gs 2 rfl (G.meet (()) (Sub.of rfl) (rfl))
  exact absurd hk (by omega)
 rintro u w1 hw1
 subst hw1
 refine Gs 14 rfl (G.cut (σ := Value) (fun vl => [(0, .slice av vs.length nv), (1, .int .i64 k), (7, vl)]) (fun vl => fun w' => w'.ownsRow 0 96 5 vl (ofKind k vs).length ((ofKind k vs).flatMap encV) ∧ (∀ q, vl.ownBlock = some q → w1.heap.size ≤ q) ∧ Ext w1 w') ?_ ?_)
 ·
  refine Gs 1 rfl (G.loop (σ := Nat × Value) (fun ⟨i, vl⟩ => [(0, .slice av vs.length nv), (1, .int .i64 k), (7, vl), (19, .slice av vs.length nv), (20, .int .i64 vs.length), (21, .int .i64 i)]) (fun ⟨i, vl⟩ => fun w' => i ≤ vs.length ∧ w'.ownsRow 0 96 5 vl (ofKind k (vs.take i)).length ((ofKind k (vs.take i)).flatMap encV) ∧ (∀ q, vl.ownBlock = some q → w1.heap.size ≤ q) ∧ Ext w1 w') (fun ⟨i, vl⟩ => vs.length - i) ((0, .slice none 0 0)) (Sub.of rfl) (⟨Nat.zero_le _, own_nil _ _ _, fun q hq => by simp [Value.ownBlock] at hq, Keep.refl _ _⟩) ?_)
  rintro ⟨i, vl⟩ w2 ⟨hi, hown, hfr, hL1⟩
  show G _ _ _ _ _ [(0, .slice av vs.length nv), (1, .int .i64 k), (7, vl), (19, .slice av vs.length nv), (20, .int .i64 vs.length), (21, .int .i64 i)] _
  obtain ⟨hE, hvs⟩ := Tr2 hL1 hE hvs
  refine Gs 6 rfl (G.ite rfl (fun hlt => ?_) (fun hlt => ?_))
  ·
   obtain ⟨x, he_x⟩ : ∃ x, vs[i]? = some x := ⟨_, List.getElem?_eq_getElem (by omega)⟩
   have hm_x := List.mem_of_getElem? he_x
   obtain ⟨b_x, o_x, c_x, ha_x, _, hc_x, hR_x⟩ := hvs.at he_x
   have h1_x := RVr.one hR_x
   obtain rfl := hR_x
   have hlt_x : b_x < _ := World.block_lt_of_cell? _ _ (hc_x 0 _ rfl)
   have hgx := hg x hm_x
   unfold Good at hgx
   dsimp only at hgx
   have hot := ofKind_take (k := k) he_x
   have hol := ofKind_len k (vs.take i)
   rw [List.length_take] at hol
   refine Gs 6 rfl (G.ops1 rfl rfl (R.indexS Tryz.runUnderlying22 Tryz.sizeOf96 rfl rfl ha_x (by omega)) (G.ldK rfl Tryz.isAgg96 Tryz.sizeOf96 hc_x rfl (G.mem rfl rfl (M.alloc (cs := _) Tryz.zeroValue96 rfl) ?_)))
   rintro _ wa1 ⟨c, rfl, hg_c, hs_c, hB_c, hk_c⟩
   refine G.mem0 rfl (M.storeK Tryz.sizeOf96 rfl rfl rfl rfl h1_x hB_c (by simp)) ?_
   rintro w_c ⟨_, hB_c, hkk_c⟩
   replace hk_c := hk_c.trans hkk_c (fun q hq h => by have h : q = c := h; omega)
   have hge_c : _ ≤ c := Nat.le_trans hE.size (Nat.le_of_eq hg_c.symm)
   obtain ⟨hE, hvs, hL1, hown, hc_x⟩ := Tr5 hk_c hE hvs hL1 hown hc_x
   refine Gs 6 rfl (G.ld rfl Tryz.isAgg57 (hB_c.cells 1 _ rfl) (Gs 4 rfl (G.ite rfl (fun hkx => ?_) (fun hkx => ?_))))
   ·
    rw [if_neg hkx, List.append_nil] at hot
    refine Ga 8 rfl (by omega) (G.back ((i + 1, vl)) (Sub.of rfl) (⟨by omega, by rw [hot]; exact hown, hfr, hL1⟩) (by first | omega | (dsimp only; omega)))
   have hkx' : x.kind = k := Decidable.not_not.1 hkx
   rw [if_pos hkx'] at hot
   refine Gs 6 rfl (G.ld rfl Tryz.isAgg3 (hB_c.cells 2 _ rfl) (Gs 1 rfl (G.ld rfl Tryz.isAgg3 (hB_c.cells 3 _ rfl) (Gs 2 rfl (G.sp 34 rfl (fun b0 => ?_) (fun b0 => ?_))))))
   · exact absurd b0 (by omega)
   refine Gs 1 rfl (G.ld rfl Tryz.isAgg3 (hB_c.cells 2 _ rfl) (Gs 3 rfl (G.sp 39 rfl (fun b1 => ?_) (fun b1 => ?_))))
   · exact absurd b1 (by omega)
   refine Gs 1 rfl (G.ld rfl Tryz.isAgg3 (hB_c.cells 3 _ rfl) (Gs 4 rfl (G.ite rfl (fun b2 => ?_) (fun b2 => ?_))))
   · exact absurd b2 (by omega)
   refine Gs 4 rfl (G.ldK rfl Tryz.isAgg96 Tryz.sizeOf96 hB_c.cells rfl (G.mem rfl rfl (M.buildSlice (cs := encV x) [(0, _)] Tryz.runUnderlying22 Tryz.sizeOf96 Tryz.zeroValue96 (by decide) rfl (by kernel_rfl)) ?_))
   rintro _ w5 ⟨b5, rfl, hg_b5, hs_b5, hB_b5, hk_b5⟩
   obtain ⟨hE, hvs, hL1, hown, hc_x, hB_c⟩ := Tr6 hk_b5 hE hvs hL1 hown hc_x hB_c
   refine G.mem rfl rfl (M.append Tryz.underlying22 Tryz.el96 rfl (by decide) rfl rfl hown rfl (Cells.add hB_b5.cells) (encV_one _) (by omega) (by omega)) ?_
   rintro vl' w6 ⟨hown6, hfr6, hk6, _⟩
   have hszL := hL1.size
   refine Ga 8 rfl (by omega) (G.back ((i + 1, vl')) (Sub.of rfl) (⟨by omega, ?_, ?_, hL1.trans hk6 (fun q hq h => by have := hfr q h; omega)⟩) (by first | omega | (dsimp only; omega)))
   ·
    rw [hot, List.length_append, List.flatMap_append]
    exact hown6
   intro q hq
   rcases hfr6 with h | ⟨q', h, h'⟩
   · exact hfr q (by rw [← h]; exact hq)
   rw [h] at hq; cases hq; omega
  have : i = vs.length := by omega
  subst this
  rw [List.take_length] at hown
  refine Gs 4 rfl (G.meet (vl) (Sub.of rfl) (⟨hown, hfr, hL1⟩))
 rintro vl w2 ⟨hown, hfr, hX⟩
 obtain ⟨hE, hvs⟩ := Tr2 hX hE hvs
 have hsl : SlR 5 RVr (fun b => w1.heap.size ≤ b) w2 vl (ofKind k vs) := SlR.ofRowK (by omega) encV encV_len (fun x _ => rfl) hown hfr
 obtain ⟨al, nl, rfl⟩ := hsl.form
 have hol := ofKind_len k vs
 have hgo : ∀ v ∈ ofKind k vs, Good (v.low, v.high) := fun v hv => hg v (List.mem_filter.1 hv).1
 have hsp : spaceF k (ofKind k vs) 1 = spaceN k vs := spaceF_ofKind k vs 1
 have hall : ∀ v ∈ ofKind k vs, v.kind = k := fun v hv => by simpa using (List.mem_filter.1 hv).2
 refine Gs 15 rfl (G.loop (σ := Nat × Int) (fun ⟨i, n⟩ => [(7, .slice al (ofKind k vs).length nl), (10, .int .i64 n), (49, .slice al (ofKind k vs).length nl), (50, .int .i64 (ofKind k vs).length), (51, .int .i64 i)]) (fun ⟨i, n⟩ => fun w' => i ≤ (ofKind k vs).length ∧ spaceF k ((ofKind k vs).take i) 1 = some n ∧ Ext w2 w') (fun ⟨i, n⟩ => (ofKind k vs).length - i) ((0, 1)) (Sub.of rfl) (⟨Nat.zero_le _, rfl, Keep.refl _ _⟩) ?_)
 rintro ⟨i, n⟩ w3 ⟨hi, hs, hL2⟩
 show G _ _ _ _ _ [(7, .slice al (ofKind k vs).length nl), (10, .int .i64 n), (49, .slice al (ofKind k vs).length nl), (50, .int .i64 (ofKind k vs).length), (51, .int .i64 i)] _
 obtain ⟨hE, hvs, hsl⟩ := Tr3 hL2 hE hvs hsl
 have hn := spaceF_pos k ((ofKind k vs).take i) 1 n (fun v hv => hgo v (List.mem_of_mem_take hv)) (by omega) (by omega) hs
 refine Gs 6 rfl (G.ite rfl (fun hlt => ?_) (fun hlt => ?_))
 ·
  obtain ⟨x, he_x⟩ : ∃ x, (ofKind k vs)[i]? = some x := ⟨_, List.getElem?_eq_getElem (by omega)⟩
  have hm_x := List.mem_of_getElem? he_x
  obtain ⟨b_x, o_x, c_x, ha_x, _, hc_x, hR_x⟩ := hsl.at he_x
  have h1_x := RVr.one hR_x
  obtain rfl := hR_x
  have hlt_x : b_x < _ := World.block_lt_of_cell? _ _ (hc_x 0 _ rfl)
  have hgx := hgo x hm_x
  have hgx' := hgx
  unfold Good at hgx'
  dsimp only at hgx'
  have hp := prod_le (n := n) (s := x.high - x.low + 1) hn.1 hn.2 (by omega) (by omega)
  have hst : spaceF k ((ofKind k vs).take (i + 1)) 1 = if 4096 < n * (x.high - x.low + 1) then none else some (n * (x.high - x.low + 1)) := by
   rw [take_get he_x, spaceF_append, hs]; simp [spaceF, hall x hm_x]
  refine Gs 6 rfl (G.ops1 rfl rfl (R.indexS Tryz.runUnderlying22 Tryz.sizeOf96 rfl rfl ha_x (by omega)) (G.ldK rfl Tryz.isAgg96 Tryz.sizeOf96 hc_x rfl (G.mem rfl rfl (M.alloc (cs := _) Tryz.zeroValue96 rfl) ?_)))
  rintro _ wa2 ⟨c, rfl, hg_c, hs_c, hB_c, hk_c⟩
  refine G.mem0 rfl (M.storeK Tryz.sizeOf96 rfl rfl rfl rfl h1_x hB_c (by simp)) ?_
  rintro w_c ⟨_, hB_c, hkk_c⟩
  replace hk_c := hk_c.trans hkk_c (fun q hq h => by have h : q = c := h; omega)
  have hge_c : _ ≤ c := Nat.le_trans hE.size (Nat.le_of_eq hg_c.symm)
  obtain ⟨hE, hvs, hsl, hL2, hc_x⟩ := Tr5 hk_c hE hvs hsl hL2 hc_x
  refine Gs 5 rfl (G.ldK rfl Tryz.isAgg96 Tryz.sizeOf96 hB_c.cells rfl (G.call rfl Tryz.call135 (domSize_ok x _ hgx) ?_))
  rintro _ wz3 ⟨rfl, hz3⟩
  obtain ⟨hE, hvs, hsl, hL2, hc_x, hB_c⟩ := Tr6 hz3 hE hvs hsl hL2 hc_x hB_c
  refine Ga 10 rfl (by omega) (G.ite rfl (fun hb => ?_) (fun hb => ?_))
  ·
   rw [if_pos hb] at hst
   have hnone : spaceN k vs = none := by
    rw [← hsp, ← List.take_append_drop (i + 1) (ofKind k vs), spaceF_append, hst]; rfl
   refine Gs 13 rfl (G.ret3 Tryz.results112 rfl rfl rfl ⟨_, rfl, ⟨.slice none 0 0, by rw [hnone]; rfl, (fun (h : (spaceN k vs).isSome = true) => by rw [hnone] at h; cases h), fun _ => rfl⟩, hE⟩)
  refine Ga 7 rfl (by omega) (G.back ((i + 1, n * (x.high - x.low + 1))) (Sub.of rfl) (⟨by omega, by rw [hst, if_neg hb], hL2⟩) (by first | omega | (dsimp only; omega)))
 have : i = (ofKind k vs).length := by omega
 subst this
 rw [List.take_length, hsp] at hs
 refine Gs 15 rfl (G.ret3 Tryz.results112 rfl rfl rfl ⟨_, rfl, ⟨_, by rw [hs]; rfl, fun _ => hsl, (fun (h : (spaceN k vs).isSome = false) => by rw [hs] at h; cases h)⟩, hE⟩)
theorem domSpace_ok (vs : List Vr) (k : Int) (vv : Value) (D : Nat → Prop) (w : World) (hk : 0 ≤ k ∧ k ≤ 3) (hg : ∀ v ∈ vs, Good (v.low, v.high)) (hvs : SlR 5 RVr D w vv vs) (hlen : vs.length ≤ 1000000) : Calls Tryz.prog 84 #[vv, .int .i64 k] w (Ret fun r w' => r = .tuple #[.int .i64 ((spaceN k vs).getD 0), .int .i64 (if (spaceN k vs).isSome then 0 else 4)] ∧ Ext w w') := by
 have hE := Keep.refl (fun _ => False) w
 refine G.in2 Tryz.func84 rfl Tryz.ntmps84 rfl (Gs 10 rfl (G.call rfl Tryz.call112 (chosen_ok vs k vv D w hk hg hvs hlen) ?_))
 rintro _ wz1 ⟨⟨vl, rfl, _, _⟩, hz1⟩
 replace hE := Tr1 hz1 hE
 refine Gs 18 rfl (G.ret2 Tryz.results84 rfl rfl ⟨_, rfl, rfl, hE⟩)
def firstBad (f : Nat → Int) : Nat → Nat → Int
 | _, 0 => 0
 | i, n + 1 => if f i ≠ 0 then f i else firstBad f (i + 1) n
theorem firstBad_skip (f : Nat → Int) : ∀ (k i m : Nat), (∀ j, i ≤ j → j < i + k → f j = 0) → firstBad f i (k + m) = firstBad f (i + k) m
 | 0, i, m, _ => by simp
 | k + 1, i, m, h => by
  rw [show k + 1 + m = (k + m) + 1 by omega, firstBad, if_neg (by simp [h i (Nat.le_refl _) (by omega)]), firstBad_skip f k (i + 1) m (fun j h1 h2 => h j (by omega) (by omega))]
  congr 1; omega
theorem firstBad_at {f : Nat → Int} {i n : Nat} (h : ∀ j, j < i → f j = 0) (hi : i < n) (hb : f i ≠ 0) : firstBad f 0 n = f i := by
 obtain ⟨m, rfl⟩ : ∃ m, n = i + (m + 1) := ⟨n - i - 1, by omega⟩
 rw [firstBad_skip f i 0 (m + 1) (fun j _ h2 => h j (by omega)), Nat.zero_add, firstBad, if_pos hb]
theorem firstBad_zero {f : Nat → Int} {n : Nat} (h : ∀ j, j < n → f j = 0) : firstBad f 0 n = 0 := by
 have := firstBad_skip f n 0 0 (fun j _ h2 => h j (by omega))
 simpa [firstBad] using this
theorem firstBad_inv {f : Nat → Int} : ∀ (n i : Nat), firstBad f i n = 0 → ∀ j, i ≤ j → j < i + n → f j = 0
 | 0, i, _, j, h1, h2 => by omega
 | n + 1, i, h, j, h1, h2 => by
  rw [firstBad] at h
  split at h
  · rename_i h3; exact absurd h h3
  rename_i h3
  by_cases e : j = i
  · subst e; simpa using h3
  exact firstBad_inv n (i + 1) h j (by omega) (by omega)
def sameName (a b : ByteArray) : Bool := decide (a.toList = b.toList)
def varCode (prev : List Vr) (v : Vr) : Int :=
 if isNm v.name = false then 7
 else if prev.any (fun u => sameName u.name v.name) = true then 8
 else if ¬ (0 ≤ v.kind ∧ v.kind ≤ 3) then 1
 else if bndB v.low v.high = false then 3
 else if v.kind = 0 ∧ (v.init < v.low ∨ v.high < v.init) ∨ v.kind ≠ 0 ∧ v.init ≠ 0 then 3
 else 0
def varAt (vs : List Vr) (i : Nat) : Int := match vs[i]? with
 | some v => varCode (vs.take i) v
 | none => 0
theorem varAt_eq {vs : List Vr} {i : Nat} {v : Vr} (h : vs[i]? = some v) : varAt vs i = varCode (vs.take i) v := by simp [varAt, h]
def spaceBad (vs : List Vr) : Bool := (spaceN 1 vs).isNone || (spaceN 2 vs).isNone || (match spaceN 3 vs with
 | some n => decide (256 < n)
 | none => true)
def varsCodeN (vs : List Vr) : Int := if firstBad (varAt vs) 0 vs.length ≠ 0 then firstBad (varAt vs) 0 vs.length else if spaceBad vs then 4 else 0
theorem varCode_good {prev : List Vr} {v : Vr} (h : varCode prev v = 0) : Good (v.low, v.high) ∧ 0 ≤ v.kind ∧ v.kind ≤ 3 := by
 unfold varCode at h
 split at h
 · cases h
 split at h
 · cases h
 split at h
 · cases h
 split at h
 · cases h
 rename_i h1 h2 h3 h4
 have h5 : bndB v.low v.high = true := by simpa using h4
 unfold bndB at h5
 have := of_decide_eq_true h5
 have h3 := Decidable.not_not.1 h3
 exact ⟨⟨this.2.1, this.1, this.2.2⟩, h3.1, h3.2⟩
theorem varsAll_good {vs : List Vr} (h : ∀ j, j < vs.length → varAt vs j = 0) : ∀ v ∈ vs, Good (v.low, v.high) ∧ 0 ≤ v.kind ∧ v.kind ≤ 3 := by
 intro v hv
 obtain ⟨i, hi⟩ := List.mem_iff_getElem?.1 hv
 have := h i (List.getElem?_eq_some_iff.1 hi).1
 rw [varAt_eq hi] at this
 exact varCode_good this
theorem spaceBad_3 {vs : List Vr} (h1 : (spaceN 1 vs).isNone = false) (h2 : (spaceN 2 vs).isNone = false) : spaceBad vs = decide ((256 : Int) < (spaceN 3 vs).getD 4097) := by
 unfold spaceBad; rw [h1, h2]; cases spaceN 3 vs <;> simp
end Go.Proofs.YtgojdedggmehiaaGreat
