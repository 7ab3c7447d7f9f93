/-
  Contracts and the mathematics that the proof needs. Nothing here is a claim.
-/
import Derived.Test.YtbkhagigkglgoaaGreatDoorKU4
namespace Go.GL
open Go.RowKit
section
variable {P : Program} {env : Env} {w : World} {dst : Option Tmp} {ty : TypeId} {pos : String} {aft : Array Edge} {g : Option (Nat × Bool)}
theorem zlN {t u e : TypeId} {x y : Operand} {v : Value} {m : Nat} {xs : List Value} {s : ByteArray} (hu : P.underlying t = some (.slice e)) (huu : P.underlying u = some .string) (he : (P.info? e).map (fun i => (i.zero, i.size, i.bytes)) = some (some (.int .u8 0), 1, 1))
  (hx : ev env x = some v) (hy : ev env y = some (.string s)) (hown : w.ownsRow 0 e 1 v m xs) (h0 : 0 < s.size) (hmax : m + s.size <= 9223372036854775807) (hby : m + s.size <= 140737488355328) :
  yp P ⟨dst, .call ⟨.builtin .append, #[x, y], #[t, u]⟩, ty, pos, aft, g⟩ env w (fun r w' => w'.ownsRow 0 e 1 r (m + s.size) (xs ++ Lib.strCells s) /\ (r.ownBlock = v.ownBlock \/ ∃ g, r.ownBlock = some g /\ w.heap.size <= g) /\ Keep (fun k => v.ownBlock = some k) w w') := by
 obtain ⟨i, hi, hz0, hz1, hz2⟩ := info_parts he
 obtain ⟨v', w', h1, h2, h3, _⟩ := Lib.run_append_own_string (P := P) w 0 t u ty e i hu huu hi hz0 hz1 hz2 v m xs hown s (by unfold maxLen; omega) hby (Nat.zero_le _)
 have hd : w.drawn <= w'.drawn /\ (v'.ownBlock = v.ownBlock \/ ∃ g, v'.ownBlock = some g /\ w.heap.size <= g) := by
  rcases hown.2 with ⟨rfl, rfl⟩ | ⟨g0, cap, cur, rfl, hbg, hg0, hnc, hcm, hcs, htake⟩
  ·
   have hr := run_append_nil_string (P := P) w t u ty e i (.int .u8 0) hu huu hi hz0 s h0 (by omega) (by rw [hz2]; omega)
   rw [h1] at hr
   cases hr
   exact ⟨Nat.le_succ _, .inr ⟨_, rfl, Nat.le_refl _⟩⟩
  ·
   by_cases hroom : m + s.size <= cap
   ·
    have hcs' : cur.size = cap := by simpa using hcs
    have hr := Lib.run_append_room_string (P := P) w t u ty e i hu huu hi hz1 g0 m cap cur hg0 s hroom (by omega)
    rw [h1] at hr
    cases hr
    exact ⟨Nat.le_refl _, .inl rfl⟩
   ·
    have holds : ∀ j u, xs[j]? = some u -> w.cell? ((⟨g0, 0, none⟩ : Addr).add j) = some u := hown.cells (g := g0) rfl
    have hxl : xs.length = m := by have := hown.1; omega
    have hr := Lib.run_append_grow_string (P := P) w t u ty e i (.int .u8 0) hu huu hi hz0 ⟨g0, 0, none⟩ m cap xs (by rw [hz1]; omega) holds s (by omega) (by omega) (by rw [hz2]; exact growslice_fits (by omega) (by omega))
    rw [h1] at hr
    cases hr
    exact ⟨Nat.le_succ _, .inr ⟨_, rfl, Nat.le_refl _⟩⟩
 refine ⟨v', w', ?_, h2, hd.2, h3.os, h3.tape, h3.output, hd.1, h3.size, fun k hk hn => h3.block k hk (fun e => hn e.symm)⟩
 intro n a ha
 simp [execOp, resolve, invoke, builtin, ha.eval hx, ha.eval hy, h1]
theorem zlO {t t' : TypeId} {x y : Operand} {a b : ByteArray} (hx : ev env x = some (.string a)) (hy : ev env y = some (.string b)) (hs : a.size + b.size <= 9223372036854775807) : ye P ⟨dst, .binOp .add t x y t', ty, pos, aft, g⟩ env w (.string (a ++ b)) w := by
 intro n c hc
 have hg : (eqGuard BinOp.add t x y (Value.string a) (Value.string b)).run P w = .ok () w := by simp [eqGuard]
 simp [execOp, hc.eval hx, hc.eval hy, binOp, hg, Op.stringOp]
 omega
end
section
variable {P : Program} {n : Nat} {Q : Exit -> Act -> World -> Prop} {ks : List Fr} {pos : Pos} {env : Env} {A : Tgs} {H Hs : Hp} {Bs B0 : ya} {ops : Array Oper} {rest : List Oper} {v : Value} {L : List Nat} {fuel : Nat} {listed : Array Bool}
variable {d : Nat} {op : Op} {ty : TypeId} {ps : String} {aft : Array Edge} {g : Option (Nat × Bool)}
theorem zlP (k : Nat) {t u e : TypeId} {x y : Operand} {m : Nat} {xs : List Value} {s : ByteArray} (hu : P.underlying t = some (.slice e)) (huu : P.underlying u = some .string) (he : (P.info? e).map (fun i => (i.zero, i.size, i.bytes)) = some (some (.int .u8 0), 1, 1))
  (hn : (Nat.blt d n, gd ops env g, zm H k, ev env x, ev env y) = (true, some true, some (.row e 1 v m xs), some v, some (.string s))) (h0 : 0 < s.size) (hmax : m + s.size <= 9223372036854775807) (hby : m + s.size <= 140737488355328)
  (h : ∀ r, V P n Q ks (.o ops rest) ((d, r) :: env) ((d, none) :: A) (hset H k (.row e 1 r (m + s.size) (xs ++ Lib.strCells s))) Bs) : V P n Q ks (.o ops (⟨some d, .call ⟨.builtin .append, #[x, y], #[t, u]⟩, ty, ps, aft, g⟩ :: rest)) env A H Bs := by
 simp only [Prod.mk.injEq] at hn
 obtain ⟨h1, h2, h3, h4, h5⟩ := hn
 refine fun hA w hI => zjs h1 h2 (zlN hu huu he h4 h5 (hI.at k h3) h0 hmax hby) ?_
 rintro r w' ⟨ho, hf, hk⟩
 refine h r (TgOk.none (hA.res h3 (by simp [qD, h3]))) w' (hI.set h3 hk ho trivial (fun _ h => h) (fun q hq => ⟨?_, xi ho hq⟩))
 rcases hf with hf | ⟨g', hf, hg'⟩
 . exact .inl (by show v.ownBlock = some q; rw [<- hf]; exact hq)
 ·
  have hq : r.ownBlock = some q := hq
  rw [hf] at hq; cases hq; exact .inr hg'
theorem V.opM (k : Nat) {e e' : HE} {r : Value} (hn : (Nat.blt d n, gd ops env g, zm H k, qD H k) = (true, some true, some e, none)) (hl : e'.loc) (hz : ∀ b, ¬ e'.fz b) (hm : ∀ w, VI Bs H w -> yp P ⟨some d, op, ty, ps, aft, g⟩ env w (fun u w' => u = r /\ e'.holds w' /\ Keep e.S w w' /\ ∀ q, e'.S q -> (e.S q \/ w.heap.size <= q) /\ q < w'.heap.size))
  (h : V P n Q ks (.o ops rest) ((d, r) :: env) ((d, none) :: A) (hset H k e') Bs) : V P n Q ks (.o ops (⟨some d, op, ty, ps, aft, g⟩ :: rest)) env A H Bs := by
 simp only [Prod.mk.injEq] at hn
 refine fun hA w hI => zjs hn.1 hn.2.1 (hm w hI) ?_
 rintro _ w' ⟨rfl, hh, hk, hS⟩
 exact h (TgOk.none (hA.res hn.2.2.1 hn.2.2.2)) w' (hI.set hn.2.2.1 hk hh hl hz hS)
theorem zlQ (i k j : Nat) {e e' : HE} {r : Value} (hi : ops[i]? = some ⟨some d, op, ty, ps, aft, g⟩) (hr : Region.ready .any ops listed = [i]) (hn : (Nat.blt d n, gd ops env g, zm H k, qD H k, qs (Hs.map (·.1)), xY k (Hs.map (·.1))) = (true, some true, some e, none, true, true)) (hB : Bs.drop j = B0) (hl : e'.loc) (hz : ∀ b, ¬ e'.fz b)
  (hm : ∀ w, VI Bs H w -> yp P ⟨some d, op, ty, ps, aft, g⟩ env w (fun u w' => u = r /\ e'.holds w' /\ Keep e.S w w' /\ ∀ q, e'.S q -> (e.S q \/ w.heap.size <= q) /\ q < w'.heap.size))
  (h : VD P n Q ks ops Hs B0 L fuel (listed.setIfInBounds i true) ((d, r) :: env) ((d, none) :: A) (hset H k e') Bs) : VD P n Q ks ops Hs B0 L (fuel + 1) listed env A H Bs := by
 simp only [Prod.mk.injEq] at hn
 subst hB
 obtain ⟨h1, h2, h3, h4, h5, h6⟩ := hn
 refine fun hH hA w hI => zlc i hi hr h1 h2 (.inl (hm w hI)) ?_
 rintro _ w' ⟨rfl, hh, hk, hS⟩
 have hI' := hI.set h3 hk hh hl hz hS
 have hH' : Has Hs (hset H k e') := hH.set h3 h6
 exact ⟨(hI'.drop j).pick hH' h5, h hH' (TgOk.none (hA.res h3 h4)) w' hI'⟩
theorem zlF (i j : Nat) (kks : List Nat) {β : Type} {Hn : β -> Hp} {u : β -> Value} (A1 : Tgs) (hi : ops[i]? = some ⟨some d, op, ty, ps, aft, g⟩) (hr : Region.ready .any ops listed = [i]) (hn : (Nat.blt d n, gd ops env g, qs (Hs.map (·.1))) = (true, some true, true)) (hB : Bs.drop j = B0)
  (hHs : ∀ x, Hs.map (fun y => zm (Hn x ++ yJ kks H) y.1) = Hs.map (fun y => some y.2))
  (hA1 : ∀ x, A1.map (fun p => zdA ((d, u x) :: env) p.1) = A1.map (fun p => kf (Hn x ++ yJ kks H) p.2)) (hA2 : ∀ x, A1.all (fun p => (kf (Hn x ++ yJ kks H) p.2).isSome) = true)
  (hm : ∀ w, VI Bs H w -> yp P ⟨some d, op, ty, ps, aft, g⟩ env w (fun r w' => ∃ x, r = u x /\ Hands H kks (Hn x) w w'))
  (h : ∀ x, VD P n Q ks ops Hs B0 L fuel (listed.setIfInBounds i true) ((d, u x) :: env) A1 (Hn x ++ yJ kks H) Bs) : VD P n Q ks ops Hs B0 L (fuel + 1) listed env A H Bs := by
 simp only [Prod.mk.injEq] at hn
 subst hB
 intro hH hA w hI
 refine zlc i hi hr hn.1 hn.2.1 (.inl (hm w hI)) ?_
 rintro _ w' ⟨x, rfl, hh⟩
 have hI' := hI.hands hh
 exact ⟨(hI'.drop j).pick (zkh (hHs x)) hn.2.2, h x (zkh (hHs x)) (zki (hA1 x) (hA2 x)) w' hI'⟩
end
open Go.RowKit
section
variable {P : Program} {env : Env} {w : World} {dst : Option Tmp} {ty : TypeId} {pos : String} {aft : Array Edge} {g : Option (Nat × Bool)}
theorem zlR {tp t' te : TypeId} {x y : Operand} {p : Option Addr} (hp : P.underlying tp = some (.pointer te)) (hx : ev env x = some (.pointer p)) (hy : ev env y = some (.pointer none)) : ye P ⟨dst, .binOp .eql tp x y t', ty, pos, aft, g⟩ env w (.bool p.isNone) w := by
 intro n a ha
 have h : ∀ d : Nat, (Op.equalIn (d + 1) tp (.pointer p) (.pointer none)).run P w = .ok p.isNone w := fun d => by
  cases p <;> simp [Op.equalIn, run_underlying hp]
 have hg : (eqGuard BinOp.eql tp x y (.pointer p) (.pointer none)).run P w = .ok () w := by simp [eqGuard]
 have hb : (binOp .eql tp (.pointer p) (.pointer none)).run P w = .ok (.bool p.isNone) w := by
  simp only [binOp]
  simp [Op.equal, Op.maxDepth, h 9999]
 simp [execOp, ha.eval hx, ha.eval hy, hg, hb]
theorem zlS {tp t' te : TypeId} {j : TypeInfo} {x y : Operand} {a0 : Addr} (hp : P.underlying tp = some (.pointer te)) (hte : P.info? te = some j) (hx : ev env x = some (.pointer (some a0))) (hy : ev env y = some (.pointer (some a0))) : ye P ⟨dst, .binOp .neq tp x y t', ty, pos, aft, g⟩ env w (.bool false) w := by
 intro n a ha
 have hg : (eqGuard BinOp.neq tp x y (.pointer (some a0)) (.pointer (some a0))).run P w = .ok () w := by simp [eqGuard]
 simp [execOp, ha.eval hx, ha.eval hy, hg, Lib.run_neq_ptr_same w a0 hp hte]
theorem zlT {s d : TypeId} {x : Operand} {v u : Value} (hx : ev env x = some v) (h : (convert s d v).run P w = .ok u w) : ye P ⟨dst, .convert s d x, ty, pos, aft, g⟩ env w u w := by
 intro n a ha
 simp [execOp, ha.eval hx, h]
theorem R.same {f : FuncId} {fn : Func} {x : Operand} {ts : Array TypeId} {v : Value} (hf : P.funcs[f]? = some fn) (hname : (fn.name == "runtime.NumGoroutine") = false) (hb : fn.body.isNone = true) (hn : Extern.findNext fn = none) (he : Extern.find fn = some Extern.AbiNoEscape.same) (hx : ev env x = some v) :
  ye P ⟨dst, .call ⟨.value (.func f), #[x], ts⟩, ty, pos, aft, g⟩ env w v w := by
 intro n a ha
 have hfv : a.eval (.func f) = .func (.func f) #[] #[] := rfl
 simp [execOp, resolve, invoke, Deferred.ofValue, hfv, ha.eval hx, run_callFunc_extern hf hname hb hn he, Lib.run_noEscape]
theorem zlU {t : TypeId} {x : Operand} {a : Addr} {m c : Nat} (hx : ev env x = some (.slice (some a) m c)) (hc : c ≠ 0) : ye P ⟨dst, .call ⟨.builtin .unsafeSliceData, #[x], #[t]⟩, ty, pos, aft, g⟩ env w (.pointer (some a)) w := by
 intro n c' ha
 simp [execOp, resolve, invoke, builtin, ha.eval hx, Lib.run_unsafeSliceData_row w _ _ a m c hc]
theorem zlV {t : TypeId} {x : Operand} {m c : Nat} (hx : ev env x = some (.slice none m c)) : ye P ⟨dst, .call ⟨.builtin .unsafeSliceData, #[x], #[t]⟩, ty, pos, aft, g⟩ env w (.pointer none) w := by
 intro n c' ha
 simp [execOp, resolve, invoke, builtin, ha.eval hx, Lib.run_unsafeSliceData_nil w _ _ m c]
theorem zlW {t t' : TypeId} {x y : Operand} {p : Option Addr} (hx : ev env x = some (.pointer p)) (hy : ev env y = some (.int .i64 0)) : ye P ⟨dst, .call ⟨.builtin .unsafeString, #[x, y], #[t, t']⟩, ty, pos, aft, g⟩ env w (.string .empty) w := by
 intro n c' ha
 simp [execOp, resolve, invoke, builtin, ha.eval hx, ha.eval hy, Lib.run_unsafeString_none w t t' ty p]
theorem M.unsafeString {pt it e : TypeId} {x y : Operand} {b c : Nat} {l : List UInt8} (hp : P.underlying pt = some (.pointer e)) (hc : P.cellsOf e = 1) (hx : ev env x = some (.pointer (some ⟨b, 0, none⟩))) (hy : ev env y = some (.int .i64 l.length)) (h0 : l ≠ []) (hown : w.ownsRow 0 e 1 (.slice (some ⟨b, 0, none⟩) l.length c) l.length (Lib.byteCells l)) :
  yp P ⟨dst, .call ⟨.builtin .unsafeString, #[x, y], #[pt, it]⟩, ty, pos, aft, g⟩ env w (fun u w' => u = .string ⟨l.toArray⟩ /\ Keep (fun q => q = b) w w') := by
 have hcl := (jy hown).2.2
 obtain ⟨sp, hB, hcap, hcm, hlen⟩ := zaU hown
 have hsh : w.shape? b = some (e, c * 1) := by
  unfold Blk at hB
  simp [World.shape?, hB]
  rw [zmg] at hlen
  omega
 have hr := Lib.run_unsafeString_row (P := P) w pt it ty e hp hc b (c * 1) hsh l h0 (by omega) (by omega) (fun j x hx => by
  have := hcl j (.int .u8 x.toNat) (by simp [Lib.byteCells, hx])
  by_cases hj : j = 0
  . subst hj; simpa [Addr.add] using this
  ·
   simpa [Addr.add, hj] using this)
 refine ⟨.string ⟨l.toArray⟩, w.freeze ⟨b, 0, none⟩ l.length, ?_, rfl, ?_⟩
 ·
  intro n a ha
  simp [execOp, resolve, invoke, builtin, ha.eval hx, ha.eval hy, hr]
 ·
  have hl : l.length ≠ 0 := by simpa using h0
  unfold World.freeze
  rw [if_neg hl]
  refine ⟨rfl, rfl, rfl, Nat.le_refl _, by simp, fun k hk hn => ?_⟩
  simp only [Array.getElem?_modify]
  rw [if_neg (fun e => hn e.symm)]
end
end Go.GL
namespace Go.Proofs.YtbkhagigkglgoaaGreatDoor
open Go.GL
theorem zc9 (p v : Value) (b : Nat) (hp : p = .pointer none \/ p = .pointer (some ⟨b, 0, none⟩)) (W : World) (hB : Blk W b [p, v] 184) :
  Calls Tryz.prog 152 #[.pointer (some ⟨b, 0, none⟩)] W (Ret fun r w' => r = .tuple #[] /\ Blk w' b [.pointer (some ⟨b, 0, none⟩), v] 184 /\ Keep (fun q => q = b) W w') := by
 have hsh : ∀ w, Blk w b [p, v] 184 -> w.shape? b = some (184, 2) := fun w h => by
  unfold Blk at h
  simp [World.shape?, h]
 obtain ⟨j, hj, hjs⟩ : ∃ j, Tryz.prog.info? 184 = some j /\ j.size = 2 := Option.map_eq_some_iff.1 (show (Tryz.prog.info? 184).map (·.size) = some 2 by kernel_rfl)
 have hlies : liesAt Tryz.prog Tryz.prog.depth 184 (2 / Tryz.prog.cellsOf 184) 0 184 1 = true := by kernel_rfl
 refine zkG Tryz.func152 O Tryz.ntmps152 O (zlv [(900, .own b [p, v] 184)] (fun x hx => by rw [List.mem_singleton] at hx; subst hx; exact ⟨hB, trivial, fun _ h => h, fun q hq => by have hq : q = b := hq; rw [hq]; exact hB.lt⟩) (List.pairwise_singleton _ _) ?_)
 refine zkY 0 900 0 O O ?_
 rcases hp with rfl | rfl
 ·
  refine Vs 6 O ?_
  refine zkx O (fun w hI => zlR tu181 O O) ?_
  refine Vs 2 O ?_
  refine V.bool O (fun c => ?_) (fun c => ?_)
  ·
   refine Vs 3 O ?_
   refine zkx O (fun w hI => zlT O (Lib.run_to_unsafe w ⟨b, 0, none⟩ tu181 Tryz.underlying238 hj (by rw [hjs]; decide) (hsh w (hI.at 900 O)) (Nat.zero_lt_succ 1))) ?_
   refine zkx O (fun w hI => R.same Tryz.func179 O O O O O) ?_
   refine zkx O (fun w hI => zlT O (Lib.run_from_unsafe w ⟨b, 0, none⟩ Tryz.underlying238 tu181 hj (hsh w (hI.at 900 O)) hlies)) ?_
   refine Vs 4 O ?_
   refine zj9 Tryz.results152 (fun w hI => ⟨_, rfl, rfl, hI.at 900 rfl, hI.k0.mono fun q _ ⟨x, hx, hq⟩ => by rw [List.mem_singleton] at hx; subst hx; exact hq⟩)
  . cases c
 ·
  refine Vs 6 O ?_
  refine zkx O (fun w hI => zlR tu181 O O) ?_
  refine Vs 2 O ?_
  refine V.bool O (fun c => ?_) (fun c => ?_)
  . cases c
  ·
   refine Vs 7 O ?_
   refine zkx O (fun w hI => zlS tu181 hj O O) ?_
   refine Vs 2 O ?_
   refine V.bool O (fun d => ?_) (fun d => ?_)
   . cases d
   ·
    refine Vs 1 O ?_
    refine zj9 Tryz.results152 (fun w hI => ⟨_, rfl, rfl, hI.at 900 rfl, hI.k0.mono fun q _ ⟨x, hx, hq⟩ => by rw [List.mem_singleton] at hx; subst hx; exact hq⟩)
end Go.Proofs.YtbkhagigkglgoaaGreatDoor
namespace Go.GL
open Go.Lib
def Dig (c : UInt8) : Prop := 48 <= c.toNat /\ c.toNat <= 57
theorem zdo {m : Nat} (h : m < 10) : (UInt8.ofNat (48 + m)).toNat = 48 + m := by
 have : (48 + m) % 256 = 48 + m := Nat.mod_eq_of_lt (by omega)
 simp [this]
theorem xc (u : Nat) : ∀ c ∈ decDigits u, Dig c := by
 induction u using Nat.strongRecOn with
 | _ u ih =>
  intro c hc
  rw [decDigits] at hc
  split at hc
  ·
   rename_i h
   rw [List.mem_singleton] at hc
   subst hc
   unfold Dig
   rw [zdo h]; omega
  ·
   rename_i h
   rcases List.mem_append.1 hc with hc | hc
   . exact ih (u / 10) (by omega) c hc
   ·
    rw [List.mem_singleton] at hc
    subst hc
    unfold Dig
    rw [zdo (Nat.mod_lt _ (by decide))]
    have := Nat.mod_lt u (show 0 < 10 by decide)
    omega
def zia (l : List UInt8) : Nat := l.foldl (fun a c => a * 10 + (c.toNat - 48)) 0
theorem zdp (u : Nat) : zia (decDigits u) = u := by
 induction u using Nat.strongRecOn with
 | _ u ih =>
  rw [decDigits]
  split
  ·
   rename_i h
   simp only [zia, List.foldl_cons, List.foldl_nil]
   rw [zdo h]; omega
  ·
   rename_i h
   have h1 := ih (u / 10) (by omega)
   unfold zia at h1 ⊢
   rw [List.foldl_append, h1]
   simp only [List.foldl_cons, List.foldl_nil]
   rw [zdo (Nat.mod_lt _ (by decide))]
   omega
theorem jt {u v : Nat} (h : decDigits u = decDigits v) : u = v := by
 rw [<- zdp u, <- zdp v, h]
theorem zdq {a b : Int} (h : itoa a = itoa b) : a = b := by
 unfold itoa at h
 split at h <;> split at h
 ·
  have := jt (List.cons.inj h).2
  omega
 ·
  have := xc b.toNat 45 (by rw [<- h]; exact zmc ..)
  exact absurd this (by unfold Dig; decide)
 ·
  have := xc a.toNat 45 (by rw [h]; exact zmc ..)
  exact absurd this (by unfold Dig; decide)
 ·
  have := jt h
  omega
theorem zbd {a : Int} {c : UInt8} (h : c.toNat < 45) : c ∉ itoa a := by
 intro hc
 unfold itoa at hc
 split at hc
 ·
  rcases List.mem_cons.1 hc with rfl | hc
  . exact absurd h (by decide)
  . have := (xc _ c hc).1; omega
 . have := (xc _ c hc).1; omega
theorem zdr {α : Type} {c : α} : ∀ {a b x y : List α}, c ∉ a -> c ∉ b -> a ++ c :: x = b ++ c :: y -> a = b /\ x = y
 | [], [], _, _, _, _, h => ⟨rfl, (List.cons.inj h).2⟩
 | [], _ :: _, _, _, _, hb, h => absurd (List.mem_cons.2 (.inl (List.cons.inj h).1)) hb
 | _ :: _, [], _, _, ha, _, h => absurd (List.mem_cons.2 (.inl (List.cons.inj h).1.symm)) ha
 | p :: a, q :: b, x, y, ha, hb, h => by
  obtain ⟨h1, h2⟩ := List.cons.inj h
  obtain ⟨h3, h4⟩ := zdr (fun h => ha (zmb _ h)) (fun h => hb (zmb _ h)) h2
  exact ⟨by rw [h1, h3], h4⟩
def xd (c : UInt8) (l : List Int) : List UInt8 := l.flatMap fun n => itoa n ++ [c]
theorem qy (c : UInt8) (n : Int) (l : List Int) : xd c (n :: l) = itoa n ++ c :: xd c l := by simp [xd]
theorem zca (c : UInt8) (l l' : List Int) : xd c (l ++ l') = xd c l ++ xd c l' := by simp [xd]
def xE (o : List Int × Int) : List UInt8 := xd 44 o.1 ++ itoa o.2
theorem zaI : ∀ {o p : List Int × Int}, xE o = xE p -> o = p
 | ([], t), ([], t'), h => by
  have : itoa t = itoa t' := h
  rw [zdq this]
 | ([], t), (n :: l, t'), h => by
  unfold xE at h
  simp only [qy, List.append_assoc, List.cons_append] at h
  have h : itoa t = itoa n ++ 44 :: (xd 44 l ++ itoa t') := h
  exact absurd (show (44 : UInt8) ∈ itoa t by rw [h]; simp) (zbd (by decide))
 | (n :: l, t), ([], t'), h => by
  unfold xE at h
  simp only [qy, List.append_assoc, List.cons_append] at h
  have h : itoa n ++ 44 :: (xd 44 l ++ itoa t) = itoa t' := h
  exact absurd (show (44 : UInt8) ∈ itoa t' by rw [<- h]; simp) (zbd (by decide))
 | (n :: l, t), (m :: l', t'), h => by
  unfold xE at h
  simp only [qy, List.append_assoc, List.cons_append] at h
  obtain ⟨h1, h2⟩ := zdr (zbd (by decide)) (zbd (by decide)) h
  have := zaI (o := (l, t)) (p := (l', t')) h2
  rw [Prod.mk.injEq] at this
  rw [zdq h1, this.1, this.2]
end Go.GL
namespace Go.Proofs
open Go.Shelf
def Tryz.laysM171_ren : Go.Shelf.Ren := ⟨fun | 171 => 122 | 243 => 153 | 246 => 180 | 283 => 193 | 284 => 194 | 285 => 195 | 286 => 196 | 129 => 139 | 317 => 207 | 318 => 208 | 319 => 209 | 320 => 210 | 337 => 213 | 338 => 214 | n => n, fun | 3 => 3 | 9 => 9 | 2 => 2 | 4 => 4 | 171 => 249 | 0 => 0 | 53 => 204 | 37 => 182 | 5 => 5 | 173 => 251 | 212 => 259 | 51 => 202 | 20 => 20 | 213 => 260 | 46 => 157 | 232 => 266 | 233 => 267 | n => n, fun | 17 => 0 | 18 => 1 | 19 => 2 | n => n⟩
theorem Tryz.laysM171 : Go.Proofs.LaysM.n171 Tryz.prog Tryz.laysM171_ren := {
 mixed := by kernel_rfl
 f129 := Tryz.func139.trans (congrArg some (by kernel_rfl))
 f171 := Tryz.func122.trans (congrArg some (by kernel_rfl))
 f243 := Tryz.func153.trans (congrArg some (by kernel_rfl))
 f246 := Tryz.func180.trans (congrArg some (by kernel_rfl))
 f283 := Tryz.func193.trans (congrArg some (by kernel_rfl))
 f284 := Tryz.func194.trans (congrArg some (by kernel_rfl))
 f285 := Tryz.func195.trans (congrArg some (by kernel_rfl))
 f286 := Tryz.func196.trans (congrArg some (by kernel_rfl))
 f317 := Tryz.func207.trans (congrArg some (by kernel_rfl))
 f318 := Tryz.func208.trans (congrArg some (by kernel_rfl))
 f319 := Tryz.func209.trans (congrArg some (by kernel_rfl))
 f320 := Tryz.func210.trans (congrArg some (by kernel_rfl))
 f337 := Tryz.func213.trans (congrArg some (by kernel_rfl))
 f338 := Tryz.func214.trans (congrArg some (by kernel_rfl))
 t0 := Tryz.underlying0
 a0 := Tryz.isAgg0
 z0 := Tryz.sizeOf0
 v0 := Tryz.zeroValue0
 t2 := Tryz.underlying2
 a2 := Tryz.isAgg2
 z2 := Tryz.sizeOf2
 v2 := Tryz.zeroValue2
 t3 := tu3
 a3 := tg3
 z3 := ts3
 v3 := tz3
 t4 := tu4
 a4 := tg4
 z4 := ts4
 v4 := tz4
 t5 := Tryz.underlying5
 a5 := Tryz.isAgg5
 z5 := ts5
 v5 := Tryz.zeroValue5
 t9 := tu9
 a9 := tg9
 z9 := ts9
 v9 := Tryz.zeroValue9
 t20 := Tryz.underlying20
 a20 := Tryz.isAgg20
 z20 := Tryz.sizeOf20
 v20 := Tryz.zeroValue20
 t37 := Tryz.underlying182
 a37 := Tryz.isAgg182
 z37 := Tryz.sizeOf182
 v37 := Tryz.zeroValue182
 t46 := Tryz.underlying157
 a46 := Tryz.isAgg157
 z46 := Tryz.sizeOf157
 v46 := Tryz.zeroValue157
 t51 := Tryz.underlying202
 a51 := Tryz.isAgg202
 z51 := Tryz.sizeOf202
 v51 := Tryz.zeroValue202
 t53 := Tryz.underlying204
 a53 := Tryz.isAgg204
 z53 := Tryz.sizeOf204
 v53 := Tryz.zeroValue204
 t171 := Tryz.underlying249
 a171 := Tryz.isAgg249
 z171 := Tryz.sizeOf249
 v171 := Tryz.zeroValue249
 t173 := Tryz.underlying251
 a173 := Tryz.isAgg251
 z173 := Tryz.sizeOf251
 v173 := Tryz.zeroValue251
 t212 := Tryz.underlying259
 a212 := Tryz.isAgg259
 z212 := Tryz.sizeOf259
 v212 := Tryz.zeroValue259
 t213 := Tryz.underlying260
 a213 := Tryz.isAgg260
 z213 := Tryz.sizeOf260
 t232 := Tryz.underlying266
 a232 := Tryz.isAgg266
 z232 := Tryz.sizeOf266
 v232 := Tryz.zeroValue266
 t233 := Tryz.underlying267
 a233 := Tryz.isAgg267
 z233 := Tryz.sizeOf267
 v233 := Tryz.zeroValue267
 g17 := by kernel_rfl
 g18 := by kernel_rfl
 g19 := by kernel_rfl
 i0 := by kernel_rfl
 i2 := by kernel_rfl
 i3 := by kernel_rfl
 i4 := by kernel_rfl
 i5 := by kernel_rfl
 i9 := by kernel_rfl
 i20 := by kernel_rfl
 i37 := by kernel_rfl
 i46 := by kernel_rfl
 i51 := by kernel_rfl
 i53 := by kernel_rfl
 i171 := by kernel_rfl
 i173 := by kernel_rfl
 i212 := by kernel_rfl
 i232 := by kernel_rfl
 i233 := by kernel_rfl
 m17 := by kernel_rfl
 m18 := by kernel_rfl
 m19 := by kernel_rfl }
open Go.RowKit Go.Sort Go.Lib in
theorem Tryz.strconv_Itoa (n : Int) (h0 : -9223372036854775808 <= n) (h1 : n <= 9223372036854775807) (w : World) (htab : Lib.TabIs Tryz.prog w "internal/strconv.uint64pow10" .u64 Lib.pow10Tab) :
  Calls Tryz.prog 122 #[.int .i64 n] w fun e w' => e = .returned (.string ⟨(Lib.itoa n).toArray⟩) /\ ∃ k os, w' = grow (w.drewN k) os := Any.strconv_Itoa Tryz.laysM171 n h0 h1 w htab
end Go.Proofs
namespace Go.Proofs.YtbkhagigkglgoaaGreatDoor
open Go.GL
theorem zeR (a b : List UInt8) : (⟨a.toArray⟩ : ByteArray) ++ ⟨b.toArray⟩ = ⟨(a ++ b).toArray⟩ := by
 apply ByteArray.ext
 simp
theorem zbe (a : List UInt8) : Lib.strCells ⟨a.toArray⟩ = Lib.byteCells a := by simp [Lib.strCells_eq]
theorem zbf (a : List UInt8) : (⟨a.toArray⟩ : ByteArray).size = a.length := by simp [ByteArray.size]
def Tab (w : World) : Prop := Lib.TabIs Tryz.prog w "internal/strconv.uint64pow10" .u64 Lib.pow10Tab
theorem Tab.ext {w w' : World} (h : Tab w) (hk : Ext w w') : Tab w' :=
 Go.Joins.tab_stays (P := Tryz.prog) (g := 0) (by kernel_rfl) h (B := w.heap.size) ⟨hk.os, hk.tape, hk.output, hk.size, fun k hk' => hk.block k hk' (fun h => h)⟩ (Nat.le_refl _)
instance {w w' : World} : Tr (Tab w) w w' (Tab w') := ⟨Tab.ext⟩
theorem zcP (w : World) (k : Nat) (os : Array Obj) : Ext w (Go.Sort.grow (w.drewN k) os) := by
 refine ⟨rfl, rfl, rfl, Nat.le_add_right _ _, ?_, fun i hi _ => ?_⟩
 ·
  show w.heap.size <= (w.heap ++ os).size
  rw [Array.size_append]; omega
 ·
  show (w.heap ++ os)[i]? = _
  rw [Array.getElem?_append_left hi]
theorem zeS (n : Int) (h0 : -9223372036854775808 <= n) (h1 : n <= 9223372036854775807) (w : World) (ht : Tab w) : Calls Tryz.prog 122 #[.int .i64 n] w (Ret fun r w' => r = .string ⟨(Lib.itoa n).toArray⟩ /\ Ext w w') := by
 refine (Tryz.strconv_Itoa n h0 h1 w ht).mono ?_
 rintro e w' ⟨rfl, k, os, rfl⟩
 exact ⟨_, rfl, rfl, zcP w k os⟩
abbrev zhM (k1 k2 b : Nat) (p v : Value) (m : Nat) (bs : List Value) : Hp := [(k1, .own b [p, v] 184), (k2, .row 5 1 v m bs)]
theorem zeT {k1 k2 b m : Nat} {p v : Value} {bs : List Value} {w : World} (hB : Blk w b [p, v] 184) (hR : w.ownsRow 0 5 1 v m bs) (hne : v.ownBlock ≠ some b) :
  (∀ x ∈ zhM k1 k2 b p v m bs, x.2.holds w /\ x.2.loc /\ (∀ b, ¬ x.2.fz b) /\ ∀ q, x.2.S q -> q < w.heap.size) /\ (zhM k1 k2 b p v m bs).Pairwise (fun x y => ∀ q, x.2.S q -> ¬ y.2.S q) := by
 refine ⟨fun x hx => ?_, List.pairwise_cons.2 ⟨fun x hx q hq hs => ?_, List.pairwise_singleton _ _⟩⟩
 ·
  simp only [List.mem_cons, List.not_mem_nil, or_false] at hx
  rcases hx with rfl | rfl
  . exact ⟨hB, trivial, fun _ h => h, fun q hq => by have hq : q = b := hq; rw [hq]; exact hB.lt⟩
  . exact ⟨hR, trivial, fun _ h => h, fun q hq => xi hR hq⟩
 ·
  rw [List.mem_singleton] at hx
  subst hx
  have hq : q = b := hq
  subst hq
  exact hne hs
theorem zh6 {H : Hp} {p v : Value} {b : Nat} {w : World} (hp : p = .pointer none \/ p = .pointer (some ⟨b, 0, none⟩)) (hB : Blk w b [p, v] 184) (h0 : zm H 900 = some (.own b [p, v] 184)) :
  Calls Tryz.prog 152 #[.pointer (some ⟨b, 0, none⟩)] w (Ret fun r w' => ∃ _x : Unit, r = .tuple #[] /\ Hands H [900] [(900, .own b [.pointer (some ⟨b, 0, none⟩), v] 184)] w w') := by
 refine (zc9 p v b hp w hB).mono ?_
 rintro e w' ⟨_, rfl, rfl, h1, h2⟩
 refine ⟨_, rfl, (), rfl, h2.mono fun q _ hq => ⟨_, zl h0, rfl, hq⟩, fun x hx => ?_, List.pairwise_singleton _ _⟩
 rw [List.mem_singleton] at hx
 subst hx
 exact ⟨h1, trivial, fun _ h => h, fun q hq => ⟨.inl ⟨_, zl h0, rfl, hq⟩, by have hq : q = b := hq; rw [hq]; exact h1.lt⟩⟩
theorem zib {k1 k2 b m q : Nat} {p v : Value} {bs : List Value} (h : HS (zhM k1 k2 b p v m bs) q) : q = b \/ v.ownBlock = some q := by
 obtain ⟨x, hx, hq⟩ := h
 simp only [List.mem_cons, List.not_mem_nil, or_false] at hx
 rcases hx with rfl | rfl
 . exact .inl hq
 . exact .inr hq
theorem bldB {H : Hp} {w0 w : World} {b m m' : Nat} {p p' v v' : Value} {bs bs' : List Value} (hI : VI [(w0, HS (zhM 900 901 b p v m bs))] H w) (h0 : zm H 900 = some (.own b [p', v'] 184)) (h1 : zm H 901 = some (.row 5 1 v' m' bs')) : ∀ q, v'.ownBlock = some q -> v.ownBlock = some q \/ w0.heap.size <= q := by
 intro q hq
 rcases (hI.base _ (zmc ..)).2 _ (zl h1) q hq with h | h
 ·
  rcases zib h with h | h
  . exact absurd hq (fun hq => zw hI.apart h0 h1 O b O (h ▸ hq))
  . exact .inl h
 . exact .inr h
theorem zcQ (p v : Value) (b : Nat) (bs : List Value) (s : ByteArray) (hp : p = .pointer none \/ p = .pointer (some ⟨b, 0, none⟩)) (W : World) (hB : Blk W b [p, v] 184) (hR : W.ownsRow 0 5 1 v bs.length bs) (hne : v.ownBlock ≠ some b) (h0 : 0 < s.size) (hlen : bs.length + s.size <= 140737488355328) :
  Calls Tryz.prog 121 #[.pointer (some ⟨b, 0, none⟩), .string s] W (Ret fun r w' => r = .tuple #[.int .i64 s.size, .nilIface] /\ ∃ v', Blk w' b [.pointer (some ⟨b, 0, none⟩), v'] 184 /\ w'.ownsRow 0 5 1 v' (bs.length + s.size) (bs ++ Lib.strCells s) /\ v'.ownBlock ≠ some b /\ Keep (fun q => q = b \/ v.ownBlock = some q) W w' /\ ∀ q, v'.ownBlock = some q -> v.ownBlock = some q \/ W.heap.size <= q) := by
 refine zkH Tryz.func121 O Tryz.ntmps121 O (zlv [(900, .own b [p, v] 184), (901, .row 5 1 v bs.length bs)] (zeT (k1 := 900) (k2 := 901) hB hR hne).1 (zeT (k1 := 900) (k2 := 901) hB hR hne).2 ?_)
 refine zkY 0 900 0 O O ?_
 refine Vs 9 O ?_
 refine zlw [900] (Hn := fun _x : Unit => [(900, .own b [.pointer (some ⟨b, 0, none⟩), v] 184)]) [(0, some (900, 0)), (6, some (900, 0))] Tryz.call152 O (fun _ _ => rfl) (fun _ => rfl) (fun w hI => zh6 hp (hI.at 900 O) O) ?_
 rintro _ ⟨⟩ rfl
 refine Vs 10 O ?_
 refine zlP 901 Tryz.underlying182 tu9 Tryz.el5 O (h0) (by omega) (by omega) (fun u901 => ?_)
 refine zl4 901 O (by omega) ?_
 rintro bq cq rfl hcap_901
 refine Vs 14 O ?_
 refine ziY Tryz.results121 O O (fun w hI => ⟨_, rfl, rfl, _, hI.at 900 rfl, hI.at 901 rfl, fun h => zw hI.apart (k := 900) (k' := 901) O O O b O h, hI.k0.mono (fun q _ h => zib h), bldB hI O rfl⟩)
end Go.Proofs.YtbkhagigkglgoaaGreatDoor
namespace Go.GL
theorem zlX {P : Program} {env : Env} {w : World} {dst : Option Tmp} {ty : TypeId} {pos : String} {aft : Array Edge} {g : Option (Nat × Bool)} {pt it e : TypeId} {x y : Operand} {b c : Nat} {l : List UInt8} (hp : P.underlying pt = some (.pointer e)) (hc : P.cellsOf e = 1) (hx : ev env x = some (.pointer (some ⟨b, 0, none⟩))) (hy : ev env y = some (.int .i64 l.length)) (h0 : l ≠ []) (hown : w.ownsRow 0 e 1 (.slice (some ⟨b, 0, none⟩) l.length c) l.length (Lib.byteCells l)) :
  yp P ⟨dst, .call ⟨.builtin .unsafeString, #[x, y], #[pt, it]⟩, ty, pos, aft, g⟩ env w (fun u w' => u = .string ⟨l.toArray⟩ /\ HE.holds w' (.res (fun q => q = b) (fun _ => True)) /\ Keep (HE.S (.row e 1 (.slice (some ⟨b, 0, none⟩) l.length c) l.length (Lib.byteCells l))) w w' /\ ∀ q, HE.S (.res (fun q => q = b) (fun _ => True)) q -> (HE.S (.row e 1 (.slice (some ⟨b, 0, none⟩) l.length c) l.length (Lib.byteCells l)) q \/ w.heap.size <= q) /\ q < w'.heap.size) := by
 obtain ⟨u, w', hr, rfl, hk⟩ := M.unsafeString (dst := dst) (ty := ty) (pos := pos) (aft := aft) (g := g) (it := it) hp hc hx hy h0 hown
 refine ⟨_, w', hr, rfl, trivial, hk.mono fun q _ hq => by show some b = some q; rw [hq], fun q hq => ?_⟩
 have hq : q = b := hq
 subst hq
 exact ⟨.inl rfl, Nat.lt_of_lt_of_le (xi hown O) hk.size⟩
end Go.GL
namespace Go.Proofs.YtbkhagigkglgoaaGreatDoor
open Go.GL
theorem zcb (p : Value) (b bq cq : Nat) (l : List UInt8) (h0 : l ≠ []) (W : World) (hB : Blk W b [p, .slice (some ⟨bq, 0, none⟩) l.length cq] 184) (hR : W.ownsRow 0 5 1 (.slice (some ⟨bq, 0, none⟩) l.length cq) l.length (Lib.byteCells l)) (hne : (Value.slice (some ⟨bq, 0, none⟩) l.length cq).ownBlock ≠ some b) :
  Calls Tryz.prog 123 #[.pointer (some ⟨b, 0, none⟩)] W (Ret fun r w' => r = .string ⟨l.toArray⟩ /\ Blk w' b [p, .slice (some ⟨bq, 0, none⟩) l.length cq] 184 /\ Keep (fun q => q = b \/ some bq = some q) W w') := by
 have hl0 := List.length_pos_iff.2 h0
 have hcap := (zaU hR).choose_spec.2.1
 refine zkG Tryz.func123 O Tryz.ntmps123 O (zlv [(900, .own b [p, .slice (some ⟨bq, 0, none⟩) l.length cq] 184), (901, .row 5 1 (.slice (some ⟨bq, 0, none⟩) l.length cq) l.length (Lib.byteCells l))] (zeT (k1 := 900) (k2 := 901) hB hR hne).1 (zeT (k1 := 900) (k2 := 901) hB hR hne).2 ?_)
 refine zkY 0 900 0 O O ?_
 refine Vs 6 O ?_
 refine Vw [900] [] O ?_
 refine Vd [0, 1, 2, 3, 5, 6, 7, 8, 9] 0 (by kernel_rfl) O O O ?_
 refine zky 4 0 O (by kernel_rfl) O O (fun w hI => zlU O (by omega)) ?_
 refine zlQ 10 901 0 (e' := .res (fun q => q = bq) (fun _ => True)) (r := .string ⟨l.toArray⟩) O (by kernel_rfl) O O (fun _ _ _ _ _ _ => trivial) (fun _ h => h) (fun w hI => zlX (e := 5) (c := cq) (l := l) Tryz.underlying217 (by kernel_rfl) O O h0 (hI.at 901 O)) ?_
 refine Vd [11] 0 (by kernel_rfl) O O O ?_
 refine zjI (by kernel_rfl) ?_
 refine Vs 2 O ?_
 refine ziV Tryz.results123 O (fun w hI => ⟨_, rfl, rfl, hI.at 900 rfl, hI.k0.mono (fun q _ h => zib h)⟩)
theorem zbg (p : Value) (b : Nat) (W : World) (hB : Blk W b [p, .slice none 0 0] 184) :
  Calls Tryz.prog 123 #[.pointer (some ⟨b, 0, none⟩)] W (Ret fun r w' => r = .string ⟨[].toArray⟩ /\ Blk w' b [p, .slice none 0 0] 184 /\ Keep (fun q => q = b) W w') := by
 refine zkG Tryz.func123 O Tryz.ntmps123 O (zlv [(900, .own b [p, .slice none 0 0] 184)] (fun x hx => by rw [List.mem_singleton] at hx; subst hx; exact ⟨hB, trivial, fun _ h => h, fun q hq => by have hq : q = b := hq; rw [hq]; exact hB.lt⟩) (List.pairwise_singleton _ _) ?_)
 refine zkY 0 900 0 O O ?_
 refine Vs 6 O ?_
 refine Vw [900] [] O ?_
 refine Vd [0, 1, 2, 3, 5, 6, 7, 8, 9] 0 (by kernel_rfl) O O O ?_
 refine zky 4 0 O (by kernel_rfl) O O (fun w hI => zlV O) ?_
 refine zky 10 0 O (by kernel_rfl) O O (fun w hI => zlW O O) ?_
 refine Vd [11] 0 (by kernel_rfl) O O O ?_
 refine zjI (by kernel_rfl) ?_
 refine Vs 2 O ?_
 refine ziV Tryz.results123 O (fun w hI => ⟨_, rfl, rfl, hI.at 900 rfl, hI.k0.mono (fun q _ ⟨x, hx, hq⟩ => by rw [List.mem_singleton] at hx; subst hx; exact hq)⟩)
theorem zgA {H : Hp} {k1 k2 b : Nat} {v p p' v' : Value} {m : Nat} {bs : List Value} {w w' : World} (h0 : zm H k1 = some (.own b [p, v] 184)) (h1 : zm H k2 = some (.row 5 1 v m bs)) (hB : Blk w' b [p', v'] 184) (hk : Keep (fun q => q = b \/ v.ownBlock = some q) w w') : Hands H [k1, k2] [(k1, .own b [p', v'] 184)] w w' := by
 have i0 : ∀ q, q = b -> InS H [k1, k2] q := fun q hq => ⟨_, zl h0, by simp [zd6, Nat.beq_refl], hq⟩
 have i1 : ∀ q, v.ownBlock = some q -> InS H [k1, k2] q := fun q hq => ⟨_, zl h1, by simp only [zd6]; cases Nat.beq k1 k2 <;> simp [Nat.beq_refl], hq⟩
 refine ⟨hk.mono fun q _ hq => hq.elim (i0 q) (i1 q), fun x hx => ?_, List.pairwise_singleton _ _⟩
 rw [List.mem_singleton] at hx
 subst hx
 exact ⟨hB, trivial, fun _ h => h, fun q hq => ⟨.inl (i0 q hq), by have hq : q = b := hq; rw [hq]; exact hB.lt⟩⟩
theorem zeU {Bs : ya} {H : Hp} {k1 k2 b : Nat} {v p : Value} {l : List UInt8} {w : World} (hI : VI Bs H w) (h0 : zm H k1 = some (.own b [p, v] 184)) (h1 : zm H k2 = some (.row 5 1 v l.length (Lib.byteCells l))) (hne : Nat.beq k1 k2 = false) (hv : l = [] -> v = .slice none 0 0) :
  Calls Tryz.prog 123 #[.pointer (some ⟨b, 0, none⟩)] w (Ret fun r w' => ∃ _x : Unit, r = .string ⟨l.toArray⟩ /\ Hands H [k1, k2] [(k1, .own b [p, v] 184)] w w') := by
 have hB : Blk w b [p, v] 184 := hI.at k1 h0
 have hR : w.ownsRow 0 5 1 v l.length (Lib.byteCells l) := hI.at k2 h1
 have hap : v.ownBlock ≠ some b := fun h => zw hI.apart h0 h1 hne b rfl h
 by_cases hl : l = []
 ·
  obtain rfl := hv hl
  subst hl
  refine (zbg p b w hB).mono ?_
  rintro e w' ⟨_, rfl, rfl, h2, h3⟩
  exact ⟨_, rfl, (), rfl, zgA h0 h1 h2 (h3.mono fun q _ hq => .inl hq)⟩
 ·
  have hpos := List.length_pos_iff.2 hl
  obtain ⟨g, cap, rfl⟩ : ∃ g cap, v = .slice (some ⟨g, 0, none⟩) l.length cap := by
   rcases hR.2 with ⟨_, h⟩ | ⟨g, cap, cur, hv, _⟩
   . omega
   . exact ⟨g, cap, hv⟩
  refine (zcb p b g cap l hl w hB hR hap).mono ?_
  rintro e w' ⟨_, rfl, rfl, h2, h3⟩
  exact ⟨_, rfl, (), rfl, zgA h0 h1 h2 h3⟩
theorem zg2 {Bs : ya} {H : Hp} {k1 k2 b m : Nat} {v p : Value} {bs : List Value} {s : ByteArray} {w : World} (hI : VI Bs H w) (h0 : zm H k1 = some (.own b [p, v] 184)) (h1 : zm H k2 = some (.row 5 1 v m bs)) (hne : Nat.beq k1 k2 = false) (hp : p = .pointer none \/ p = .pointer (some ⟨b, 0, none⟩)) (hs : 0 < s.size) (hlen : m + s.size <= 140737488355328) :
  Calls Tryz.prog 121 #[.pointer (some ⟨b, 0, none⟩), .string s] w (Ret fun r w' => ∃ v', r = .tuple #[.int .i64 s.size, .nilIface] /\ Hands H [k1, k2] (zhM k1 k2 b (.pointer (some ⟨b, 0, none⟩)) v' (m + s.size) (bs ++ Lib.strCells s)) w w') := by
 have hB : Blk w b [p, v] 184 := hI.at k1 h0
 have hR : w.ownsRow 0 5 1 v m bs := hI.at k2 h1
 have hm : bs.length = m := by have := hR.1; omega
 have hap : v.ownBlock ≠ some b := fun h => zw hI.apart h0 h1 hne b rfl h
 refine (zcQ p v b bs s hp w hB (by rw [hm]; exact hR) hap hs (by omega)).mono ?_
 rintro e w' ⟨_, rfl, rfl, v', h2, h3, h4, h5, h6⟩
 rw [hm] at h3
 have i0 : ∀ q, q = b -> InS H [k1, k2] q := fun q hq => ⟨_, zl h0, by simp [zd6, Nat.beq_refl], hq⟩
 have i1 : ∀ q, v.ownBlock = some q -> InS H [k1, k2] q := fun q hq => ⟨_, zl h1, by simp only [zd6]; rw [hne]; simp [Nat.beq_refl], hq⟩
 obtain ⟨l1, l2⟩ := zeT (k1 := k1) (k2 := k2) h2 h3 h4
 refine ⟨_, rfl, v', rfl, h5.mono fun q _ hq => hq.elim (i0 q) (i1 q), fun x hx => ?_, l2⟩
 obtain ⟨g1, g2, g3, g4⟩ := l1 x hx
 refine ⟨g1, g2, g3, fun q hq => ⟨?_, g4 q hq⟩⟩
 simp only [List.mem_cons, List.not_mem_nil, or_false] at hx
 rcases hx with rfl | rfl
 . exact .inl (i0 q hq)
 . exact (h6 q hq).imp (i1 q) id
structure ObB (o : List Int × Int) : Prop where
 len : o.1.length <= 100000
 outs : ∀ x ∈ o.1, -1048576 <= x /\ x <= 1048576
 t0 : 0 <= o.2
 t1 : o.2 <= 1000000000000
theorem zcc {c : UInt8} : ∀ {l : List Int}, (∀ x ∈ l, -1048576 <= x /\ x <= 1048576) -> (xd c l).length <= 22 * l.length
 | [], _ => Nat.zero_le _
 | x :: l, h => by
  have h1 := h x (zmc ..)
  have h2 := Lib.itoa_length_le x (by omega) (by omega)
  have h3 := zcc (c := c) fun y hy => h y (zmb _ hy)
  rw [qy, zmg, List.length_cons, List.length_cons]
  omega
theorem zh7 (o : List Int × Int) (ho : ObB o) (ov : Value) (D : Nat -> Prop) (W : World) (hd : SlR 1 zF D W ov o.1) (ht : Tab W) :
  Calls Tryz.prog 88 #[.agg #[ov, .int .i64 o.2]] W (Ret fun r w' => r = .string ⟨(xE o).toArray⟩ /\ Ext W w') := by
 obtain ⟨os, t⟩ := o
 dsimp only at hd
 obtain ⟨ao, co, rfl⟩ := hd.form
 have hlen := ho.len
 have hout := ho.outs
 have ht0 := ho.t0
 have ht1 := ho.t1
 dsimp only at hlen hout ht0 ht1
 refine zkG Tryz.func88 O Tryz.ntmps88 O (zkS ?_)
 refine Vs 2 O ?_
 refine V.box 1 O O (fun b1 => ?_)
 refine Vs 5 O ?_
 refine V.alloc 3 Tryz.zeroValue184 O O (fun b3 => ?_)
 refine Vs 11 O ?_
 refine zl2 901 5 1 O ?_
 refine Vs 1 O ?_
 refine zli (σ := Nat × Value × Value) [1, 3, 7, 8] [1] [1, 3] O (fun e ⟨i, p, v⟩ => (9, .int .i64 i) :: e) (fun e ⟨i, p, v⟩ => (3, .own b3 [p, v] 184) :: (901, .row 5 1 v (xd 44 (os.take i)).length (Lib.byteCells (xd 44 (os.take i)))) :: e) (fun ⟨i, p, v⟩ => i <= os.length /\ (p = .pointer none \/ p = .pointer (some ⟨b3, 0, none⟩)) /\ (xd 44 (os.take i) = [] -> v = .slice none 0 0)) (fun ⟨i, p, v⟩ => os.length - i) ((0, .pointer none, .slice none 0 0)) (zkg O) (zkh O) (fun _ => rfl) (fun _ => rfl) (fun _ => rfl) (⟨Nat.zero_le _, .inl rfl, fun _ => rfl⟩) ?_
 rintro ⟨i, p, v⟩ ⟨hi, hp, hv⟩
 show V _ _ _ _ _ ((9, .int .i64 i) :: _) _ ((3, .own b3 [p, v] 184) :: (901, .row 5 1 v (xd 44 (os.take i)).length (Lib.byteCells (xd 44 (os.take i)))) :: _) _
 have hsl := zcc (c := 44) (l := os.take i) fun x hx => hout x (List.mem_of_mem_take hx)
 rw [List.length_take] at hsl
 refine Vs 6 O ?_
 refine ziB O (fun hlt => ?_) (fun hlt => ?_)
 ·
  refine Vs 6 O ?_
  obtain ⟨x, he_x, hm_x⟩ := gE_ os (i) (by omega)
  obtain ⟨b_x, o_x, c_x, ha_x, _, hc_x, hR_x⟩ := hd.at he_x
  obtain rfl := hR_x
  refine zlf 1000 0 O O hc_x ?_
  refine zkZ 1000 tR31 ts3 O ha_x (by omega) (_) (rfl) O ?_
  have hx := hout x hm_x
  have hil := Lib.itoa_length_le x (by omega) (by omega)
  have hst : xd 44 (os.take (i + 1)) = xd 44 (os.take i) ++ (Lib.itoa x ++ [44]) := by
   rw [zg he_x, zca]; simp [xd]
  have hsz : ((⟨(Lib.itoa x).toArray⟩ : ByteArray) ++ ⟨#[44]⟩).size = (Lib.itoa x).length + 1 := by
   rw [show (⟨#[44]⟩ : ByteArray) = ⟨[44].toArray⟩ from rfl, zeR, zbf, zmg]; rfl
  refine Vs 6 O ?_
  refine zl7 Tryz.call122 O (fun w hI => zeS x (by omega) (by omega) w (Tr1 hI.k0 ht)) ?_
  refine zkx O (fun w hI => zlO O O (by rw [zbf]; have : (⟨#[44]⟩ : ByteArray).size = 1 := rfl; omega)) ?_
  refine zlw [3, 901] (Hn := fun v' : Value => [(3, .own b3 [.pointer (some ⟨b3, 0, none⟩), v'] 184), (901, .row 5 1 v' ((xd 44 (os.take i)).length + ((⟨(Lib.itoa x).toArray⟩ : ByteArray) ++ ⟨#[44]⟩).size) (Lib.byteCells (xd 44 (os.take i)) ++ Lib.strCells ((⟨(Lib.itoa x).toArray⟩ : ByteArray) ++ ⟨#[44]⟩)))]) [(1, some (1, 0)), (3, some (3, 0)), (11, some (1000, 0))] Tryz.call121 O (fun _ _ => rfl) (fun _ => rfl) (fun w hI => zg2 hI O O O hp (by omega) (by omega)) ?_
  rintro _ v' rfl
  refine zlh 901 O (e' := .row 5 1 v' (xd 44 (os.take (i + 1))).length (Lib.byteCells (xd 44 (os.take (i + 1))))) (by rw [hst, zmg, hsz, show (⟨#[44]⟩ : ByteArray) = ⟨[44].toArray⟩ from rfl, zeR, zbe, Lib.byteCells_append (xd 44 (os.take i)), zmg]; rfl) ?_
  refine Va 7 O (by omega) ?_
  refine ziM (⟨i + 1, _, v'⟩) (zkg O) (zkh O) (⟨by omega, .inr rfl, fun h => by rw [hst] at h; simp at h⟩) (by first | omega | (dsimp only; omega)) 0 O O
 ·
  obtain rfl : i = os.length := by omega
  rw [zmd] at *
  refine Vs 6 O ?_
  refine Vw [1, 3] [] O ?_
  refine Vd [1, 2] 0 (by kernel_rfl) O O O ?_
  refine zlx 0 0 [3, 901] (Hn := fun _x : Unit => [(3, .own b3 [p, v] 184)]) [(1, some (1, 0)), (3, some (3, 0)), (19, some (1, 1))] Tryz.call123 O (by kernel_rfl) O O (fun _ => rfl) (fun _ _ => rfl) (fun _ => rfl) (fun w hI => zeU hI O O O hv) ?_
  rintro _ ⟨⟩ rfl
  refine zl8 3 0 Tryz.call122 O (by kernel_rfl) O O (fun w hI => zeS t (by omega) (by omega) w (Tr1 hI.k0 ht)) ?_
  have hil := Lib.itoa_length_le t (by omega) (by omega)
  refine zky 4 0 O (by kernel_rfl) O O (fun w hI => zlO O O (by rw [zbf, zbf]; omega)) ?_
  refine Vd [5] 0 (by kernel_rfl) O O O ?_
  refine zjI (by kernel_rfl) ?_
  refine Vs 2 O ?_
  refine ziV Tryz.results88 O (fun w hI => ⟨_, rfl, by rw [zeR]; rfl, hI.k0⟩)
abbrev zfr (σ : Sg) : Prop := ∀ x ∈ σ.outs, -1048576 <= x /\ x <= 1048576
theorem zeV {f : Fl} {hs : List Int} {s : St} {σ : Sg} (hg : ∀ v ∈ f.vars, yn (v.low, v.high)) (ho : StepOk f s) (hV : InV f.vars σ.vals) (h : zfr σ) : zfr (qP f hs s σ) := by
 unfold qP
 split
 . exact h
 split
 ·
  intro x hx
  rcases List.mem_append.1 hx with hx | hx
  . exact h x hx
  ·
   rw [List.mem_singleton] at hx
   subst hx
   obtain ⟨r, hr⟩ := Option.isSome_iff_exists.1 ho.ranged
   have h1 := zeA hg hV s.term ho.formed r hr
   have h2 := qw hg s.term ho.formed r hr
   unfold yn at h2
   omega
 split
 . exact h
 split
 . exact h
 . exact h
theorem zcd {f : Fl} {body : Sg -> Sg} {s : St} (ho : StepOk f s) {b : Nat} (hb : ∀ N σ, SgB f N σ -> SgB f (N + b) (body σ)) (hO : ∀ N σ, SgB f N σ -> zfr σ -> zfr (body σ)) : ∀ (k N : Nat) (σ : Sg), SgB f N σ -> zfr σ -> zfr (xP body s.cost s.term k σ)
 | 0, N, σ, _, h => h
 | k + 1, N, σ, hB, h => by
  unfold xP
  have h1 := hB.cost ho
  split
  . exact h
  . exact zcd ho hb hO k _ _ (hb _ _ h1) (hO _ _ h1 h)
theorem zh8 {f : Fl} {hs : List Int} (hg : ∀ v ∈ f.vars, yn (v.low, v.high)) (l : List St) : PreOk f l -> ∀ N σ, SgB f N σ -> zfr σ -> zfr (exL f hs l σ) := by
 induction l using zk9 with
 | h l ih =>
 intro hp
 have key : ∀ r : List St, (∀ x ∈ r, x ∈ l) -> ∀ N σ, SgB f N σ -> zfr σ -> zfr (exL f hs r σ) := by
  intro r
  induction r with
  | nil => intro _ N σ _ h; exact h
  | cons x r ihr =>
   intro hm N σ hB h
   have hpx := hp.kids (hm x (zmc ..))
   obtain ⟨⟨ho, hse, hn4⟩, hp1, hp2⟩ := hpx
   obtain ⟨i1, i2⟩ := ih x (hm x (zmc ..))
   rw [exL]
   have hx1 : PreOk f [x] := fun s hs => hp s (by
    obtain ⟨a, b, rfl⟩ := List.append_of_mem (hm x (zmc ..))
    rw [qM, show x :: b = [x] ++ b from rfl, qM]
    simp [hs])
   have hB' := zaf (hs := hs) hg [x] hx1 N σ hB
   have hxx : exL f hs [x] σ = exS f hs x σ := rfl
   rw [hxx] at hB'
   refine ihr (fun y hy => hm y (zmb _ hy)) _ _ hB' ?_
   rw [jn]
   split
   ·
    split
    . exact i1 hp1 _ _ (hB.cost ho) h
    . exact i2 hp2 _ _ (hB.cost ho) h
   ·
    split
    . exact zcd ho (zaf hg x.thn hp1) (i1 hp1) _ _ _ hB h
    . exact zeV hg ho hB.inv h
 exact key l (fun x h => h)
theorem zhN {f : Fl} (vd : Valid f) (pub : List Int) (s : Int) : ObB (obN f pub s) := by
 unfold obN
 split
 ·
  rename_i h
  have hst : zM f.vars (qU f pub s) = 0 := by
   unfold zP at h
   rwa [if_neg (not_not_intro vd.ok)] at h
  have h1 := zaf (hs := jp f (qU f pub s)) vd.good f.body (zba vd) 0 _ (zag hst)
  have h2 := zh8 (hs := jp f (qU f pub s)) vd.good f.body (zba vd) 0 _ (zag hst) (fun x hx => by cases hx)
  have hnb := vd.nb
  have a1 := h1.ol
  have a2 := h1.t0
  have a3 := h1.t1
  exact ⟨by show (qk f (qU f pub s)).outs.length <= _; unfold qk; omega, h2, by show 0 <= (qk f (qU f pub s)).time; unfold qk; omega, by show (qk f (qU f pub s)).time <= _; unfold qk; omega⟩
 . exact ⟨Nat.zero_le _, (fun x hx => by cases hx), Int.le_refl _, (show (0 : Int) <= 1000000000000 by decide)⟩
theorem zaJ (f : Fl) (vd : Valid f) (v1 v2 v3 : Value) (D : Nat -> Prop) (W : World) (hf : RFl D W f v1 v2 v3) : Calls Tryz.prog 89 #[.agg #[v1, v2, v3]] W (Ret fun r w' => r = .int .i64 (spN f) /\ Ext W w') := by
 have hl := vd.lens
 have hsp : (zp 1 f.vars).getD 0 = (spN f : Int) := by
  unfold spN
  cases h : zp 1 f.vars with
  | none => rfl
  | some m =>
   have := yq 1 f.vars 1 m vd.good (by omega) (by omega) h
   simp only [Option.getD_some]
   omega
 refine zkG Tryz.func89 O Tryz.ntmps89 O (zkS ?_)
 refine Vs 2 O ?_
 refine V.box 1 O O (fun b1 => ?_)
 refine Vs 7 O ?_
 refine zl7 Tryz.call124 O (fun w hI => za5 f.vars 1 v1 D w (by decide) vd.good (Tr1 hI.k0 hf.vars) (by omega)) ?_
 refine Vs 14 O ?_
 refine ziV Tryz.results89 O (fun w hI => ⟨_, rfl, by rw [hsp], hI.k0⟩)
theorem zeW {f : Fl} (vd : Valid f) : spN f <= 4096 := by
 unfold spN
 cases h : zp 1 f.vars with
 | none => simp
 | some m =>
  have := yq 1 f.vars 1 m vd.good (by omega) (by omega) h
  simp only [Option.getD_some]
  omega
theorem zgB (f : Fl) (vd : Valid f) (v1 v2 v3 : Value) (D : Nat -> Prop) (W : World) (hf : RFl D W f v1 v2 v3) : Calls Tryz.prog 52 #[.agg #[v1, v2, v3]] W (Ret fun r w' => SlR 1 zF (fun b => W.heap.size <= b) w' r (zax f) /\ Ext W w') := by
 have hsp := zeW vd
 have hla : (zax f).length = spN f := by simp [zax]
 refine zkG Tryz.func52 O Tryz.ntmps52 O (zkS ?_)
 refine Vs 2 O ?_
 refine V.box 1 O O (fun b1 => ?_)
 refine Vs 12 O ?_
 refine zl7 Tryz.call89 O (fun w hI => zaJ f vd v1 v2 v3 D w (Tr1 hI.k0 hf)) ?_
 refine zl2 900 3 1 O ?_
 refine Vs 4 O ?_
 refine zli (σ := Nat × Value) [6] [] [] O (fun e ⟨i, v⟩ => (7, .int .i64 i) :: (3, v) :: e) (fun e ⟨i, v⟩ => (900, .row 3 1 v i (((zax f).take i).map zi)) :: e) (fun ⟨i, v⟩ => i <= spN f) (fun ⟨i, v⟩ => spN f - i) ((0, .slice none 0 0)) (zkg O) (zkh O) (fun _ => rfl) (fun _ => rfl) (fun _ => rfl) (Nat.zero_le _) ?_
 rintro ⟨i, v⟩ hi
 show V _ _ _ _ _ ((7, .int .i64 i) :: (3, v) :: _) _ ((900, .row 3 1 v i (((zax f).take i).map zi)) :: _) _
 refine Vs 6 O ?_
 refine ziB O (fun hlt => ?_) (fun hlt => ?_)
 ·
  have zm : (zax f)[i]? = some (i : Int) := by simp [zax, List.getElem?_range (show i < spN f by omega)]
  refine Vs 13 O ?_
  refine zll 12 [(0, _)] tR31 ts3 tz3 (by decide) O O (by kernel_rfl) (fun b12 => ?_)
  refine V.ap 900 12 tu31 Tryz.el3 O (by decide) O O (by omega) (by omega) (fun u900 => ?_)
  refine Va 8 O (by omega) ?_
  refine zlh 900 O (e' := .row 3 1 u900 (i + 1) (((zax f).take (i + 1)).map zi)) (by rw [List.take_add_one, zm, List.map_append]; rfl) ?_
  refine ziM (⟨i + 1, u900⟩) (zkg O) (zkh O) (by omega) (by first | omega | (dsimp only; omega)) 0 O O
 ·
  obtain rfl : i = spN f := by omega
  refine zlh 900 O (e' := .row 3 1 v (zax f).length ((zax f).map zi)) (by rw [<- hla, zmd]) ?_
  refine Vs 12 O ?_
  refine ziV Tryz.results52 O (fun w hI => ⟨_, rfl, zjO zi (fun _ _ => rfl) (hI.at 900 O) (fun b hb => hI.own 900 0 O O b hb), hI.k0⟩)
end Go.Proofs.YtbkhagigkglgoaaGreatDoor
namespace Go.GL
open Go.Sort Go.Proofs
theorem zg3 {w w' : World} (h : Ext w w') : ∃ q os, w' = grow (w.drewN q) os := by
 refine ⟨w'.drawn - w.drawn, w'.heap.extract w.heap.size w'.heap.size, ?_⟩
 have hd := h.drawn
 have hh : w'.heap = w.heap ++ w'.heap.extract w.heap.size w'.heap.size := by
  apply Array.ext_getElem?
  intro i
  by_cases hi : i < w.heap.size
  ·
   rw [Array.getElem?_append_left hi]
   exact h.block i hi (fun h => h)
  ·
   rw [Array.getElem?_append_right (by omega), Array.getElem?_extract]
   by_cases hi2 : i < w'.heap.size
   . rw [if_pos (by omega), show w.heap.size + (i - w.heap.size) = i from by omega]
   . rw [if_neg (by omega), Array.getElem?_eq_none (by omega)]
 have : ∀ (a b : World), a.heap = b.heap -> a.tape = b.tape -> a.drawn = b.drawn -> a.os = b.os -> a.output = b.output -> a = b := by
  intro a b h1 h2 h3 h4 h5
  cases a; cases b
  simp at h1 h2 h3 h4 h5
  subst h1 h2 h3 h4 h5
  rfl
 refine this _ _ hh h.tape ?_ h.os h.output
 show w'.drawn = w.drawn + (w'.drawn - w.drawn)
 omega
section
variable {α : Type} [Inhabited α] {enc : α -> List Value} {k : Nat}
theorem zaK (hk : ∀ x, (enc x).length = k) (d : Array α) : (flatK enc k d).toList = d.toList.flatMap enc := by
 apply List.ext_getElem?
 intro t
 have hl : (d.toList.flatMap enc).length = d.size * k := by rw [yC hk, Array.length_toList]
 by_cases ht : t < d.size * k
 ·
  have hk0 : 0 < k := by
   rcases Nat.eq_zero_or_pos k with h | h
   . rw [h] at ht; omega
   . exact h
  have hd : t / k < d.size := Nat.div_lt_of_lt_mul (by rw [Nat.mul_comm]; exact ht)
  have hm : t % k < k := Nat.mod_lt _ hk0
  have h1 := get_flatK enc k d t ht
  have h2 : (flatK enc k d).toList[t]? = some ((flatK enc k d)[t]!) := by
   rw [Array.getElem?_toList, getElem!_pos _ t (by simpa using ht)]
   exact Array.getElem?_eq_getElem (by simpa using ht)
  rw [h2, h1]
  have h3 : d.toList[t / k]? = some d[t / k]! := by
   rw [Array.getElem?_toList, getElem!_pos _ (t / k) hd]
   exact Array.getElem?_eq_getElem hd
  have h4 : (enc d[t / k]!)[t % k]? = some ((enc d[t / k]!)[t % k]!) := by
   rw [getElem!_pos _ (t % k) (by rw [hk]; exact hm)]
   exact zm8 (by rw [hk]; exact hm)
  have h5 := zea hk h3 [] (t % k) _ h4
  rw [List.append_nil, Nat.mul_comm, Nat.div_add_mod] at h5
  rw [h5]
 . rw [List.getElem?_eq_none (by rw [Array.length_toList, size_flatK]; omega), List.getElem?_eq_none (by rw [hl]; omega)]
theorem zbh (hk : ∀ x, (enc x).length = k) (l : List α) (d : Array α) (sp : List Value) (hs : d.size = l.length) : putCells id 0 (flatK enc k d) (l.flatMap enc ++ sp).toArray = (d.toList.flatMap enc ++ sp).toArray := by
 have hl := yC hk l
 have hl' : (d.toList.flatMap enc).length = d.size * k := by rw [yC hk, Array.length_toList]
 have hsz := size_flatK enc k d
 apply Array.ext_getElem?
 intro j
 rw [<- zaK hk d]
 simp only [putCells, Array.getElem?_mapIdx, List.getElem?_toArray]
 by_cases hj : j < d.size * k
 ·
  rw [List.getElem?_append_left (by rw [hl, <- hs]; exact hj), List.getElem?_append_left (by simpa using hj)]
  rw [zm8 (by rw [hl, <- hs]; exact hj)]
  simp only [Option.map_some, Nat.zero_le, Nat.zero_add, hsz, hj, and_self, if_true, Nat.sub_zero, id]
  rw [Array.getElem?_toList, getElem!_pos _ j (by rw [hsz]; exact hj)]
  exact (Array.getElem?_eq_getElem (by rw [hsz]; exact hj)).symm
 ·
  rw [List.getElem?_append_right (by rw [hl, <- hs]; omega), List.getElem?_append_right (by simp; omega)]
  simp only [hl, <- hs, Array.length_toList, hsz, Nat.zero_add, hj, and_false, if_false, Option.map_id']
theorem zdT (hk : ∀ x, (enc x).length = k) {w : World} {b : Nat} {l : List α} {sp : List Value} {e : TypeId} (hb : Blk w b (l.flatMap enc ++ sp) e) : HoldsK enc k w b 0 l.toArray := by
 intro j hj
 rw [size_flatK] at hj
 refine ⟨?_, hb.frozen⟩
 have h1 : (flatK enc k l.toArray).toList[j]? = some ((flatK enc k l.toArray)[j]!) := by
  rw [Array.getElem?_toList, getElem!_pos _ j (by simpa using hj)]
  exact Array.getElem?_eq_getElem (by simpa using hj)
 rw [zaK hk] at h1
 refine hb.cells j _ ?_
 rw [List.getElem?_append_left (List.getElem?_eq_some_iff.1 h1).1]
 exact h1
theorem jX (hk : ∀ x, (enc x).length = k) {w : World} {b : Nat} {l : List α} {sp : List Value} {e : TypeId} (hb : Blk w b (l.flatMap enc ++ sp) e) (d : Array α) (hs : d.size = l.length) (m : Nat) (os : Array Obj) :
  Blk (sortWorldK enc k w b 0 m d os) b (d.toList.flatMap enc ++ sp) e /\ Keep (fun q => q = b) w (sortWorldK enc k w b 0 m d os) := by
 have hblk := hb.lt
 have hsz : (putRow id (Sort.ahead w m) b 0 (flatK enc k d)).heap.size = w.heap.size := by simp [Sort.ahead]
 have hat : ∀ i, i < w.heap.size -> (sortWorldK enc k w b 0 m d os).heap[i]? = (putRow id (Sort.ahead w m) b 0 (flatK enc k d)).heap[i]? := by
  intro i hi
  show ((putRow id (Sort.ahead w m) b 0 (flatK enc k d)).heap ++ os)[i]? = _
  rw [Array.getElem?_append_left (by rw [hsz]; exact hi)]
 refine ⟨?_, rfl, rfl, rfl, Nat.le_add_right _ _, ?_, ?_⟩
 ·
  unfold Blk at *
  rw [hat b hblk]
  show (w.heap.modify b _)[b]? = _
  rw [Array.getElem?_modify, if_pos rfl, hb]
  simp only [Option.map_some, onCells]
  rw [zbh hk l d sp hs]
 ·
  show w.heap.size <= ((putRow id (Sort.ahead w m) b 0 (flatK enc k d)).heap ++ os).size
  rw [Array.size_append, hsz]; omega
 ·
  intro i hi hne
  rw [hat i hi]
  show (w.heap.modify b _)[i]? = _
  rw [Array.getElem?_modify, if_neg (fun h => hne h.symm)]
theorem zcR {l : List α} {d : Array α} (h : PermIn 0 l.toArray.size l.toArray d) : d.toList.Perm l := by
 obtain ⟨h1, _, h3⟩ := h
 have e1 : l.toArray.extract 0 l.toArray.size = l.toArray := by simp
 have e2 : d.extract 0 l.toArray.size = d := by rw [<- h1]; simp
 rw [e1, e2] at h3
 exact h3
theorem zbi {lt : α -> α -> Bool} {d : Array α} {n : Nat} (hn : d.size = n) (h : SortedIn lt 0 n d) : d.toList.Pairwise (fun a b => lt b a = false) := by
 subst hn
 rw [List.pairwise_iff_getElem]
 intro i j hi hj hij
 have := h i j (Nat.zero_le _) hij (by simpa using hj)
 rw [getElem!_pos _ i (by simpa using hi), getElem!_pos _ j (by simpa using hj)] at this
 simpa using this
end
end Go.GL
namespace Go.Proofs
open Go.Shelf
def Tryz.laysSlF06_f67_ren : Go.Shelf.Ren := ⟨fun | 6 => 67 | 15 => 100 | 14 => 99 | 28 => 138 | 29 => 139 | 20 => 130 | 21 => 131 | 22 => 132 | 23 => 133 | 24 => 134 | 25 => 135 | 26 => 136 | 27 => 137 | 46 => 163 | 47 => 164 | 48 => 165 | 49 => 166 | 50 => 167 | 57 => 189 | n => n, fun | 22 => 76 | 24 => 60 | 25 => 92 | 3 => 3 | 39 => 157 | 0 => 0 | 53 => 202 | 55 => 204 | 4 => 4 | 46 => 196 | 45 => 195 | 50 => 29 | 5 => 5 | 9 => 9 | 66 => 226 | 70 => 230 | 76 => 247 | 77 => 209 | n => n, fun | n => n⟩
theorem Tryz.laysSlF06_f67 : Go.Proofs.SlLaysF0.n6 Tryz.prog Tryz.laysSlF06_f67_ren := {
 mixed := by kernel_rfl
 f6 := ⟨Tryz.f67.name, by decide, Tryz.func67.trans (congrArg some (by kernel_rfl))⟩
 f14 := ⟨Tryz.f99.name, by decide, Tryz.func99.trans (congrArg some (by kernel_rfl))⟩
 f15 := Tryz.func100.trans (congrArg some (by kernel_rfl))
 f20 := ⟨Tryz.f130.name, by decide, Tryz.func130.trans (congrArg some (by kernel_rfl))⟩
 f21 := ⟨Tryz.f131.name, by decide, Tryz.func131.trans (congrArg some (by kernel_rfl))⟩
 f22 := ⟨Tryz.f132.name, by decide, Tryz.func132.trans (congrArg some (by kernel_rfl))⟩
 f23 := ⟨Tryz.f133.name, by decide, Tryz.func133.trans (congrArg some (by kernel_rfl))⟩
 f24 := ⟨Tryz.f134.name, by decide, Tryz.func134.trans (congrArg some (by kernel_rfl))⟩
 f25 := ⟨Tryz.f135.name, by decide, Tryz.func135.trans (congrArg some (by kernel_rfl))⟩
 f26 := ⟨Tryz.f136.name, by decide, Tryz.func136.trans (congrArg some (by kernel_rfl))⟩
 f27 := ⟨Tryz.f137.name, by decide, Tryz.func137.trans (congrArg some (by kernel_rfl))⟩
 f28 := Tryz.func138.trans (congrArg some (by kernel_rfl))
 f29 := Tryz.func139.trans (congrArg some (by kernel_rfl))
 f46 := ⟨Tryz.f163.name, by decide, Tryz.func163.trans (congrArg some (by kernel_rfl))⟩
 f47 := Tryz.func164.trans (congrArg some (by kernel_rfl))
 f48 := Tryz.func165.trans (congrArg some (by kernel_rfl))
 f49 := ⟨Tryz.f166.name, by decide, Tryz.func166.trans (congrArg some (by kernel_rfl))⟩
 f50 := ⟨Tryz.f167.name, by decide, Tryz.func167.trans (congrArg some (by kernel_rfl))⟩
 f57 := ⟨Tryz.f189.name, by decide, Tryz.func189.trans (congrArg some (by kernel_rfl))⟩
 t0 := Tryz.underlying0
 a0 := Tryz.isAgg0
 z0 := Tryz.sizeOf0
 v0 := Tryz.zeroValue0
 t3 := tu3
 a3 := tg3
 z3 := ts3
 v3 := tz3
 t4 := tu4
 a4 := tg4
 z4 := ts4
 v4 := tz4
 t5 := Tryz.underlying5
 a5 := Tryz.isAgg5
 z5 := ts5
 v5 := Tryz.zeroValue5
 t9 := tu9
 a9 := tg9
 z9 := ts9
 v9 := Tryz.zeroValue9
 t22 := Tryz.underlying76
 a22 := Tryz.isAgg76
 z22 := Tryz.sizeOf76
 v22 := Tryz.zeroValue76
 t25 := Tryz.underlying92
 a25 := Tryz.isAgg92
 z25 := Tryz.sizeOf92
 v25 := Tryz.zeroValue92
 t39 := Tryz.underlying157
 a39 := Tryz.isAgg157
 z39 := Tryz.sizeOf157
 v39 := Tryz.zeroValue157
 t45 := Tryz.underlying195
 a45 := Tryz.isAgg195
 z45 := Tryz.sizeOf195
 v45 := Tryz.zeroValue195
 t46 := Tryz.underlying196
 a46 := Tryz.isAgg196
 z46 := Tryz.sizeOf196
 v46 := Tryz.zeroValue196
 t50 := Tryz.underlying29
 a50 := Tryz.isAgg29
 z50 := Tryz.sizeOf29
 v50 := Tryz.zeroValue29
 t53 := Tryz.underlying202
 a53 := Tryz.isAgg202
 z53 := Tryz.sizeOf202
 v53 := Tryz.zeroValue202
 t55 := Tryz.underlying204
 a55 := Tryz.isAgg204
 z55 := Tryz.sizeOf204
 v55 := Tryz.zeroValue204
 t66 := Tryz.underlying226
 a66 := Tryz.isAgg226
 z66 := Tryz.sizeOf226
 v66 := Tryz.zeroValue226
 t70 := Tryz.underlying230
 a70 := Tryz.isAgg230
 z70 := Tryz.sizeOf230
 v70 := Tryz.zeroValue230
 t76 := Tryz.underlying247
 a76 := Tryz.isAgg247
 z76 := Tryz.sizeOf247
 v76 := Tryz.zeroValue247
 t77 := Tryz.underlying209
 a77 := Tryz.isAgg209
 z77 := Tryz.sizeOf209
 v77 := Tryz.zeroValue209 }
open Go.RowKit Go.Lib Go.Sort in
theorem Tryz.slices_SortFunc {α : Type} [Inhabited α] (k : Nat) (aE : ∀ w, (isAgg 60).run Tryz.prog w = .ok true w) (zE : ∀ w, (Go.sizeOf 60).run Tryz.prog w = .ok k w) (enc : α -> List Value) (hk : ∀ x, (enc x).length = k) (h1 : ∀ x, ∀ v ∈ enc x, v.oneCell' = true) (cf : α -> α -> Int) (hO : SWO (ltOf cf)) (g : Nat) (cb : Array Value) (blk off cap : Nat) (d : Array α) (w : World) (eg : ∀ args w, (callFunc g args).run Tryz.prog w = .ok (.enter g args) w) (hcmp : CmpLays Tryz.prog g cb enc k cf blk off d.size w) (hH : HoldsK enc k w blk off d) (hblk : blk < w.heap.size) (hsz : d.size < 4611686018427387904) :
  Calls Tryz.prog 67 #[.slice (some ⟨blk, off, none⟩) d.size cap, .func (.func g) #[] cb] w fun e w' =>
   e = .returned (.tuple #[]) /\ ∃ d' n os, PermIn 0 d.size d d' /\ SortedIn (ltOf cf) 0 d.size d' /\ w' = sortWorldK enc k w blk off n d' os := AnyQ.slices_SortFunc Tryz.laysSlF06_f67 k aE zE enc hk h1 cf hO g cb blk off cap d w eg hcmp hH hblk hsz
open Go.RowKit Go.Lib Go.Sort in
theorem Tryz.slices_SortFunc_none {α : Type} [Inhabited α] (p : Option Addr) (cap : Nat) (fv : Value) (w : World) :
  Calls Tryz.prog 67 #[.slice p 0 cap, fv] w fun e w' => e = .returned (.tuple #[]) /\ w' = w := AnyF.slices_SortFunc_none Tryz.laysSlF06_f67 p cap fv w
end Go.Proofs
namespace Go.Proofs.YtbkhagigkglgoaaGreatDoor
open Go.GL
abbrev ObC (F : Nat -> Prop) (w : World) := { x : Ob × Value // SlR 1 zF F w x.2 x.1.1 }
abbrev zeX {F : Nat -> Prop} {w : World} (x : ObC F w) : List Value := [x.1.2, .int .i64 x.1.1.2]
theorem zds {F : Nat -> Prop} {w : World} : ∀ (l : List Ob) (xs : List Value), xs.length = l.length * 2 -> (∀ (i : Nat) x, l[i]? = some x -> ROb F w x ((xs.drop (i * 2)).take 2)) -> ∃ es : List (ObC F w), es.map (fun e => e.1.1) = l /\ es.flatMap zeX = xs
 | [], [], _, _ => ⟨[], rfl, rfl⟩
 | [], _ :: _, h, _ => by simp at h
 | x :: l, [], h, _ => by simp at h
 | x :: l, [_], h, _ => by simp at h; omega
 | x :: l, a :: b :: xs, h, hR => by
  obtain ⟨v, h1, h2⟩ := hR 0 x rfl
  simp only [Nat.zero_mul, List.drop_zero, List.take_succ_cons, List.take_zero, List.cons.injEq, and_true] at h1
  obtain ⟨rfl, rfl⟩ := h1
  obtain ⟨es, h3, h4⟩ := zds l xs (by simp at h; omega) (fun i y hy => by
   have := hR (i + 1) y (by simpa using hy)
   rw [Nat.succ_mul] at this
   simpa using this)
  exact ⟨⟨(x, a), h2⟩ :: es, by simp [h3], by simp [h4]⟩
theorem zeY {F : Nat -> Prop} {w w' : World} (hk : ∀ (v : Value) (x : List Int), SlR 1 zF F w v x -> SlR 1 zF F w' v x) : ∀ (es : List (ObC F w)) (i : Nat) (x : Ob), (es.map (fun e => e.1.1))[i]? = some x -> ROb F w' x (((es.flatMap zeX).drop (i * 2)).take 2)
 | [], i, x, h => by simp at h
 | e :: es, 0, x, h => by
  simp only [List.map_cons, List.getElem?_cons_zero, Option.some.injEq] at h
  subst h
  exact ⟨e.1.2, by simp, hk _ _ e.2⟩
 | e :: es, i + 1, x, h => by
  simp only [List.map_cons, List.getElem?_cons_succ] at h
  have := zeY hk es i x h
  rw [Nat.succ_mul]
  simpa using this
theorem zg4 (f : FuncId) (hf : ∀ args w, (callFunc f args).run Tryz.prog w = .ok (.enter f args) w)
  (hcf : ∀ (x y : Ob) (u v : Value) (D D' : Nat -> Prop) (W : World), SlR 1 zF D W u x.1 -> SlR 1 zF D' W v y.1 -> Calls Tryz.prog f #[.agg #[u, .int .i64 x.2], .agg #[v, .int .i64 y.2]] W (Ret fun r w' => r = .int .i64 (yu x y) /\ Ext W w'))
  (l : List Ob) (hlen : l.length <= 1048576) (v : Value) (F : Nat -> Prop) (w : World) (hown : OwH 60 2 ROb F w v l) :
  Calls Tryz.prog 67 #[v, .func (.func f) #[] #[]] w (Ret fun u w' => u = .tuple #[] /\ ∃ l' : List Ob, l'.Perm l /\ l'.Pairwise (fun a b => ¬ yu b a < 0) /\ OwH 60 2 ROb F w' v l' /\ Keep (fun q => v.ownBlock = some q) w w') := by
 by_cases h0 : l = []
 ·
  subst h0
  obtain ⟨ao, c, rfl, _⟩ := hown.form
  haveI : Inhabited Nat := ⟨0⟩
  refine (Tryz.slices_SortFunc_none (α := Nat) ao c (.func (.func f) #[] #[]) w).mono ?_
  rintro e w' ⟨rfl, rfl⟩
  exact ⟨_, rfl, rfl, [], List.Perm.refl _, List.Pairwise.nil, hown, Keep.refl _ _⟩
 obtain ⟨⟨xs, hx1, hx2⟩, hF⟩ := hown
 obtain ⟨es, he1, he2⟩ := zds l xs hx1.1 hx2
 subst he2
 have hel : es.length = l.length := by rw [<- he1, List.length_map]
 have hes : es ≠ [] := fun h => h0 (by rw [<- he1, h]; rfl)
 obtain ⟨g, cap, sp, rfl, _, hnc, hcm, hB, hcl⟩ := zfu (enc := zeX) (c := 2) (fun _ => rfl) (by omega) hx1 hes
 haveI : Inhabited (ObC F w) := ⟨es.head hes⟩
 have hFg : ∀ q, F q -> q ≠ g := fun q hq e => (hF q hq).2 (by rw [e]; rfl)
 have hlt' : ∀ x y : ObC F w, Go.Proofs.ltOf (fun x y : ObC F w => yu x.1.1 y.1.1) x y = true ↔ yu x.1.1 y.1.1 < 0 := by
  intro x y
  unfold Go.Proofs.ltOf
  rw [decide_eq_true_eq]
 have hlf : ∀ x y : ObC F w, Go.Proofs.ltOf (fun x y : ObC F w => yu x.1.1 y.1.1) x y = false ↔ ¬ yu x.1.1 y.1.1 < 0 := by
  intro x y
  rw [<- hlt', Bool.not_eq_true]
 have hswo : Go.Sort.SWO (Go.Proofs.ltOf fun x y : ObC F w => yu x.1.1 y.1.1) := by
  refine ⟨?_, ?_, ?_⟩
  . intro x; rw [hlf, jH]; omega
  . intro x y z; rw [hlt', hlt', hlt']; exact qT
  ·
   intro x y z; rw [hlf, hlf, hlf]
   intro h1 h2 h3
   have a1 := xg x.1.1 y.1.1
   have a2 := xg y.1.1 z.1.1
   have a3 := xg x.1.1 z.1.1
   rcases Int.lt_or_le (yu y.1.1 x.1.1) 0 with b | b
   . have := qT b h3; omega
   ·
    have e : x.1.1 = y.1.1 := js (by omega)
    rw [e] at h3; exact h2 h3
 have hst : ∀ (d : Array (ObC F w)) (m : Nat) (os : Array Obj), d.size = es.length -> ∀ (v : Value) (x : List Int), SlR 1 zF F w v x -> SlR 1 zF F (sortWorldK zeX 2 w g 0 m d os) v x := fun d m os hd v x hs =>
  hs.keep zc (jX (enc := zeX) (k := 2) (fun _ => rfl) hB d hd m os).2 (fun q hq _ => hFg q hq)
 have hcon := Tryz.slices_SortFunc (α := ObC F w) 2 tg60 ts60 zeX (fun _ => rfl) (fun x v hv => zgy F x.1.1 (zeX x) ⟨x.1.2, rfl, x.2⟩ v hv) (fun x y => yu x.1.1 y.1.1) hswo f #[] g 0 cap es.toArray w hf
  (fun m os dk hd x y => by
   have hd' : dk.size = es.length := by simpa using hd
   refine (hcf x.1.1 y.1.1 _ _ F F _ (hst dk m os hd' _ _ x.2) (hst dk m os hd' _ _ y.2)).mono ?_
   rintro e w' ⟨v, rfl, rfl, hk⟩
   exact ⟨rfl, zg3 hk⟩)
  (zdT (enc := zeX) (k := 2) (fun _ => rfl) hB) hB.lt (by simp only [List.size_toArray]; omega)
 rw [show es.toArray.size = l.length from by simpa using hel] at hcon
 refine hcon.mono ?_
 rintro e w' ⟨rfl, d', q, os, hp, hs, rfl⟩
 have hds : d'.size = es.length := by have := hp.1; simpa using this
 have hw := jX (enc := zeX) (k := 2) (fun _ => rfl) hB d' hds q os
 have hperm : d'.toList.Perm es := zcR (by rw [show es.toArray.size = l.length from by simpa using hel]; exact hp)
 have hdl : d'.toList.length = l.length := by rw [hperm.length_eq, hel]
 refine ⟨_, rfl, rfl, d'.toList.map (fun e => e.1.1), ?_, ?_, ⟨⟨d'.toList.flatMap zeX, ?_, ?_⟩, fun q hq => ⟨Nat.lt_of_lt_of_le (hF q hq).1 hw.2.size, (hF q hq).2⟩⟩, hw.2.mono (fun q _ h => by rw [h]; rfl)⟩
 ·
  have := hperm.map (fun e => e.1.1)
  rwa [he1] at this
 ·
  rw [List.pairwise_map]
  refine (zbi (by rw [hds, hel]) hs).imp ?_
  intro a b h
  exact (hlf _ _).1 h
 ·
  have h4 := zfv (enc := zeX) (c := 2) (cap := cap) (fun _ => rfl) hw.1 (by rw [<- hcl, zmg, zmg, yC (c := 2) (fun _ => rfl), yC (c := 2) (fun _ => rfl), hperm.length_eq]) (k := l.length) (by omega) hnc hcm
  rw [List.take_of_length_le (by omega)] at h4
  rw [List.length_map, hdl]
  exact h4
 . exact zeY (hst d' q os hds) d'.toList
def ze6 {α : Type} (p : α -> Bool) (l : List α) : Int := if l.any p then (l.findIdx p : Nat) else -1
theorem zbj {α : Type} {p : α -> Bool} {l : List α} {i : Nat} {x : α} (h : (l.take i).any p = false) (hx : l[i]? = some x) (hp : p x = true) : ze6 p l = i := by
 have hl := (List.getElem?_eq_some_iff.1 hx).1
 have hm := zm9 hx
 unfold ze6
 rw [if_pos (List.any_eq_true.2 ⟨x, hm, hp⟩)]
 have h1 : l.findIdx p = i := by
  rw [List.findIdx_eq hl]
  refine ⟨by rw [(List.getElem?_eq_some_iff.1 hx).2]; exact hp, fun j hj => ?_⟩
  have h2 := List.any_eq_false.1 h (l[j]'(by omega)) (zm9 (i := j) (by rw [List.getElem?_take, if_pos hj]; exact zm8 _))
  simpa using h2
 rw [h1]
theorem ju {α : Type} {p : α -> Bool} {l : List α} (h : l.any p = false) : ze6 p l = -1 := by unfold ze6; rw [h]; rfl
theorem zbk {α : Type} {p : α -> Bool} {l : List α} : 0 <= ze6 p l ↔ l.any p = true := by
 unfold ze6
 split
 . rename_i h; exact ⟨fun _ => h, fun _ => by omega⟩
 . rename_i h; exact ⟨fun h => by omega, fun h' => absurd h' h⟩
theorem ky {α : Type} {p : α -> Bool} {l : List α} {k : Nat} {x : α} (hx : l[k]? = some x) (h : (l.take k).any p = false) (hp : p x = false) : (l.take (k + 1)).any p = false := by rw [zg hx, List.any_append, h]; simp [hp]
theorem zg5 (p : (List Int × Int) -> Bool) (l : List (List Int × Int)) (v : Value) (D : Nat -> Prop) (g : FuncId) (cp : Value) (W : World) (hf : ∀ args w, (callFunc g args).run Tryz.prog w = .ok (.enter g args) w) (hl : SlR 2 ROb D W v l)
  (hc : ∀ (x : (List Int × Int)) (u : Value) (w : World), Ext W w -> x ∈ l -> SlR 1 zF D w u x.1 -> Calls Tryz.prog g #[.agg #[u, .int .i64 x.2], cp] w (Ret fun r w' => r = .bool (p x) /\ Ext w w')) :
  Calls Tryz.prog 50 #[v, .func (.func g) #[] #[cp]] W (Ret fun r w' => r = .int .i64 (ze6 p l) /\ Ext W w') := by
 obtain ⟨av, cv, rfl⟩ := hl.form
 have hmx := hl.max
 refine zkH Tryz.func50 O Tryz.ntmps50 O (zkS ?_)
 refine Vs 14 O ?_
 refine zli (σ := Nat) [0, 1, 7] [] [] O (fun e i => (8, .int .i64 i) :: e) (fun e i => e) (fun i => i <= l.length /\ (l.take i).any p = false) (fun i => l.length - i) (0) (zkg O) (zkh O) (fun _ => rfl) (fun _ => rfl) (fun _ => rfl) (⟨Nat.zero_le _, by simp⟩) ?_
 rintro i ⟨hi, hno⟩
 refine Vs 6 O ?_
 refine ziB O (fun hlt => ?_) (fun hlt => ?_)
 ·
  refine Vs 15 O ?_
  obtain ⟨x, he_x, hm_x⟩ := gE_ l (i) (by omega)
  obtain ⟨b_x, o_x, c_x, ha_x, _, hc_x, hR_x⟩ := hl.at he_x
  obtain ⟨v1_x, rfl, hs_x⟩ := hR_x
  obtain ⟨a1_x, n1_x, rfl⟩ := hs_x.form
  refine zlf 1000 0 O O hc_x ?_
  refine zkZ 1000 tR76 ts60 O ha_x (by omega) (_) (rfl) O ?_
  refine Vs 1 O ?_
  refine zlu hf O (fun w hI => hc x _ w hI.k0 hm_x (Tr1 hI.k0 hs_x)) ?_
  refine Vs 2 O ?_
  refine V.bool O (fun hp => ?_) (fun hp => ?_)
  ·
   refine Vs 12 O ?_
   refine ziV Tryz.results50 O (fun w hI => ⟨_, rfl, by rw [zbj hno he_x hp], hI.k0⟩)
  ·
   refine Va 7 O (by omega) ?_
   refine ziM (i + 1) (zkg O) (zkh O) (⟨by omega, ky he_x hno hp⟩) (by first | omega | (dsimp only; omega)) 0 O O
 ·
  obtain rfl : i = l.length := by omega
  rw [zmd] at hno
  refine Vs 11 O ?_
  refine ziV Tryz.results50 O (fun w hI => ⟨_, rfl, by rw [ju hno], hI.k0⟩)
theorem zg6 (p : (Int × List Int) -> Bool) (l : List (Int × List Int)) (v : Value) (D : Nat -> Prop) (g : FuncId) (cp : Value) (W : World) (hf : ∀ args w, (callFunc g args).run Tryz.prog w = .ok (.enter g args) w) (hl : SlR 2 RQu D W v l)
  (hc : ∀ (x : (Int × List Int)) (u : Value) (w : World), Ext W w -> x ∈ l -> SlR 1 zF D w u x.2 -> Calls Tryz.prog g #[.agg #[.int .i64 x.1, u], cp] w (Ret fun r w' => r = .bool (p x) /\ Ext w w')) :
  Calls Tryz.prog 116 #[v, .func (.func g) #[] #[cp]] W (Ret fun r w' => r = .int .i64 (ze6 p l) /\ Ext W w') := by
 obtain ⟨av, cv, rfl⟩ := hl.form
 have hmx := hl.max
 refine zkH Tryz.func116 O Tryz.ntmps116 O (zkS ?_)
 refine Vs 14 O ?_
 refine zli (σ := Nat) [0, 1, 7] [] [] O (fun e i => (8, .int .i64 i) :: e) (fun e i => e) (fun i => i <= l.length /\ (l.take i).any p = false) (fun i => l.length - i) (0) (zkg O) (zkh O) (fun _ => rfl) (fun _ => rfl) (fun _ => rfl) (⟨Nat.zero_le _, by simp⟩) ?_
 rintro i ⟨hi, hno⟩
 refine Vs 6 O ?_
 refine ziB O (fun hlt => ?_) (fun hlt => ?_)
 ·
  refine Vs 15 O ?_
  obtain ⟨x, he_x, hm_x⟩ := gE_ l (i) (by omega)
  obtain ⟨b_x, o_x, c_x, ha_x, _, hc_x, hR_x⟩ := hl.at he_x
  obtain ⟨v1_x, rfl, hs_x⟩ := hR_x
  obtain ⟨a1_x, n1_x, rfl⟩ := hs_x.form
  refine zlf 1000 0 O O hc_x ?_
  refine zkZ 1000 tR24 ts33 O ha_x (by omega) (_) (rfl) O ?_
  refine Vs 1 O ?_
  refine zlu hf O (fun w hI => hc x _ w hI.k0 hm_x (Tr1 hI.k0 hs_x)) ?_
  refine Vs 2 O ?_
  refine V.bool O (fun hp => ?_) (fun hp => ?_)
  ·
   refine Vs 12 O ?_
   refine ziV Tryz.results116 O (fun w hI => ⟨_, rfl, by rw [zbj hno he_x hp], hI.k0⟩)
  ·
   refine Va 7 O (by omega) ?_
   refine ziM (i + 1) (zkg O) (zkh O) (⟨by omega, ky he_x hno hp⟩) (by first | omega | (dsimp only; omega)) 0 O O
 ·
  obtain rfl : i = l.length := by omega
  rw [zmd] at hno
  refine Vs 11 O ?_
  refine ziV Tryz.results116 O (fun w hI => ⟨_, rfl, by rw [ju hno], hI.k0⟩)
theorem zg7 (p : (Int × List Int) -> Bool) (l : List (Int × List Int)) (v : Value) (D : Nat -> Prop) (g : FuncId) (cp : Value) (W : World) (hf : ∀ args w, (callFunc g args).run Tryz.prog w = .ok (.enter g args) w) (hl : SlR 2 RQu D W v l)
  (hc : ∀ (x : (Int × List Int)) (u : Value) (w : World), Ext W w -> x ∈ l -> SlR 1 zF D w u x.2 -> Calls Tryz.prog g #[.agg #[.int .i64 x.1, u], cp] w (Ret fun r w' => r = .bool (p x) /\ Ext w w')) :
  Calls Tryz.prog 84 #[v, .func (.func g) #[] #[cp]] W (Ret fun r w' => r = .bool (l.any p) /\ Ext W w') := by
 refine zkH Tryz.func84 O Tryz.ntmps84 O (zkS ?_)
 refine Vs 9 O ?_
 refine zl7 Tryz.call116 O (fun w hI => zg6 p l v D g cp w hf (Tr1 hI.k0 hl) (fun x u w' hE hx hd => hc x u w' ((hI.k0).trans hE (fun _ _ h => h)) hx hd)) ?_
 refine Vs 5 O ?_
 refine ziV Tryz.results84 O (fun w hI => ⟨_, rfl, by congr 1; rw [Bool.eq_iff_iff, decide_eq_true_iff]; exact zbk, hI.k0⟩)
theorem zg8 (p : Int -> Bool) (l : List Int) (v : Value) (D : Nat -> Prop) (g : FuncId) (cp : Value) (W : World) (hf : ∀ args w, (callFunc g args).run Tryz.prog w = .ok (.enter g args) w) (hl : SlR 1 zF D W v l)
  (hc : ∀ (x : Int) (w : World), Ext W w -> x ∈ l -> True -> Calls Tryz.prog g #[.int .i64 x, cp] w (Ret fun r w' => r = .bool (p x) /\ Ext w w')) :
  Calls Tryz.prog 129 #[v, .func (.func g) #[] #[cp]] W (Ret fun r w' => r = .int .i64 (ze6 p l) /\ Ext W w') := by
 obtain ⟨av, cv, rfl⟩ := hl.form
 have hmx := hl.max
 refine zkH Tryz.func129 O Tryz.ntmps129 O (zkS ?_)
 refine Vs 14 O ?_
 refine zli (σ := Nat) [0, 1, 7] [] [] O (fun e i => (8, .int .i64 i) :: e) (fun e i => e) (fun i => i <= l.length /\ (l.take i).any p = false) (fun i => l.length - i) (0) (zkg O) (zkh O) (fun _ => rfl) (fun _ => rfl) (fun _ => rfl) (⟨Nat.zero_le _, by simp⟩) ?_
 rintro i ⟨hi, hno⟩
 refine Vs 6 O ?_
 refine ziB O (fun hlt => ?_) (fun hlt => ?_)
 ·
  refine Vs 15 O ?_
  obtain ⟨x, he_x, hm_x⟩ := gE_ l (i) (by omega)
  obtain ⟨b_x, o_x, c_x, ha_x, _, hc_x, hR_x⟩ := hl.at he_x
  obtain rfl := hR_x
  refine zlf 1000 0 O O hc_x ?_
  refine zkZ 1000 tR31 ts3 O ha_x (by omega) (_) (rfl) O ?_
  refine Vs 1 O ?_
  refine zlu hf O (fun w hI => hc x w hI.k0 hm_x (trivial)) ?_
  refine Vs 2 O ?_
  refine V.bool O (fun hp => ?_) (fun hp => ?_)
  ·
   refine Vs 12 O ?_
   refine ziV Tryz.results129 O (fun w hI => ⟨_, rfl, by rw [zbj hno he_x hp], hI.k0⟩)
  ·
   refine Va 7 O (by omega) ?_
   refine ziM (i + 1) (zkg O) (zkh O) (⟨by omega, ky he_x hno hp⟩) (by first | omega | (dsimp only; omega)) 0 O O
 ·
  obtain rfl : i = l.length := by omega
  rw [zmd] at hno
  refine Vs 11 O ?_
  refine ziV Tryz.results129 O (fun w hI => ⟨_, rfl, by rw [ju hno], hI.k0⟩)
theorem zg9 (p : Int -> Bool) (l : List Int) (v : Value) (D : Nat -> Prop) (g : FuncId) (cp : Value) (W : World) (hf : ∀ args w, (callFunc g args).run Tryz.prog w = .ok (.enter g args) w) (hl : SlR 1 zF D W v l)
  (hc : ∀ (x : Int) (w : World), Ext W w -> x ∈ l -> True -> Calls Tryz.prog g #[.int .i64 x, cp] w (Ret fun r w' => r = .bool (p x) /\ Ext w w')) :
  Calls Tryz.prog 97 #[v, .func (.func g) #[] #[cp]] W (Ret fun r w' => r = .bool (l.any p) /\ Ext W w') := by
 refine zkH Tryz.func97 O Tryz.ntmps97 O (zkS ?_)
 refine Vs 9 O ?_
 refine zl7 Tryz.call129 O (fun w hI => zg8 p l v D g cp w hf (Tr1 hI.k0 hl) (fun x  w' hE hx hd => hc x  w' ((hI.k0).trans hE (fun _ _ h => h)) hx hd)) ?_
 refine Vs 5 O ?_
 refine ziV Tryz.results97 O (fun w hI => ⟨_, rfl, by congr 1; rw [Bool.eq_iff_iff, decide_eq_true_iff]; exact zbk, hI.k0⟩)
theorem zga (l m : List (Int × List Int)) (v v2 : Value) (D D2 : Nat -> Prop) (g : FuncId) (W : World) (hf : ∀ args w, (callFunc g args).run Tryz.prog w = .ok (.enter g args) w) (hl : SlR 2 RQu D W v l) (hm : SlR 2 RQu D2 W v2 m)
  (hc : ∀ (x y : (Int × List Int)) (u u2 : Value) (w : World), SlR 1 zF D w u x.2 -> SlR 1 zF D2 w u2 y.2 -> Calls Tryz.prog g #[.agg #[.int .i64 x.1, u], .agg #[.int .i64 y.1, u2]] w (Ret fun r w' => r = .bool (decide (x = y)) /\ Ext w w')) :
  Calls Tryz.prog 57 #[v, v2, .func (.func g) #[] #[]] W (Ret fun r w' => r = .bool (decide (l = m)) /\ Ext W w') := by
 obtain ⟨av, cv, rfl⟩ := hl.form
 obtain ⟨am, cm, rfl⟩ := hm.form
 have hmx := hl.max
 have hmm := hm.max
 refine zkI Tryz.func57 O Tryz.ntmps57 O (zkS ?_)
 refine Vs 15 O ?_
 refine ziB O (fun e0 => ?_) (fun e0 => ?_)
 ·
  refine Vs 7 O ?_
  refine ziV Tryz.results57 O (fun w hI => ⟨_, rfl, by rw [decide_eq_false (fun e => by rw [e] at e0; exact e0 O)], hI.k0⟩)
 ·
  have hel : l.length = m.length := by omega
  refine Vs 11 O ?_
  refine zli (σ := Nat) [1, 2, 15, 16] [] [] O (fun e i => (17, .int .i64 i) :: e) (fun e i => e) (fun i => i <= l.length /\ l.take i = m.take i) (fun i => l.length - i) (0) (zkg O) (zkh O) (fun _ => rfl) (fun _ => rfl) (fun _ => rfl) (⟨Nat.zero_le _, rfl⟩) ?_
  rintro i ⟨hi, he⟩
  refine Vs 6 O ?_
  refine ziB O (fun hlt => ?_) (fun hlt => ?_)
  ·
   refine Vs 7 O ?_
   obtain ⟨x, he_x, hm_x⟩ := gE_ l (i) (by omega)
   obtain ⟨b_x, o_x, c_x, ha_x, _, hc_x, hR_x⟩ := hl.at he_x
   obtain ⟨v1_x, rfl, hs_x⟩ := hR_x
   obtain ⟨a1_x, n1_x, rfl⟩ := hs_x.form
   refine zlf 1000 0 O O hc_x ?_
   refine zkZ 1000 tR24 ts33 O ha_x (by omega) (_) (rfl) O ?_
   refine Vs 1 O ?_
   refine V.alloc 8 tz33 O O (fun b8 => ?_)
   refine Vs 8 O ?_
   obtain ⟨y, he_y, hm_y⟩ := gE_ m (i) (by omega)
   obtain ⟨b_y, o_y, c_y, ha_y, _, hc_y, hR_y⟩ := hm.at he_y
   obtain ⟨v1_y, rfl, hs_y⟩ := hR_y
   obtain ⟨a1_y, n1_y, rfl⟩ := hs_y.form
   refine zlf 2000 0 O O hc_y ?_
   refine zkZ 2000 tR24 ts33 O ha_y (by omega) (_) (rfl) O ?_
   refine Vs 1 O ?_
   refine V.alloc 9 tz33 O O (fun b9 => ?_)
   refine Vs 8 O ?_
   refine zlu hf O (fun w hI => hc x y _ _ w (Tr1 hI.k0 hs_x) (Tr1 hI.k0 hs_y)) ?_
   refine zkx O (fun w hI => zk0 O (by first | exact za | rfl)) ?_
   refine Vs 2 O ?_
   refine ziB O (fun n0 => ?_) (fun n0 => ?_)
   ·
    refine Vs 11 O ?_
    refine ziV Tryz.results57 O (fun w hI => ⟨_, rfl, by rw [decide_eq_false (fun e => n0 (by rw [e, he_y] at he_x; exact (Option.some.inj he_x).symm))], hI.k0⟩)
   ·
    refine Va 7 O (by omega) ?_
    refine ziM (i + 1) (zkg O) (zkh O) (⟨by omega, by rw [zg he_x, zg he_y, he, Decidable.not_not.1 n0]⟩) (by first | omega | (dsimp only; omega)) 0 O O
  ·
   obtain rfl : i = l.length := by omega
   rw [zmd, hel, zmd] at he
   refine Vs 11 O ?_
   refine ziV Tryz.results57 O (fun w hI => ⟨_, rfl, by rw [decide_eq_true he], hI.k0⟩)
end Go.Proofs.YtbkhagigkglgoaaGreatDoor
namespace Go.GL
open Go.RowKit Go.ChangeMaps
section
variable {κ : Type} [DecidableEq κ]
def lkg : List (κ × Value) -> κ -> Option (Nat × Value)
 | [], _ => none
 | (a, v) :: r, k => if k = a then some (0, v) else (lkg r k).map fun p => (p.1 + 1, p.2)
def zdt : List (κ × Value) -> κ -> Option Value
 | [], _ => none
 | (a, v) :: r, k => if k = a then some v else zdt r k
def ze7 : List (κ × Value) -> κ -> Value -> List (κ × Value)
 | [], k, v => [(k, v)]
 | (a, u) :: r, k, v => if k = a then (k, v) :: r else (a, u) :: ze7 r k v
theorem zeZ (l : List (κ × Value)) (k k' : κ) (v : Value) : zdt (ze7 l k v) k' = if k' = k then some v else zdt l k' := by
 induction l with
 | nil => simp [ze7, zdt]
 | cons x r ih =>
  obtain ⟨a, u⟩ := x
  simp only [ze7]
  by_cases h : k = a
  ·
   subst h
   rw [if_pos rfl]
   simp only [zdt]
   split <;> rfl
  ·
   rw [if_neg h]
   simp only [zdt, ih]
   by_cases h1 : k' = a
   ·
    subst h1
    rw [if_pos rfl, if_neg (fun e => h e.symm), if_pos rfl]
   . rw [if_neg h1, if_neg h1]
theorem zh9 (l : List (κ × Value)) (k : κ) : zdt l k = (lkg l k).map (·.2) := by
 induction l with
 | nil => rfl
 | cons x r ih =>
  obtain ⟨a, u⟩ := x
  simp only [zdt, lkg]
  split
  . rfl
  . rw [ih, Option.map_map]; rfl
theorem zgb {l : List (κ × Value)} {k : κ} {p : Nat × Value} (v : Value) (h : lkg l k = some p) : l[p.1]? = some (k, p.2) /\ l.set p.1 (k, v) = ze7 l k v := by
 induction l generalizing p with
 | nil => simp [lkg] at h
 | cons x r ih =>
  obtain ⟨a, u⟩ := x
  simp only [lkg] at h
  simp only [ze7]
  split at h
  . rename_i h1; cases h; rw [if_pos h1, h1]; exact ⟨rfl, rfl⟩
  ·
   rename_i h1
   obtain ⟨q, h2, rfl⟩ := Option.map_eq_some_iff.1 h
   obtain ⟨h3, h4⟩ := ih h2
   rw [if_neg h1]
   exact ⟨by simpa using h3, by simpa using h4⟩
theorem zgc {l : List (κ × Value)} {k : κ} (v : Value) (h : lkg l k = none) : l ++ [(k, v)] = ze7 l k v := by
 induction l with
 | nil => rfl
 | cons x r ih =>
  obtain ⟨a, u⟩ := x
  simp only [lkg] at h
  simp only [ze7]
  split at h
  . cases h
  ·
   rename_i h1
   rw [if_neg h1, List.cons_append, ih (by simpa using h)]
structure KeyOk (P : Program) (kt : TypeId) (ke : κ -> Value) : Prop where
 check : ∀ k b w, (Instr.checkKey b 10000 kt (ke k)).run P w = .ok () w
 find : ∀ k (es : List MapEntry) (l : List (κ × Value)) w, es.map (fun e => (e.key, e.val)) = l.map (fun p => (ke p.1, p.2)) -> (Instr.findKey kt (ke k) es).run P w = .ok (lkg l k) w
 stays : ∀ k, Instr.sameBits 10000 (ke k) (ke k) = true
def MapG (ke : κ -> Value) (w : World) (m : Nat) (l : List (κ × Value)) : Prop :=
 ∃ (es : Array MapEntry) (clock : Nat), w.heap[m]? = some (.map es clock) /\ es.toList.map (fun e => (e.key, e.val)) = l.map (fun p => (ke p.1, p.2))
variable {ke : κ -> Value}
omit [DecidableEq κ] in
theorem MapG.keep {w w' : World} {S : Nat -> Prop} {m : Nat} {l : List (κ × Value)} (h : MapG ke w m l) (hk : Keep S w w') (hS : ¬ S m) : MapG ke w' m l := by
 obtain ⟨es, c, h1, r⟩ := h
 exact ⟨es, c, by rw [hk.block m (Array.getElem?_eq_some_iff.1 h1).1 hS]; exact h1, r⟩
omit [DecidableEq κ] in
theorem MapG.ext {w w' : World} {m : Nat} {l : List (κ × Value)} (h : MapG ke w m l) (hk : Ext w w') : MapG ke w' m l := h.keep hk (fun h => h)
omit [DecidableEq κ] in
theorem MapG.lt {w : World} {m : Nat} {l : List (κ × Value)} (h : MapG ke w m l) : m < w.heap.size := by
 obtain ⟨es, c, h1, r⟩ := h
 exact (Array.getElem?_eq_some_iff.1 h1).1
theorem zdu {d : TypeDesc} (hd : ∀ a b : κ, Instr.sameNow d (ke a) (ke b) = some (decide (a = b))) (k : κ) : ∀ (es : List MapEntry) (l : List (κ × Value)) (i : Nat), es.map (fun e => (e.key, e.val)) = l.map (fun p => (ke p.1, p.2)) -> Instr.findNow d (ke k) es i = some ((lkg l k).map fun p => (i + p.1, p.2))
 | [], [], i, _ => rfl
 | [], _ :: _, i, h => by simp at h
 | _ :: _, [], i, h => by simp at h
 | e :: es, (a, v) :: l, i, h => by
  simp only [List.map_cons, List.cons.injEq, Prod.mk.injEq] at h
  rw [Instr.findNow, h.1.1, lkg, hd]
  by_cases hk : k = a
  . simp [hk, h.1.2]
  ·
   simp only [hk, decide_false, if_false]
   rw [zdu hd k es l (i + 1) h.2]
   cases lkg l k <;> simp <;> omega
theorem zlY {P : Program} {kt : TypeId} {d : TypeDesc} (hk : P.underlying kt = some d) (hd : ∀ a b : κ, Instr.sameNow d (ke a) (ke b) = some (decide (a = b))) (h2 : ∀ k, MapKept.IsKey d (ke k)) (h3 : ∀ k, Instr.sameBits 10000 (ke k) (ke k) = true) : KeyOk P kt ke where
 check := fun k b w => MapKept.run_checkKey hk (h2 k) b 9999
 find := fun k es l w h => by
  have := zdu hd k es l 0 h
  rw [MapKept.run_findKey (P := P) (w := w) hk this]
  cases lkg l k <;> simp
 stays := h3
theorem KeyOk.str {P : Program} {kt : TypeId} (hk : P.underlying kt = some .string) : KeyOk P kt (Value.string) :=
 zlY hk (fun a b => by
  show some (a == b) = _
  congr 1
  rw [Bool.eq_iff_iff, MapKept.bytes_beq, decide_eq_true_iff]) (fun _ => trivial) (fun k => by
  show (k == k) = true
  rw [MapKept.bytes_beq])
theorem KeyOk.int {P : Program} {kt : TypeId} (hk : P.underlying kt = some (.int .i64)) : KeyOk P kt (Value.int .i64) :=
 zlY hk (fun a b => by
  simp only [Instr.sameNow, if_true]
  rfl) (fun _ => rfl) (fun k => by simp [Instr.sameBits])
section
variable {P : Program} {w : World} {m : Nat} {l : List (κ × Value)} {t kt et : TypeId}
theorem zcS (hK : KeyOk P kt ke) (h : MapG ke w m l) (ht : P.underlying t = some (.map kt et)) {z : Value} (hz : ∀ w, (zeroValue et).run P w = .ok z w) (k : κ) (ok : Bool) : (Instr.lookup t (.map (some m)) (ke k) ok).run P w = .ok (if ok then .tuple #[(zdt l k).getD z, .bool (zdt l k).isSome] else (zdt l k).getD z) w := by
 obtain ⟨es, c, h1, h2⟩ := h
 have h5 := hK.find k _ _ w h2
 have h7 := zh9 l k
 cases h6 : lkg l k with
 | none => rw [h6] at h5 h7; cases ok <;> simp [Instr.lookup, run_underlying ht, MapKept.run_getObj_map h1, hK.check, h5, hz, Result.andThen, h7]
 | some p => rw [h6] at h5 h7; cases ok <;> simp [Instr.lookup, run_underlying ht, MapKept.run_getObj_map h1, hK.check, h5, Result.andThen, h7]
theorem zcT (hK : KeyOk P kt ke) (h : MapG ke w m l) (ht : P.underlying t = some (.map kt et)) (k : κ) (v : Value) :
  ∃ w', (Instr.mapUpdate t (.map (some m)) (ke k) v).run P w = .ok () w' /\ MapG ke w' m (ze7 l k v) /\ Keep (fun q => q = m) w w' /\ w'.heap.size = w.heap.size := by
 obtain ⟨es, c, h1, h2⟩ := h
 have h7 := hK.find k _ _ w h2
 cases h8 : lkg l k with
 | none =>
  rw [h8] at h7
  refine ⟨setBlock w m (.map (es.push ⟨ke k, v, c⟩) (c + 1)), by simp [Instr.mapUpdate, run_underlying ht, MapKept.run_getObj_map h1, hK.check, h7, MapKept.run_setObj_map _ h1, Result.andThen, setBlock], ?_, xb h1, by simp [setBlock]⟩
  refine ⟨_, _, (MapKept.heap_set h1).1, ?_⟩
  rw [<- zgc v h8]; simp [h2]
 | some p =>
  rw [h8] at h7
  obtain ⟨h9, h10⟩ := zgb v h8
  have hlen : es.toList.length = l.length := by have := congrArg List.length h2; simpa using this
  have hp := (List.getElem?_eq_some_iff.1 h9).1
  obtain ⟨e0, he0⟩ : ∃ e0, es.toList[p.1]? = some e0 := ⟨_, zm8 (by omega)⟩
  have hkey : e0.key = ke k /\ e0.val = p.2 := by
   have := congrArg (fun L => L[p.1]?) h2
   simp only [List.getElem?_map, he0, h9, Option.map_some, Option.some.injEq, Prod.mk.injEq] at this
   exact this
  have he0' : es[p.1]? = some e0 := by simpa using he0
  refine ⟨setBlock w m (.map (es.modify p.1 fun e => { e with key := ke k, val := v }) c), by simp [Instr.mapUpdate, run_underlying ht, MapKept.run_getObj_map h1, hK.check, h7, he0', hkey.1, Instr.keyThatStays, hK.stays, MapKept.run_setObj_map _ h1, Result.andThen, setBlock], ?_, xb h1, by simp [setBlock]⟩
  refine ⟨_, _, (MapKept.heap_set h1).1, ?_⟩
  rw [<- h10, Array.toList_modify, zdK _ _ (ke k, v) _ _ (fun _ _ => rfl), h2]; simp only [List.map_set]
end
section
variable {P : Program} {env : Env} {w : World} {dst : Option Tmp} {ty : TypeId} {pos : String} {aft : Array Edge} {g : Option (Nat × Bool)} {t kt et : TypeId} {m : Nat} {l : List (κ × Value)}
omit [DecidableEq κ] in
theorem zlZ : yp P ⟨dst, .makeMap t none, ty, pos, aft, g⟩ env w (fun u w' => ∃ b, u = .map (some b) /\ MapG ke w' b [] /\ Ext w w' /\ ∀ q, q = b -> w.heap.size <= q /\ q < w'.heap.size) := by
 refine ⟨.map (some w.heap.size), w.alloc (.map #[] 0), ?_, _, rfl, ⟨#[], 0, (MapKept.heap_alloc w _).1, rfl⟩, Keep.alloc w _, fun q hq => by subst hq; simp⟩
 intro n a ha
 have h : (Instr.makeMap t none).run P w = .ok (.map (some w.heap.size)) (w.alloc (.map #[] 0)) := by simp [Instr.makeMap, Result.andThen]
 simp [execOp, h]
theorem zm0 {x y : Operand} {k : κ} {z : Value} (hK : KeyOk P kt ke) (h : MapG ke w m l) (ht : P.underlying t = some (.map kt et)) (hz : ∀ w, (zeroValue et).run P w = .ok z w) (hx : ev env x = some (.map (some m))) (hy : ev env y = some (ke k)) :
  ye P ⟨dst, .lookup t x y false, ty, pos, aft, g⟩ env w ((zdt l k).getD z) w := by
 intro n a ha
 simp [execOp, ha.eval hx, ha.eval hy, zcS hK h ht hz]
theorem zm1 {x y u : Operand} {k : κ} {v : Value} (hK : KeyOk P kt ke) (h : MapG ke w m l) (ht : P.underlying t = some (.map kt et)) (hx : ev env x = some (.map (some m))) (hy : ev env y = some (ke k)) (hu : ev env u = some v) :
  qC P ⟨dst, .mapUpdate t x y u, ty, pos, aft, g⟩ env w (fun w' => MapG ke w' m (ze7 l k v) /\ Keep (fun q => q = m) w w' /\ ∀ q, q = m -> (q = m \/ w.heap.size <= q) /\ q < w'.heap.size) := by
 have hlt := h.lt
 obtain ⟨w', h1, h2, h3, h4⟩ := zcT hK h ht k v
 refine ⟨w', ?_, h2, h3, fun q hq => ⟨.inl hq, by omega⟩⟩
 intro n a ha
 simp [execOp, ha.eval hx, ha.eval hy, ha.eval hu, h1]
end
abbrev MapP (ke : κ -> Value) (m : Nat) (l : List (κ × Value)) : HE := .res (fun q => q = m) (fun w => MapG ke w m l)
omit [DecidableEq κ] in
theorem MapP.loc {m : Nat} {l : List (κ × Value)} : (MapP ke m l).loc := fun _ _ _ h hk hT => h.keep hk (hT m h.lt rfl)
end
end Go.GL
namespace Go.Proofs.YtbkhagigkglgoaaGreatDoor
open Go.GL
abbrev obE (o : Ob) (y : Option Addr × Nat × (Nat -> Prop)) : HE := DaP ROb y.2.2 o [.slice y.1 o.1.length y.2.1, .int .i64 o.2]
theorem zha {H : Hp} {f : FuncId} {args : Array Value} {o : Ob} {w : World} (k : Nat) (hc : Calls Tryz.prog f args w (Ret fun r w' => (∃ ov, r = .agg #[ov, .int .i64 o.2] /\ SlR 1 zF (fun b => w.heap.size <= b) w' ov o.1) /\ Ext w w')) :
  Calls Tryz.prog f args w (Ret fun r w' => ∃ y : Option Addr × Nat × (Nat -> Prop), r = .agg #[.slice y.1 o.1.length y.2.1, .int .i64 o.2] /\ Hands H [] [(k, obE o y)] w w') := by
 refine hc.mono ?_
 rintro _ w' ⟨_, rfl, ⟨ov, rfl, hd⟩, hk⟩
 obtain ⟨ao, co, rfl⟩ := hd.form
 refine ⟨_, rfl, (ao, co, fun b => w.heap.size <= b /\ b < w'.heap.size), rfl, hk.mono fun q _ h => h.elim, fun x hx => ?_, List.pairwise_singleton _ _⟩
 rw [List.mem_singleton] at hx
 subst hx
 exact ⟨⟨_, rfl, hd.narrow (by omega) yj⟩, DaP.loc, fun _ h => h, fun q hq => ⟨.inr hq.1, hq.2⟩⟩
theorem zf0 {F : Nat -> Prop} {w : World} {o : Ob} {ao : Option Addr} {co : Nat} (h : ROb F w o [.slice ao o.1.length co, .int .i64 o.2]) : SlR 1 zF F w (.slice ao o.1.length co) o.1 := by
 obtain ⟨v, h1, h2⟩ := h
 simp only [List.cons.injEq, and_true] at h1
 rw [h1]; exact h2
theorem zhb {H : Hp} {Bs : ya} {f : FuncId} {l : List Ob} {v : Value} {F : Nat -> Prop} {w : World} {k : Nat} (hI : VI Bs H w) (h0 : zm H k = some (OwP 60 2 ROb F v l)) (hlen : l.length <= 1048576) (hf : ∀ args w, (callFunc f args).run Tryz.prog w = .ok (.enter f args) w)
  (hcf : ∀ (x y : Ob) (u v : Value) (D D' : Nat -> Prop) (W : World), SlR 1 zF D W u x.1 -> SlR 1 zF D' W v y.1 -> Calls Tryz.prog f #[.agg #[u, .int .i64 x.2], .agg #[v, .int .i64 y.2]] W (Ret fun r w' => r = .int .i64 (yu x y) /\ Ext W w')) :
  Calls Tryz.prog 67 #[v, .func (.func f) #[] #[]] w (Ret fun r w' => ∃ l' : List Ob, (r = .tuple #[] /\ l'.Perm l /\ l'.Pairwise (fun a b => ¬ yu b a < 0)) /\ HE.holds w' (OwP 60 2 ROb F v l') /\ Keep (HE.S (OwP 60 2 ROb F v l)) w w' /\ ∀ q, HE.S (OwP 60 2 ROb F v l') q -> (HE.S (OwP 60 2 ROb F v l) q \/ w.heap.size <= q) /\ q < w'.heap.size) := by
 refine (zg4 f hf hcf l hlen v F w (hI.at k h0)).mono ?_
 rintro _ w' ⟨_, rfl, rfl, l', h1, h2, h3, h4⟩
 refine ⟨_, rfl, l', ⟨rfl, h1, h2⟩, h3, h4.mono fun q _ hq => .inl hq, fun q hq => ⟨.inl hq, ?_⟩⟩
 exact Nat.lt_of_lt_of_le (hI.low _ (zl h0) q hq) h4.size
theorem zbl {α : Type} {l : List α} {x y : α} : y ∈ l ++ [x] ↔ y ∈ l \/ y = x := by simp
theorem zhc (o p : Ob) (l : List Ob) : (if (⟨(xE o).toArray⟩ : ByteArray) = ⟨(xE p).toArray⟩ then some (Value.bool true) else if o ∈ l then some (.bool true) else none) = if o ∈ l ++ [p] then some (.bool true) else none := by
 have hm : (o ∈ l ++ [p]) ↔ (o ∈ l \/ o = p) := zbl
 have h : ((⟨(xE o).toArray⟩ : ByteArray) = ⟨(xE p).toArray⟩) ↔ o = p := by
  constructor
  ·
   intro e
   injection e with e
   exact zaI (List.toArray_inj e)
  . rintro rfl; rfl
 by_cases h1 : o = p
 . rw [if_pos (h.2 h1), if_pos (hm.2 (.inr h1))]
 ·
  rw [if_neg (fun e => h1 (h.1 e))]
  by_cases h2 : o ∈ l
  . rw [if_pos h2, if_pos (hm.2 (.inl h2))]
  . rw [if_neg h2, if_neg (fun e => (hm.1 e).elim h2 h1)]
theorem qV (f : Fl) (vd : Valid f) (pub rs : List Int) (v1 v2 v3 pv rv : Value) (D D' D2 : Nat -> Prop) (W : World) (hlen : rs.length <= 5000) (hf : RFl D W f v1 v2 v3) (hp : SlR 1 zF D' W pv pub) (hr : SlR 1 zF D2 W rv rs) (ht : Tab W) :
  Calls Tryz.prog 51 #[.agg #[v1, v2, v3], pv, rv] W (Ret fun r w' => SlR 2 ROb (fun b => W.heap.size <= b) w' r (zg0 f pub rs) /\ Ext W w') := by
 obtain ⟨ap, cp, rfl⟩ := hp.form
 obtain ⟨ar, cr, rfl⟩ := hr.form
 refine zkI Tryz.func51 O Tryz.ntmps51 O (zkS ?_)
 refine Vs 2 O ?_
 refine V.box 3 O O (fun b3 => ?_)
 refine Vs 5 O ?_
 refine zlC 900 (E := fun b => MapP Value.string b []) (u := fun b => .map (some b)) O (fun _ => ⟨MapP.loc, fun _ h => h⟩) (fun w hI => zlZ) (fun m900 => ?_)
 refine Vs 16 O ?_
 refine zl2 901 60 2 O ?_
 refine zlq 901 (e' := OwP 60 2 ROb (fun _ => False) (.slice none 0 0) []) O (fun w hI => OwH.nil) OwP.loc (fun _ h => h) (fun q hq => hq.elim id False.elim) ?_
 refine Vs 1 O ?_
 refine zli (σ := Nat × Value × (Nat -> Prop) × List (ByteArray × Value) × List Ob) [1, 3, 7, 14, 15] [3] [3] O (fun e ⟨i, v, F, L, l⟩ => (16, .int .i64 i) :: (8, v) :: e) (fun e ⟨i, v, F, L, l⟩ => (900, MapP Value.string m900 L) :: (901, OwP 60 2 ROb F v l) :: e) (fun ⟨i, v, F, L, l⟩ => i <= rs.length /\ l.Nodup /\ l.length <= i /\ (∀ o, o ∈ l ↔ o ∈ (rs.take i).map (obN f pub)) /\ ∀ o : Ob, zdt L ⟨(xE o).toArray⟩ = if o ∈ l then some (.bool true) else none) (fun ⟨i, v, F, L, l⟩ => rs.length - i) ((0, .slice none 0 0, fun _ => False, [], [])) (zkg O) (zkh O) (fun _ => rfl) (fun _ => rfl) (fun _ => rfl) (⟨Nat.zero_le _, List.Pairwise.nil, Nat.zero_le _, fun o => by simp, fun o => by simp [zdt]⟩) ?_
 rintro ⟨i, v, F, L, l⟩ ⟨hi, hn, hli, hmem, hL⟩
 show V _ _ _ _ _ ((16, .int .i64 i) :: (8, v) :: _) _ ((900, MapP Value.string m900 L) :: (901, OwP 60 2 ROb F v l) :: _) _
 refine Vs 6 O ?_
 refine ziB O (fun hlt => ?_) (fun hlt => ?_)
 ·
  refine Vs 6 O ?_
  obtain ⟨x, he_x, hm_x⟩ := gE_ rs (i) (by omega)
  obtain ⟨b_x, o_x, c_x, ha_x, _, hc_x, hR_x⟩ := hr.at he_x
  obtain rfl := hR_x
  refine zlf 1000 0 O O hc_x ?_
  refine zkZ 1000 tR31 ts3 O ha_x (by omega) (_) (rfl) O ?_
  have htk : ∀ o, o ∈ (rs.take (i + 1)).map (obN f pub) ↔ o ∈ (rs.take i).map (obN f pub) \/ o = obN f pub x := fun o => by rw [zg he_x, List.map_append]; exact zbl
  refine Vs 9 O ?_
  refine zlw [] (Hn := fun y : Option Addr × Nat × (Nat -> Prop) => [(905, obE (obN f pub x) y)]) [(3, some (3, 0)), (18, some (1000, 0))] Tryz.call49 O (fun _ _ => rfl) (fun _ => rfl) (fun w hI => zha 905 (xR f vd pub x v1 v2 v3 _ D D' w (Tr1 hI.k0 hf) (Tr1 hI.k0 hp))) ?_
  rintro _ ⟨ao, co, G⟩ rfl
  refine V.alloc 11 tz60 O O (fun b11 => ?_)
  refine Vs 6 O ?_
  refine zl7 Tryz.call88 O (fun w hI => zh7 (obN f pub x) (zhN vd pub x) _ _ w (zf0 (hI.at 905 O)) (Tr1 hI.k0 ht)) ?_
  refine Vs 7 O ?_
  refine zkx O (fun w hI => zm0 (KeyOk.str tu9) (hI.at 900 O) Tryz.underlying147 tz4 O O) ?_
  refine V.eq 28 (v := .bool (decide (obN f pub x ∈ l))) O (by rw [hL]; by_cases h : obN f pub x ∈ l <;> simp [h]) ?_
  refine zkx O (fun w hI => zk0 O (by first | exact za | rfl)) ?_
  refine Vs 2 O ?_
  refine ziB O (fun c => ?_) (fun c => ?_)
  ·
   refine Vs 4 O ?_
   refine V.upd 900 (e' := MapP Value.string m900 (ze7 L ⟨(xE (obN f pub x)).toArray⟩ (.bool true))) O (MapP.loc) (fun _ h => h) (fun w hI => zm1 (KeyOk.str tu9) (hI.at 900 O) Tryz.underlying147 O O O) ?_
   refine Vs 5 O ?_
   refine zll 34 [(0, _)] tR76 ts60 tz60 (by decide) O O (by kernel_rfl) (fun b34 => ?_)
   refine zlE [901, 905] (Hn := fun u => [(901, OwP 60 2 ROb (fun q => F q \/ G q) u (l ++ [obN f pub x]))]) (u := fun u => u) [(3, some (3, 0)), (11, some (11, 0)), (18, some (1000, 0))] O (fun _ => rfl) (fun _ => rfl) (fun w hI => zlG 901 905 34 hI O O O O Tryz.underlying76 Tryz.el60 O (by decide) O O O (fun D x cs h => zgy D x cs h) (by omega) (by omega)) (fun u901 => ?_)
   refine Va 8 O (by omega) ?_
   refine ziM (⟨i + 1, u901, fun q => F q \/ G q, ze7 L ⟨(xE (obN f pub x)).toArray⟩ (.bool true), l ++ [obN f pub x]⟩) (zkg O) (zkh O) (⟨by omega, List.nodup_append.2 ⟨hn, by simp, fun a ha b hb e => c (by rw [List.mem_singleton] at hb; rw [<- hb, <- e]; exact ha)⟩, by rw [zmg, List.length_singleton]; omega, fun o => by rw [zbl, hmem, htk], fun o => by rw [zeZ, hL]; exact zhc o _ _⟩) (by first | omega | (dsimp only; omega)) 0 O O
  ·
   refine Va 7 O (by omega) ?_
   refine ziM (⟨i + 1, v, F, L, l⟩) (zkg O) (zkh O) (⟨by omega, hn, by omega, fun o => by rw [htk, <- hmem]; exact ⟨.inl, fun h => h.elim id (fun h => by rw [h]; exact Decidable.not_not.1 c)⟩, hL⟩) (by first | omega | (dsimp only; omega)) 0 O O
 ·
  obtain rfl : i = rs.length := by omega
  rw [zmd] at hmem
  refine Vs 8 O ?_
  refine zlb 901 (E := fun l' => OwP 60 2 ROb F v l') Tryz.call67 O (fun _ => ⟨OwP.loc, fun _ h => h⟩) (fun w hI => zhb (k := 901) hI O (by omega) Tryz.call54 (fun x y u v D D' W hx hy => xy x y u v D D' W hx hy)) ?_
  rintro _ l' ⟨rfl, hperm, hpw⟩
  have hres := zc3 hperm hn hpw hmem
  refine Vs 9 O ?_
  refine ziV Tryz.results51 O (fun w hI => ⟨_, rfl, by show SlR 2 ROb _ _ _ (zcO _); rw [<- hres]; exact (show OwH _ _ _ _ _ _ _ from hI.at 901 O).sl (by omega) (fun q hq => hI.own 901 0 O O q hq), hI.k0⟩)
theorem zhd (l : List Ob) (o : Ob) : ze6 (fun x => decide (x = o)) l = zh5 l o := by
 unfold ze6 zh5
 by_cases h : o ∈ l
 . rw [if_pos h, if_pos (List.any_eq_true.2 ⟨o, h, by simp⟩)]
 ·
  rw [if_neg h, if_neg (fun e => by
   obtain ⟨x, hx, hd⟩ := List.any_eq_true.1 e
   rw [of_decide_eq_true hd] at hx
   exact h hx)]
theorem zf1 {α : Type} {l : List α} {k : Nat} {x y : α} (hx : l[k]? = some x) : y ∈ l.take (k + 1) ↔ y ∈ l.take k \/ y = x := by
 rw [List.take_add_one, hx]
 simp
theorem zf2 (l : List Int) (x : Int) (v : Value) (D : Nat -> Prop) (W : World) (hv : SlR 1 zF D W v l) : Calls Tryz.prog 56 #[v, .int .i64 x] W (Ret fun r w' => (∃ i : Int, r = .int .i64 i /\ (0 <= i ↔ x ∈ l)) /\ Ext W w') := by
 obtain ⟨av, cv, rfl⟩ := hv.form
 have hmx := hv.max
 refine zkH Tryz.func56 O Tryz.ntmps56 O (zkS ?_)
 refine Vs 14 O ?_
 refine zli (σ := Nat) [0, 1, 7] [] [] O (fun e k => (8, .int .i64 k) :: e) (fun e k => e) (fun k => k <= l.length /\ x ∉ l.take k) (fun k => l.length - k) (0) (zkg O) (zkh O) (fun _ => rfl) (fun _ => rfl) (fun _ => rfl) (⟨Nat.zero_le _, by simp⟩) ?_
 rintro k ⟨hk, hn⟩
 refine Vs 6 O ?_
 refine ziB O (fun hlt => ?_) (fun hlt => ?_)
 ·
  refine Vs 15 O ?_
  obtain ⟨y, he_y, hm_y⟩ := gE_ l (k) (by omega)
  obtain ⟨b_y, o_y, c_y, ha_y, _, hc_y, hR_y⟩ := hv.at he_y
  obtain rfl := hR_y
  refine zlf 1000 0 O O hc_y ?_
  refine zkZ 1000 tR31 ts3 O ha_y (by omega) (_) (rfl) O ?_
  refine Vs 4 O ?_
  refine ziB O (fun he => ?_) (fun he => ?_)
  ·
   refine Vs 12 O ?_
   refine ziV Tryz.results56 O (fun w hI => ⟨_, rfl, ⟨_, rfl, by rw [he]; exact ⟨fun _ => hm_y, fun _ => by omega⟩⟩, hI.k0⟩)
  ·
   refine Va 7 O (by omega) ?_
   refine ziM (k + 1) (zkg O) (zkh O) (⟨by omega, fun h => ((zf1 he_y).1 h).elim hn he⟩) (by first | omega | (dsimp only; omega)) 0 O O
 ·
  have : k = l.length := by omega
  subst this
  rw [zmd] at hn
  refine Vs 11 O ?_
  refine ziV Tryz.results56 O (fun w hI => ⟨_, rfl, ⟨_, rfl, ⟨fun h => by omega, fun h => absurd h hn⟩⟩, hI.k0⟩)
theorem jY (l : List Int) (x : Int) (v : Value) (D : Nat -> Prop) (W : World) (hv : SlR 1 zF D W v l) : Calls Tryz.prog 25 #[v, .int .i64 x] W (Ret fun r w' => r = .bool (decide (x ∈ l)) /\ Ext W w') := by
 refine zkH Tryz.func25 O Tryz.ntmps25 O (zkS ?_)
 refine Vs 9 O ?_
 refine zl9 Tryz.call56 O (fun w hI => zf2 l x v D w (Tr1 hI.k0 hv)) ?_
 rintro r w1 w2 hI1 hk12 ⟨i, rfl, hi⟩ hlow
 refine Vs 5 O ?_
 refine ziV Tryz.results25 O (fun w hI => ⟨_, rfl, by simp [hi], hI.k1⟩)
theorem qz (xs ys : List Int) (u v : Value) (D D' : Nat -> Prop) (w : World) (hx : SlR 1 zF D w u xs) (hy : SlR 1 zF D' w v ys) : Calls Tryz.prog 18 #[u, v] w (Ret fun r w' => r = .bool (decide (xs = ys)) /\ Ext w w') := by
 obtain ⟨ao, cx, rfl, hxc, hxm, hxe⟩ := hx
 obtain ⟨bo, cy, rfl, hyc, hym, hye⟩ := hy
 refine zkH Tryz.func18 O Tryz.ntmps18 O (Gs 15 O (zkv O (fun hne => ?_) (fun heq => ?_)))
 ·
  refine Gs 7 O ?_
  have : ¬ xs = ys := fun h => hne (by rw [h])
  refine ziU Tryz.results18 O ⟨_, rfl, by rw [decide_eq_false this], Keep.refl _ _⟩
 ·
  have hl : xs.length = ys.length := by omega
  refine Gs 11 O (G.loop (σ := Nat) (fun k => [(0, .slice ao xs.length cx), (1, .slice bo ys.length cy), (11, .slice ao xs.length cx), (12, .int .i64 xs.length), (13, .int .i64 k)]) (fun k => fun w' => k <= xs.length /\ xs.take k = ys.take k /\ Ext w w') (fun k => xs.length - k) (0) (zkg O) (⟨Nat.zero_le _, rfl, Keep.refl _ _⟩) ?_)
  rintro k w1 ⟨hkl, htk, hk1⟩
  refine Gs 6 O (zkv O (fun hlt => ?_) (fun hge => ?_))
  ·
   obtain ⟨x, hx⟩ : ∃ x, xs[k]? = some x := ⟨_, zm8 (by omega)⟩
   obtain ⟨y, hy⟩ : ∃ y, ys[k]? = some y := ⟨_, zm8 (by omega)⟩
   obtain ⟨b1, o1, c1, hao, _, hcl1, hcs1, rfl⟩ := hxe k x hx
   obtain ⟨b2, o2, c2, hbo, _, hcl2, hcs2, rfl⟩ := hye k y hy
   have hcs1' := hk1.cells hcs1 (fun h => h)
   have hcs2' := hk1.cells hcs2 (fun h => h)
   refine Gs 11 O (Qt (by kernel_rfl) (Gs 2 O (zkz O O (fun w1 hw1 => zjj tR31 ts3 O O hao (by omega)) (zkB O tg3 (fun w1 hw1 => (hw1.cell (hcs1' 0 _ O) (fun h => h))) (Gs 2 O (zkz O O (fun w1 hw1 => zjj tR31 ts3 O O hbo (by omega)) (zkB O tg3 (fun w1 hw1 => (hw1.cell (hcs2' 0 _ O) (fun h => h))) (Gs 1 O (zkD (fun w2 hk2 => ?_))))))))))
   refine Gs 1 O (zkv O (fun hd => ?_) (fun he => ?_))
   ·
    have : ¬ xs = ys := by
     rintro rfl
     rw [hx] at hy
     exact hd (Option.some.inj hy)
    refine Gs 11 O (ziU Tryz.results18 O ⟨_, rfl, by rw [decide_eq_false this], hk1.ext hk2⟩)
   ·
    have hxy : x = y := Decidable.not_not.1 he
    refine Ga 7 O (by omega) (ziL (k + 1) (zkg O) (⟨by omega, ?_, hk1.ext hk2⟩) (by first | omega | (dsimp only; omega)))
    obtain ⟨h1, h2⟩ := List.getElem?_eq_some_iff.1 hx
    obtain ⟨h3, h4⟩ := List.getElem?_eq_some_iff.1 hy
    rw [List.take_succ_eq_append_getElem h1, List.take_succ_eq_append_getElem h3, htk, h2, h4, hxy]
  ·
   have hkk : k = xs.length := by omega
   have : xs = ys := by
    rw [hkk, zmd] at htk
    rw [hl, zmd] at htk
    exact htk
   refine Gs 11 O (ziU Tryz.results18 O ⟨_, rfl, by rw [decide_eq_true this], hk1⟩)
theorem zhO (f : Fl) (a b c : Int) (v1 v2 v3 : Value) (D : Nat -> Prop) (w : World) (hf : RFl D w f v1 v2 v3) :
  Calls Tryz.prog 63 #[.agg #[v1, v2, v3], .int .i64 a, .int .i64 b, .int .i64 c] w (Ret fun r w' => (∃ q : Bool, r = .bool q /\ (q = true -> ((f.vars.length : Int) <= 10 /\ (f.hatches.length : Int) <= 10 /\ ((zr f.body + zB f.hatches : Nat) : Int) <= 80) /\ zZ f = 0)) /\ Ext w w') := by
 obtain ⟨a1, n1, rfl⟩ := hf.vars.form
 obtain ⟨a2, n2, rfl⟩ := hf.hatches.form
 obtain ⟨a3, n3, rfl⟩ := hf.body.form
 have hE := Keep.refl (fun _ => False) w
 refine zkJ Tryz.func63 O Tryz.ntmps63 O (Gs 2 O (zjs O O (M.box O O) ?_))
 rintro _ w_bx ⟨bx, rfl, hg_bx, hs_bx, hB_bx, hk_bx⟩
 have hge_bx : _ <= bx := zme hE.size (Nat.le_of_eq hg_bx.symm)
 obtain ⟨hE, hf⟩ := Tr2 hk_bx hE hf
 refine Gs 6 O (zkC O tg56 ts56 hB_bx.cells O (G.call O Tryz.call62 (zd7 f 10 80 _ _ _ D _ hf (by decide) (by decide)) ?_))
 rintro _ wz1 ⟨rfl, hz1⟩
 obtain ⟨hE, hf, hB_bx⟩ := Tr3 hz1 hE hf hB_bx
 refine zkw O O (zk0 O (by first | exact za | rfl)) (Gs 1 O ?_)
 by_cases hfew : (f.vars.length : Int) <= 10 /\ (f.hatches.length : Int) <= 10 /\ ((zr f.body + zB f.hatches : Nat) : Int) <= 80
 ·
  have h1 := jK f.body
  have hsz : zj f.body + zB f.hatches <= 1024 := by omega
  have hbk : zr f.body <= 1000000 := by omega
  refine zkr 21 O (fun q1 => ?_) (fun q1 => ?_)
  . exact absurd hfew q1
  ·
   refine zkC O tg56 ts56 hB_bx.cells O (G.call O Tryz.call42 (zab f _ _ _ D _ hf hsz hbk) ?_)
   rintro _ wz2 ⟨rfl, hz2⟩
   obtain ⟨hE, hf, hB_bx⟩ := Tr3 hz2 hE hf hB_bx
   refine Gs 4 O (ziA O (fun c0 => ?_) (fun c0 => ?_))
   . refine Gs 7 O (ziU tr63 O ⟨_, rfl, ⟨_, rfl, fun h => by cases h⟩, hE⟩)
   ·
    have c0' : zZ f = 0 := by omega
    have hst := (yo c0').2.2.2.1
    refine Gs 5 O (zkA O tg52 (hB_bx.cells 0 _ O) (G.call O Tryz.call66 (xQ f.vars 1 _ D _ hf.vars (by omega)) ?_))
    rintro _ wz3 ⟨⟨sa, sb, rfl⟩, hz3⟩
    obtain ⟨hE, hf, hB_bx⟩ := Tr3 hz3 hE hf hB_bx
    refine Gs 10 O (zkA O tg52 (hB_bx.cells 0 _ O) (G.call O Tryz.call66 (xQ f.vars 2 _ D _ hf.vars (by omega)) ?_))
    rintro _ wz4 ⟨⟨ta, tb, rfl⟩, hz4⟩
    obtain ⟨hE, hf, hB_bx⟩ := Tr3 hz4 hE hf hB_bx
    refine Gs 10 O (zkA O tg52 (hB_bx.cells 0 _ O) (G.call O Tryz.call66 (xQ f.vars 3 _ D _ hf.vars (by omega)) ?_))
    rintro _ wz5 ⟨⟨ua, ub, rfl⟩, hz5⟩
    obtain ⟨hE, hf, hB_bx⟩ := Tr3 hz5 hE hf hB_bx
    refine Gs 10 O (zkA O tg54 (hB_bx.cells 2 _ O) (G.call O Tryz.call82 (jR f.vars f.hatches.length f.body _ D _ true hst hf.body hbk) ?_))
    rintro _ wz6 ⟨rfl, hz6⟩
    obtain ⟨hE, hf, hB_bx⟩ := Tr3 hz6 hE hf hB_bx
    refine Gs 15 O (zkr 54 O (fun g1 => ?_) (fun g1 => ?_))
    ·
     refine Gs 5 O (zkr 59 O (fun g2 => ?_) (fun g2 => ?_))
     ·
      refine Gs 5 O (zkr 64 O (fun g3 => ?_) (fun g3 => ?_))
      . refine Gs 7 O (ziU tr63 O ⟨_, rfl, ⟨_, rfl, fun _ => ⟨hfew, c0'⟩⟩, hE⟩)
      . refine Gs 7 O (ziU tr63 O ⟨_, rfl, ⟨_, rfl, fun _ => ⟨hfew, c0'⟩⟩, hE⟩)
     . refine Gs 12 O (ziU tr63 O ⟨_, rfl, ⟨_, rfl, fun _ => ⟨hfew, c0'⟩⟩, hE⟩)
    . refine Gs 17 O (ziU tr63 O ⟨_, rfl, ⟨_, rfl, fun _ => ⟨hfew, c0'⟩⟩, hE⟩)
 ·
  refine zkr 21 O (fun q1 => ?_) (fun q1 => ?_)
  . refine Gs 14 O (ziU tr63 O ⟨_, rfl, ⟨_, rfl, fun h => by cases h⟩, hE⟩)
  . exact absurd (Decidable.not_not.1 q1) hfew
structure SzOk (f : Fl) : Prop where
 size : zj f.body + zB f.hatches <= 1024
 bulk : zr f.body <= 1000000
theorem zgd (f : Fl) (v1 v2 v3 : Value) (D : Nat -> Prop) (W : World) (hf : RFl D W f v1 v2 v3) : Calls Tryz.prog 30 #[.agg #[v1, v2, v3]] W (Ret fun r w' => (∃ q : Bool, r = .bool q /\ (q = true -> SzOk f)) /\ Ext W w') := by
 obtain ⟨a1, n1, h1⟩ := hf.vars.form
 obtain ⟨a2, n2, h2⟩ := hf.hatches.form
 obtain ⟨a3, n3, h3⟩ := hf.body.form
 subst h1 h2 h3
 refine zkG Tryz.func30 O Tryz.ntmps30 O (zkS ?_)
 refine Vs 2 O ?_
 refine V.box 1 O O (fun b1 => ?_)
 refine Vs 7 O ?_
 refine zl7 Tryz.call62 O (fun w hI => zd7 f 10 80 _ _ _ D w (Tr1 hI.k0 hf) (by decide) (by decide)) ?_
 refine zkx O (fun w hI => zk0 O (by first | exact za | rfl)) ?_
 refine Vs 2 O ?_
 refine ziB O (fun q1 => ?_) (fun q1 => ?_)
 ·
  refine Vs 7 O ?_
  refine ziV Tryz.results30 O (fun w hI => ⟨_, rfl, ⟨_, rfl, fun h => by cases h⟩, hI.k0⟩)
 ·
  have h1 := jK f.body
  have hz : SzOk f := ⟨by omega, by omega⟩
  refine Vs 5 O ?_
  refine zl7 Tryz.call42 O (fun w hI => zab f _ _ _ D w (Tr1 hI.k0 hf) hz.size hz.bulk) ?_
  refine Vs 2 O ?_
  refine zkt 9 O (fun c0 => ?_) (fun c0 => ?_)
  ·
   refine Vs 7 O ?_
   refine ziV Tryz.results30 O (fun w hI => ⟨_, rfl, ⟨_, rfl, fun _ => hz⟩, hI.k0⟩)
  ·
   refine Vs 1 O ?_
   refine zl9 Tryz.call63 O (fun w hI => zhO f 20 4096 256 _ _ _ D w (Tr1 hI.k0 hf)) ?_
   rintro r w1 w2 hI1 hk12 ⟨q, rfl, _⟩ hlow
   refine Vs 5 O ?_
   refine ziV Tryz.results30 O (fun w hI => ⟨_, rfl, ⟨_, rfl, fun _ => hz⟩, hI.k1⟩)
theorem zge (a : Ac) (ps : List Fl) (m b s : Int) (u1 u2 pv : Value) (D D' : Nat -> Prop) (W : World) (ha : RAc D W a u1 u2) (hps : SlR 3 RPg D' W pv ps) : Calls Tryz.prog 19 #[.agg #[.int .i64 m, .int .i64 b, .int .i64 s, u1, u2], pv] W (Ret fun r w' => (∃ q : Bool, r = .bool q /\ (q = true -> ps.length <= 4 /\ a.left.length <= 20 /\ a.asked.length <= 8 /\ ∀ f ∈ ps, SzOk f)) /\ Ext W w') := by
 obtain ⟨a1, n1, rfl⟩ := ha.left.form
 obtain ⟨a2, n2, rfl⟩ := ha.asked.form
 obtain ⟨a3, n3, rfl⟩ := hps.form
 have hm1 := hps.max
 refine zkH Tryz.func19 O Tryz.ntmps19 O (zkS ?_)
 refine Vs 2 O ?_
 refine V.box 2 O O (fun b2 => ?_)
 refine Vs 5 O ?_
 refine zlj (σ := Unit) [1] [] [] O (fun e u => (21, .bool (decide (4 < ps.length \/ 20 < a.left.length \/ 8 < a.asked.length))) :: e) (fun e u => e) (fun u => True) (fun _ => rfl) (fun _ => rfl) ?_ ?_
 ·
  refine Vs 5 O ?_
  refine zkt 10 O (fun k1_ => ?_) (fun k1_ => ?_)
  ·
   refine Vs 12 O ?_
   refine ziR (()) (Sub.cons (by first | exact xp (by omega) | exact xq (by omega) | exact xr (by omega)) (zkg O)) (zkh O) (trivial) 0 O O
  ·
   refine Vs 6 O ?_
   refine zkt 16 O (fun k2_ => ?_) (fun k2_ => ?_)
   ·
    refine Vs 6 O ?_
    refine ziR (()) (Sub.cons (by first | exact xp (by omega) | exact xq (by omega) | exact xr (by omega)) (zkg O)) (zkh O) (trivial) 0 O O
   ·
    refine Vs 6 O ?_
    refine ziR (()) (Sub.cons (by first | exact xp (by omega) | exact xq (by omega) | exact xr (by omega)) (zkg O)) (zkh O) (trivial) 0 O O
 rintro u _
 refine Vs 1 O ?_
 refine ziB O (fun h0 => ?_) (fun h0 => ?_)
 ·
  refine Vs 7 O ?_
  refine ziV Tryz.results19 O (fun w hI => ⟨_, rfl, ⟨_, rfl, fun h => by cases h⟩, hI.k0⟩)
 ·
  refine Vs 11 O ?_
  refine zli (σ := Nat) [22, 23] [] [] O (fun e i => (24, .int .i64 i) :: e) (fun e i => e) (fun i => i <= ps.length /\ ∀ f ∈ ps.take i, SzOk f) (fun i => ps.length - i) (0) (zkg O) (zkh O) (fun _ => rfl) (fun _ => rfl) (fun _ => rfl) (⟨Nat.zero_le _, fun f h => by simp at h⟩) ?_
  rintro i ⟨hi, hall⟩
  refine Vs 6 O ?_
  refine ziB O (fun hlt => ?_) (fun hlt => ?_)
  ·
   refine Vs 6 O ?_
   obtain ⟨f, he_f, hm_f⟩ := gE_ ps (i) (by omega)
   obtain ⟨b_f, o_f, c_f, ha_f, _, hc_f, hR_f⟩ := hps.at he_f
   obtain ⟨v1_f, v2_f, v3_f, rfl, hf_f⟩ := hR_f
   obtain ⟨a1_f, n1_f, rfl⟩ := hf_f.vars.form
   obtain ⟨a2_f, n2_f, rfl⟩ := hf_f.hatches.form
   obtain ⟨a3_f, n3_f, rfl⟩ := hf_f.body.form
   refine zlf 1000 0 O O hc_f ?_
   refine zkZ 1000 tR23 ts56 O ha_f (by omega) (_) (rfl) O ?_
   refine Vs 1 O ?_
   refine V.alloc 6 tz56 O O (fun b6 => ?_)
   refine Vs 6 O ?_
   refine zl9 Tryz.call30 O (fun w hI => zgd f _ _ _ D' w (Tr1 hI.k0 hf_f)) ?_
   rintro r w1 w2 hI1 hk12 ⟨q, rfl, hq⟩ hlow
   refine zkx O (fun w hI => zk0 O (by first | exact za | rfl)) ?_
   refine Vs 2 O ?_
   refine V.bool O (fun c => ?_) (fun c => ?_)
   ·
    refine Vs 11 O ?_
    refine ziV Tryz.results19 O (fun w hI => ⟨_, rfl, ⟨_, rfl, fun h => by cases h⟩, hI.k1⟩)
   ·
    refine Va 7 O (by omega) ?_
    refine ziM (i + 1) (zkg O) (zkh O) (⟨by omega, fun g hg => by rw [zg he_f] at hg; rcases List.mem_append.1 hg with hg | hg; (· exact hall g hg); (· rw [List.mem_singleton] at hg; rw [hg]; exact hq (by simpa using c))⟩) (by first | omega | (dsimp only; omega)) 1 O O
  ·
   obtain rfl : i = ps.length := by omega
   rw [zmd] at hall
   refine Vs 11 O ?_
   refine ziV Tryz.results19 O (fun w hI => ⟨_, rfl, ⟨_, rfl, fun _ => ⟨by omega, by omega, by omega, hall⟩⟩, hI.k0⟩)
theorem zic {f : Fl} (hz : SzOk f) (h : zZ f = 0) : Valid f := ⟨h, hz.size, hz.bulk⟩
theorem zcU (x : Vr) (w : World) : Calls Tryz.prog 128 #[.agg #[.string x.name, .int .i64 x.kind, .int .i64 x.low, .int .i64 x.high, .int .i64 x.init]] w (Ret fun r w' => r = .bool (decide (x.kind = 3)) /\ Ext w w') := by
 refine zkG Tryz.func128 O Tryz.ntmps128 O (zkS ?_)
 refine Vs 2 O ?_
 refine V.box 1 O O (fun b1 => ?_)
 refine Vs 12 O ?_
 refine ziV Tryz.results128 O (fun w hI => ⟨_, rfl, rfl, hI.k0⟩)
theorem zce (l : List Vr) (v : Value) (D : Nat -> Prop) (W : World) (hl : SlR 5 RVr D W v l) : Calls Tryz.prog 162 #[v, .func (.func 128) #[] #[]] W (Ret fun r w' => r = .int .i64 (ze6 (fun x : Vr => decide (x.kind = 3)) l) /\ Ext W w') := by
 obtain ⟨av, cv, rfl⟩ := hl.form
 have hmx := hl.max
 refine zkH Tryz.func162 O Tryz.ntmps162 O (zkS ?_)
 refine Vs 14 O ?_
 refine zli (σ := Nat) [0, 1, 7] [] [] O (fun e i => (8, .int .i64 i) :: e) (fun e i => e) (fun i => i <= l.length /\ (l.take i).any (fun x : Vr => decide (x.kind = 3)) = false) (fun i => l.length - i) (0) (zkg O) (zkh O) (fun _ => rfl) (fun _ => rfl) (fun _ => rfl) (⟨Nat.zero_le _, by simp⟩) ?_
 rintro i ⟨hi, hno⟩
 refine Vs 6 O ?_
 refine ziB O (fun hlt => ?_) (fun hlt => ?_)
 ·
  refine Vs 15 O ?_
  obtain ⟨x, he_x, hm_x⟩ := gE_ l (i) (by omega)
  obtain ⟨b_x, o_x, c_x, ha_x, _, hc_x, hR_x⟩ := hl.at he_x
  obtain rfl := hR_x
  refine zlf 1000 0 O O hc_x ?_
  refine zkZ 1000 tR52 ts120 O ha_x (by omega) (_) (rfl) O ?_
  refine Vs 1 O ?_
  refine zlu Tryz.call128 O (fun w hI => zcU x w) ?_
  refine Vs 2 O ?_
  refine ziB O (fun hp => ?_) (fun hp => ?_)
  ·
   refine Vs 12 O ?_
   refine ziV tr162 O (fun w hI => ⟨_, rfl, by rw [zbj hno he_x (decide_eq_true hp)], hI.k0⟩)
  ·
   refine Va 7 O (by omega) ?_
   refine ziM (i + 1) (zkg O) (zkh O) (⟨by omega, ky he_x hno (decide_eq_false hp)⟩) (by first | omega | (dsimp only; omega)) 0 O O
 ·
  obtain rfl : i = l.length := by omega
  rw [zmd] at hno
  refine Vs 11 O ?_
  refine ziV tr162 O (fun w hI => ⟨_, rfl, by rw [ju hno], hI.k0⟩)
theorem zcf (l : List Vr) (v : Value) (D : Nat -> Prop) (W : World) (hl : SlR 5 RVr D W v l) : Calls Tryz.prog 127 #[v, .func (.func 128) #[] #[]] W (Ret fun r w' => r = .bool (decide (ze 3 l ≠ [])) /\ Ext W w') := by
 refine zkH Tryz.func127 O Tryz.ntmps127 O (zkS ?_)
 refine Vs 9 O ?_
 refine zl7 Tryz.call162 O (fun w hI => zce l v D w (Tr1 hI.k0 hl)) ?_
 refine Vs 5 O ?_
 refine ziV Tryz.results127 O (fun w hI => ⟨_, rfl, by rw [decide_eq_decide.2]; rw [zbk]; unfold ze; rw [ne_eq, List.filter_eq_nil_iff, List.any_eq_true]; simp, hI.k0⟩)
theorem zbm (f : Fl) (hz : SzOk f) (v1 v2 v3 : Value) (D : Nat -> Prop) (W : World) (hf : RFl D W f v1 v2 v3) : Calls Tryz.prog 95 #[.agg #[v1, v2, v3]] W (Ret fun r w' => r = .int .i64 (zcq f) /\ Ext W w') := by
 refine zkG Tryz.func95 O Tryz.ntmps95 O (zkS ?_)
 refine Vs 2 O ?_
 refine V.box 1 O O (fun b1 => ?_)
 refine Vs 7 O ?_
 refine zl7 Tryz.call126 O (fun w hI => jS f v1 v2 v3 D w (Tr1 hI.k0 hf) hz.size hz.bulk) ?_
 refine Vs 9 O ?_
 refine ziB O (fun c0 => ?_) (fun c0 => ?_)
 ·
  have ha : zcq f = zZ f := if_pos c0
  refine Vs 8 O ?_
  refine ziV Tryz.results95 O (fun w hI => ⟨_, rfl, by rw [ha], hI.k0⟩)
 ·
  have c0 := Decidable.not_not.1 c0
  refine Vs 7 O ?_
  refine zl7 Tryz.call127 O (fun w hI => zcf f.vars v1 D w (Tr1 hI.k0 hf.vars)) ?_
  refine Vs 2 O ?_
  refine ziB O (fun c1 => ?_) (fun c1 => ?_)
  ·
   refine Vs 7 O ?_
   refine ziV Tryz.results95 O (fun w hI => ⟨_, rfl, by unfold zcq; rw [if_neg (not_not_intro c0), if_pos c1], hI.k0⟩)
  ·
   refine Vs 8 O ?_
   refine ziV Tryz.results95 O (fun w hI => ⟨_, rfl, by unfold zcq; rw [if_neg (not_not_intro c0), if_neg c1], hI.k0⟩)
theorem zam {f : Fl} (hz : SzOk f) (h : zcq f = 0) : Valid f /\ ze 3 f.vars = [] := by
 unfold zcq at h
 split at h
 . rename_i h1; exact absurd h h1
 ·
  rename_i h1
  split at h
  . cases h
  . rename_i h2; exact ⟨zic hz (Decidable.not_not.1 h1), Decidable.not_not.1 h2⟩
theorem zcg (f : Fl) (hz : SzOk f) (pub : List Int) (v1 v2 v3 pv : Value) (D D' : Nat -> Prop) (W : World) (hf : RFl D W f v1 v2 v3) (hp : SlR 1 zF D' W pv pub) : Calls Tryz.prog 64 #[.agg #[v1, v2, v3], pv] W (Ret fun r w' => r = .int .i64 (zc6 f pub) /\ Ext W w') := by
 refine zkH Tryz.func64 O Tryz.ntmps64 O (zkS ?_)
 refine Vs 2 O ?_
 refine V.box 2 O O (fun b2 => ?_)
 refine Vs 7 O ?_
 refine zl7 Tryz.call95 O (fun w hI => zbm f hz v1 v2 v3 D w (Tr1 hI.k0 hf)) ?_
 refine Vs 9 O ?_
 refine ziB O (fun c0 => ?_) (fun c0 => ?_)
 ·
  refine Vs 8 O ?_
  refine ziV Tryz.results64 O (fun w hI => ⟨_, rfl, by unfold zc6; rw [if_pos c0], hI.k0⟩)
 ·
  have vd := (zam hz (Decidable.not_not.1 c0)).1
  have hl := vd.lens
  refine Vs 7 O ?_
  refine zl7 Tryz.call96 O (fun w hI => zdS f.vars 2 pub v1 pv D D' w (by decide) vd.good (by omega) (Tr1 hI.k0 hf.vars) (Tr1 hI.k0 hp)) ?_
  refine Vs 14 O ?_
  refine ziV Tryz.results64 O (fun w hI => ⟨_, rfl, by unfold zc6; rw [if_neg c0], hI.k0⟩)
theorem zhe (x : Int) (n : Nat) (b : Nat) (W : World) (hB : Cells W b 0 [.int .i64 n]) : Calls Tryz.prog 98 #[.int .i64 x, .pointer (some ⟨b, 0, none⟩)] W (Ret fun r w' => r = .bool (decide (x < 0 \/ (n : Int) <= x)) /\ Ext W w') := by
 refine zkH Tryz.func98 O Tryz.ntmps98 O (zkS ?_)
 refine zlg 900 0 O O (fun h => h) hB ?_
 refine zkY 1 900 0 O O ?_
 refine Vs 10 O ?_
 refine zkt 6 O (fun c => ?_) (fun c => ?_)
 ·
  refine Vs 8 O ?_
  refine ziV Tryz.results98 O (fun w hI => ⟨_, rfl, by rw [decide_eq_true (.inl c)], hI.k0⟩)
 ·
  refine Vs 8 O ?_
  refine ziV Tryz.results98 O (fun w hI => ⟨_, rfl, by rw [decide_eq_decide.2]; omega, hI.k0⟩)
theorem zdU (f : Fl) (l : List Int) : (!l.any fun x => decide (x < 0 \/ (spN f : Int) <= x)) = decide (xU f l) := by
 rw [Bool.eq_iff_iff, decide_eq_true_iff, Bool.not_eq_true', List.any_eq_false]
 unfold xU
 constructor
 ·
  intro h x hx
  have := h x hx
  rw [decide_eq_true_iff] at this
  omega
 ·
  intro h x hx
  have := h x hx
  rw [decide_eq_true_iff]
  omega
theorem zcV (f : Fl) (vd : Valid f) (l : List Int) (v1 v2 v3 lv : Value) (D D' : Nat -> Prop) (W : World) (hf : RFl D W f v1 v2 v3) (hl : SlR 1 zF D' W lv l) : Calls Tryz.prog 65 #[.agg #[v1, v2, v3], lv] W (Ret fun r w' => r = .bool (decide (xU f l)) /\ Ext W w') := by
 refine zkH Tryz.func65 O Tryz.ntmps65 O (zkS ?_)
 refine Vs 2 O ?_
 refine V.box 2 O O (fun b2 => ?_)
 refine Vs 6 O ?_
 refine zl7 Tryz.call89 O (fun w hI => zaJ f vd v1 v2 v3 D w (Tr1 hI.k0 hf)) ?_
 refine V.alloc 5 tz3 O O (fun b5 => ?_)
 refine Vs 7 O ?_
 refine zl7 Tryz.call97 O (fun w hI => zg9 (fun x => decide (x < 0 \/ (spN f : Int) <= x)) l lv D' _ _ w Tryz.call98 (Tr1 hI.k0 hl) (fun x w' hE _ _ => zhe x (spN f) b5 w' (hE.cells (Blk.cells (hI.at 5 O)) (fun h => h)))) ?_
 refine zkx O (fun w hI => zk0 O (by first | exact za | rfl)) ?_
 refine Vs 4 O ?_
 refine ziV Tryz.results65 O (fun w hI => ⟨_, rfl, by rw [zdU], hI.k0⟩)
theorem zf3 {f : Fl} {pub : List Int} (h : zc6 f pub = 0) : zcq f = 0 /\ (zp 2 f.vars).isSome = true /\ (xT 2 f.vars pub).2 = 0 := by
 unfold zc6 at h
 split at h
 . rename_i h1; exact absurd h h1
 ·
  rename_i h1
  refine ⟨Decidable.not_not.1 h1, ?_, h⟩
  unfold xT at h
  split at h
  . assumption
  . cases h
theorem zf4 (a b : List Int) (va vb : Value) (Da Db : Nat -> Prop) (w : World) (ha : SlR 1 zF Da w va a) (hb : SlR 1 zF Db w vb b) :
  Calls Tryz.prog 61 #[va, vb] w (Ret fun r w' => r = .bool (decide (a = b)) /\ Ext w w') := by
 obtain ⟨aa, ca, rfl⟩ := ha.form
 obtain ⟨ab, cb, rfl⟩ := hb.form
 have hmx := ha.max
 refine zkH Tryz.func61 O Tryz.ntmps61 O (zkS ?_)
 refine Vs 15 O ?_
 refine ziB O (fun hl => ?_) (fun hl => ?_)
 ·
  refine Vs 7 O ?_
  refine ziV Tryz.results61 O (fun w hI => ⟨_, rfl, by rw [decide_eq_false (fun h => by rw [h] at hl; omega)], hI.k0⟩)
 ·
  refine Vs 9 O ?_
  refine zli (σ := Nat) [0, 1] [] [] O (fun e i => (5, .int .i64 i) :: e) (fun e i => e) (fun i => i <= a.length /\ a.take i = b.take i) (fun i => a.length - i) (0) (zkg O) (zkh O) (fun _ => rfl) (fun _ => rfl) (fun _ => rfl) (⟨Nat.zero_le _, by simp⟩) ?_
  rintro i ⟨hi, hall⟩
  refine Vs 9 O ?_
  refine ziB O (fun hlt => ?_) (fun hlt => ?_)
  ·
   refine Vs 5 O ?_
   refine Vq (by kernel_rfl) ?_
   refine Vs 2 O ?_
   obtain ⟨x, he_x, hm_x⟩ := gE_ a (i) (by omega)
   obtain ⟨b_x, o_x, c_x, ha_x, _, hc_x, hR_x⟩ := ha.at he_x
   obtain rfl := hR_x
   refine zlf 1000 0 O O hc_x ?_
   refine zl1 1000 tR31 ts3 O ha_x (by omega) (_) (rfl) O ?_
   refine Vs 3 O ?_
   obtain ⟨y, he_y, hm_y⟩ := gE_ b (i) (by omega)
   obtain ⟨b_y, o_y, c_y, ha_y, _, hc_y, hR_y⟩ := hb.at he_y
   obtain rfl := hR_y
   refine zlf 2000 0 O O hc_y ?_
   refine zl1 2000 tR31 ts3 O ha_y (by omega) (_) (rfl) O ?_
   refine Vs 4 O ?_
   refine ziB O (fun hne => ?_) (fun hne => ?_)
   ·
    refine Vs 11 O ?_
    refine ziV Tryz.results61 O (fun w hI => ⟨_, rfl, by rw [decide_eq_false (fun h => by rw [h, he_y] at he_x; cases he_x; omega)], hI.k0⟩)
   ·
    obtain rfl : x = y := by omega
    refine Va 8 O (by omega) ?_
    refine ziM (i + 1) (zkg O) (zkh O) (⟨by omega, by rw [zg he_x, zg he_y, hall]⟩) (by first | omega | (dsimp only; omega)) 0 O O
  ·
   refine Vs 11 O ?_
   refine ziV Tryz.results61 O (fun w hI => ⟨_, rfl, by rw [decide_eq_true (by rw [List.take_of_length_le (by omega), List.take_of_length_le (by omega)] at hall; exact hall)], hI.k0⟩)
theorem zhf (a b : List Int) (t u : Int) (va vb : Value) (Da Db : Nat -> Prop) (w : World) (ha : SlR 1 zF Da w va a) (hb : SlR 1 zF Db w vb b) :
  Calls Tryz.prog 29 #[.agg #[va, .int .i64 t], .agg #[vb, .int .i64 u]] w (Ret fun r w' => r = .bool (decide (t = u /\ a = b)) /\ Ext w w') := by
 refine zkH Tryz.func29 O Tryz.ntmps29 O (zkS ?_)
 refine Vs 2 O ?_
 refine V.box 2 O O (fun b2 => ?_)
 refine V.box 3 O O (fun b3 => ?_)
 refine Vs 11 O ?_
 refine zkt 10 O (fun e => ?_) (fun e => ?_)
 ·
  refine Vs 4 O ?_
  refine zl7 Tryz.call61 O (fun w hI => zf4 a b va vb Da Db w (Tr1 hI.k0 ha) (Tr1 hI.k0 hb)) ?_
  refine Vs 5 O ?_
  refine ziV Tryz.results29 O (fun w hI => ⟨_, rfl, by simp [e], hI.k0⟩)
 ·
  refine Vs 10 O ?_
  refine ziV Tryz.results29 O (fun w hI => ⟨_, rfl, by rw [decide_eq_false (fun h => e h.1)], hI.k0⟩)
theorem zgf {α : Type} {k : Nat} {R : Rel α} {D : Nat -> Prop} {w : World} {n c : Nat} {l : List α} (h : SlR k R D w (.slice none n c) l) : l = [] := by
 cases l with
 | nil => rfl
 | cons x r =>
  obtain ⟨ao, cap, h1, _, _, h4⟩ := h
  obtain ⟨b, o, cs, h5, _⟩ := h4 0 x rfl
  cases h1
  cases h5
theorem zf5 (l : List Int) (hlen : l.length <= 17592186044416) (v : Value) (D : Nat -> Prop) (W : World) (hl : SlR 1 zF D W v l) : Calls Tryz.prog 68 #[v] W (Ret fun r w' => SlR 1 zF (fun b => W.heap.size <= b) w' r l /\ Ext W w') := by
 obtain ⟨ao, co, rfl⟩ := hl.form
 refine zkG Tryz.func68 O Tryz.ntmps68 O (zkS ?_)
 refine Vs 9 O ?_
 refine zkx O (fun w hI => zjU tu31 O) ?_
 cases ao
 ·
  obtain rfl := zgf hl
  refine Vs 2 O ?_
  refine V.bool O (fun h => ?_) (fun h => ?_)
  ·
   refine Vs 7 O ?_
   refine ziV Tryz.results68 O (fun w hI => ⟨_, rfl, SlR.nil, hI.k0⟩)
  . cases h
 ·
  refine Vs 2 O ?_
  refine V.bool O (fun h => ?_) (fun h => ?_)
  . cases h
  ·
   refine Vs 4 O ?_
   refine V.bs0 5 tR31 ts3 O (fun b5 => ?_)
   refine Vs 1 O ?_
   refine V.apS 5 (fun x => [zi x]) (fun _ => rfl) (by simp [Value.oneCell']) zfO tu31 Tryz.el3 O (by decide) O (fun w hI => ⟨_, Tr1 hI.k0 hl⟩) (by omega) (by omega) (fun u5 => ?_)
   refine zlh 5 O (e' := .row 3 1 u5 l.length (l.map zi)) (by rw [Nat.zero_add, List.nil_append, <- List.map_eq_flatMap]) ?_
   refine Vs 4 O ?_
   refine ziV Tryz.results68 O (fun w hI => ⟨_, rfl, zjO zi (fun _ _ => rfl) (hI.at 5 O) (fun b hb => hI.own 5 0 O O b hb), hI.k0⟩)
abbrev Cl2 := { c : List Value // c.length = 2 /\ ∀ u ∈ c, u.oneCell' = true }
def RCl : Rel Cl2 := fun _ _ x cs => cs = x.1
theorem zf6 : zQ RCl := fun _ _ _ _ _ _ _ _ h => h
instance : StC RCl := ⟨zf6⟩
theorem zdv : ∀ {l : List Int} {s : Int}, l.Pairwise (· < ·) -> (∀ p, l.getLast? = some p -> p < s) -> (l ++ [s]).Pairwise (· < ·)
 | [], s, _, _ => List.pairwise_singleton _ _
 | [x], s, _, h => by
  have := h x rfl
  simp [this]
 | x :: y :: l, s, hp, h => by
  have ih := zdv (l := y :: l) (s := s) (List.pairwise_cons.1 hp).2 (fun p hp' => h p (by simpa using hp'))
  refine List.pairwise_cons.2 ⟨fun z hz => ?_, ih⟩
  rcases List.mem_append.1 hz with hz | hz
  . exact (List.pairwise_cons.1 hp).1 z hz
  ·
   rw [List.mem_singleton] at hz
   subst hz
   have h1 := (List.pairwise_cons.1 hp).1 y (zmc ..)
   have h2 := (List.pairwise_cons.1 ih).1 z (List.mem_append_right _ (List.mem_singleton.2 rfl))
   omega
theorem zf7 {l : List Int} {i : Nat} {p : Int} (hi : i <= l.length) (h : (l.take i).getLast? = some p) : 0 < i /\ l[i - 1]? = some p := by
 cases i with
 | zero => simp at h
 | succ i =>
  refine ⟨Nat.succ_pos _, ?_⟩
  rw [List.getLast?_eq_getElem?, List.length_take, List.getElem?_take] at h
  rw [Nat.min_eq_left hi] at h
  simpa using h
structure AscT (l : List Int) (i : Nat) : Prop where
 le : i <= l.length
 rng : ∀ x ∈ l.take i, 0 <= x /\ x < 4096
 asc : (l.take i).Pairwise (· < ·)
theorem AscT.next {l : List Int} {i : Nat} {x : Int} (h : AscT l i) (hx : l[i]? = some x) (h0 : 0 <= x /\ x < 4096) (h1 : ∀ p, 0 < i -> l[i - 1]? = some p -> p < x) : AscT l (i + 1) := by
 have hl := (List.getElem?_eq_some_iff.1 hx).1
 refine ⟨by omega, fun y hy => ?_, ?_⟩
 ·
  rw [zg hx] at hy
  rcases List.mem_append.1 hy with hy | hy
  . exact h.rng y hy
  . rw [List.mem_singleton] at hy; rw [hy]; exact h0
 ·
  rw [zg hx]
  exact zdv h.asc fun p hp => by
   obtain ⟨h2, h3⟩ := zf7 h.le hp
   exact h1 p h2 h3
abbrev zhg (a : Ac) : Prop := ¬ (a.mode = 0 \/ a.mode = 1) \/ a.budget < 1 \/ 1048576 < a.budget \/ a.spent < 1 \/ a.budget < a.spent
theorem zhh {a : Ac} (h : zhg a) : decide (ValidA a) = false := decide_eq_false fun v => by have h1 := v.mode; have h2 := v.b1; have h3 := v.b2; have h4 := v.s1; have h5 := v.s2; omega
theorem zhP {a : Ac} (h : a.left.length < 1 \/ 4096 < a.left.length) : decide (ValidA a) = false := decide_eq_false fun v => by have h1 := v.l1; have h2 := v.l2; omega
theorem zgC {a : Ac} {i : Nat} {x : Int} (hx : a.left[i]? = some x) (h : x < 0 \/ 4096 <= x) : decide (ValidA a) = false := decide_eq_false fun v => by have := v.rng x (zm9 hx); omega
theorem zhQ {a : Ac} {i : Nat} {x p : Int} (h0 : 0 < i) (hx : a.left[i]? = some x) (hp : a.left[i - 1]? = some p) (h : x <= p) : decide (ValidA a) = false := decide_eq_false fun v => by
 obtain ⟨l1, e1⟩ := List.getElem?_eq_some_iff.1 hx
 obtain ⟨l2, e2⟩ := List.getElem?_eq_some_iff.1 hp
 have := List.pairwise_iff_getElem.1 v.asc (i - 1) i l2 l1 (by omega)
 omega
theorem zf8 {a : Ac} (h1 : ¬ zhg a) (h2 : ¬ (a.left.length < 1 \/ 4096 < a.left.length)) (h : AscT a.left a.left.length) : decide (ValidA a) = true := by
 have h3 := h.rng
 have h4 := h.asc
 rw [zmd] at h3 h4
 exact decide_eq_true ⟨by omega, by omega, by omega, by omega, by omega, by omega, by omega, h3, h4⟩
theorem zan (a : Ac) (u1 u2 : Value) (D : Nat -> Prop) (W : World) (ha : RAc D W a u1 u2) : Calls Tryz.prog 26 #[.agg #[.int .i64 a.mode, .int .i64 a.budget, .int .i64 a.spent, u1, u2]] W (Ret fun r w' => r = .bool (decide (ValidA a)) /\ Ext W w') := by
 have hl := ha.left
 obtain ⟨al, cl, rfl⟩ := hl.form
 obtain ⟨aq, cq, hq⟩ := ha.asked.form
 subst hq
 have hmx := hl.max
 refine zkG Tryz.func26 O Tryz.ntmps26 O (zkS ?_)
 refine Vs 2 O ?_
 refine V.box 1 O O (fun b1 => ?_)
 refine Vs 5 O ?_
 refine zlj (σ := Unit) [1] [1] [1] O (fun e u => (34, .bool (decide (zhg a))) :: e) (fun e u => e) (fun u => True) (fun _ => rfl) (fun _ => rfl) ?_ ?_
 ·
  refine Vs 5 O ?_
  refine zkt 8 O (fun k1_ => ?_) (fun k1_ => ?_)
  ·
   refine Vs 5 O ?_
   refine zkt 13 O (fun k2_ => ?_) (fun k2_ => ?_)
   ·
    refine Vs 22 O ?_
    refine ziR (()) (Sub.cons (by first | exact xp (by omega) | exact xq (by omega) | exact xr (by omega)) (zkg O)) (zkh O) (trivial) 0 O O
   ·
    refine Vs 5 O ?_
    refine zkt 18 O (fun k3_ => ?_) (fun k3_ => ?_)
    ·
     refine Vs 17 O ?_
     refine ziR (()) (Sub.cons (by first | exact xp (by omega) | exact xq (by omega) | exact xr (by omega)) (zkg O)) (zkh O) (trivial) 0 O O
    ·
     refine Vs 5 O ?_
     refine zkt 23 O (fun k4_ => ?_) (fun k4_ => ?_)
     ·
      refine Vs 12 O ?_
      refine ziR (()) (Sub.cons (by first | exact xp (by omega) | exact xq (by omega) | exact xr (by omega)) (zkg O)) (zkh O) (trivial) 0 O O
     ·
      refine Vs 5 O ?_
      refine zkt 28 O (fun k5_ => ?_) (fun k5_ => ?_)
      ·
       refine Vs 7 O ?_
       refine ziR (()) (Sub.cons (by first | exact xp (by omega) | exact xq (by omega) | exact xr (by omega)) (zkg O)) (zkh O) (trivial) 0 O O
      ·
       refine Vs 7 O ?_
       refine ziR (()) (Sub.cons (by first | exact xp (by omega) | exact xq (by omega) | exact xr (by omega)) (zkg O)) (zkh O) (trivial) 0 O O
  ·
   refine Vs 10 O ?_
   refine zkt 18 O (fun k2_ => ?_) (fun k2_ => ?_)
   ·
    refine Vs 17 O ?_
    refine ziR (()) (Sub.cons (by first | exact xp (by omega) | exact xq (by omega) | exact xr (by omega)) (zkg O)) (zkh O) (trivial) 0 O O
   ·
    refine Vs 5 O ?_
    refine zkt 23 O (fun k3_ => ?_) (fun k3_ => ?_)
    ·
     refine Vs 12 O ?_
     refine ziR (()) (Sub.cons (by first | exact xp (by omega) | exact xq (by omega) | exact xr (by omega)) (zkg O)) (zkh O) (trivial) 0 O O
    ·
     refine Vs 5 O ?_
     refine zkt 28 O (fun k4_ => ?_) (fun k4_ => ?_)
     ·
      refine Vs 7 O ?_
      refine ziR (()) (Sub.cons (by first | exact xp (by omega) | exact xq (by omega) | exact xr (by omega)) (zkg O)) (zkh O) (trivial) 0 O O
     ·
      refine Vs 7 O ?_
      refine ziR (()) (Sub.cons (by first | exact xp (by omega) | exact xq (by omega) | exact xr (by omega)) (zkg O)) (zkh O) (trivial) 0 O O
 rintro u _
 refine Vs 1 O ?_
 refine ziB O (fun c1 => ?_) (fun c1 => ?_)
 ·
  refine Vs 7 O ?_
  refine ziV tr26 O (fun w hI => ⟨_, rfl, by rw [zhh c1], hI.k0⟩)
 ·
  refine Vs 4 O ?_
  refine zlj (σ := Unit) [1] [1] [1] O (fun e u => (44, .bool (decide (a.left.length < 1 \/ 4096 < a.left.length))) :: e) (fun e u => e) (fun u => True) (fun _ => rfl) (fun _ => rfl) ?_ ?_
  ·
   refine Vs 6 O ?_
   refine zkt 39 O (fun k1_ => ?_) (fun k1_ => ?_)
   ·
    refine Vs 6 O ?_
    refine ziR (()) (Sub.cons (by first | exact xp (by omega) | exact xq (by omega) | exact xr (by omega)) (zkg O)) (zkh O) (trivial) 0 O O
   ·
    refine Vs 6 O ?_
    refine ziR (()) (Sub.cons (by first | exact xp (by omega) | exact xq (by omega) | exact xr (by omega)) (zkg O)) (zkh O) (trivial) 0 O O
  rintro u _
  refine Vs 1 O ?_
  refine ziB O (fun c2 => ?_) (fun c2 => ?_)
  ·
   refine Vs 7 O ?_
   refine ziV tr26 O (fun w hI => ⟨_, rfl, by rw [zhP c2], hI.k0⟩)
  ·
   refine Vs 12 O ?_
   refine zli (σ := Nat) [1, 46, 47] [1] [1] O (fun e i => (48, .int .i64 i) :: e) (fun e i => e) (fun i => AscT a.left i) (fun i => a.left.length - i) (0) (zkg O) (zkh O) (fun _ => rfl) (fun _ => rfl) (fun _ => rfl) (⟨Nat.zero_le _, by simp, by simp⟩) ?_
   rintro i hA
   have hle := hA.le
   refine Vs 6 O ?_
   refine ziB O (fun hlt => ?_) (fun hlt => ?_)
   ·
    refine Vs 7 O ?_
    obtain ⟨x, he_x, hm_x⟩ := gE_ a.left (i) (by omega)
    obtain ⟨b_x, o_x, c_x, ha_x, _, hc_x, hR_x⟩ := hl.at he_x
    obtain rfl := hR_x
    refine zlf 1000 0 O O hc_x ?_
    refine zkZ 1000 tR31 ts3 O ha_x (by omega) (_) (rfl) O ?_
    refine Vs 10 O ?_
    refine zkt 55 O (fun b1 => ?_) (fun b1 => ?_)
    ·
     refine Vs 31 O ?_
     refine ziV tr26 O (fun w hI => ⟨_, rfl, by rw [zgC he_x (.inl b1)], hI.k0⟩)
    ·
     refine Vs 4 O ?_
     refine zkt 59 O (fun b2 => ?_) (fun b2 => ?_)
     ·
      refine Vs 27 O ?_
      refine ziV tr26 O (fun w hI => ⟨_, rfl, by rw [zgC he_x (.inr b2)], hI.k0⟩)
     ·
      refine Vs 3 O ?_
      refine zkt 62 O (fun b3 => ?_) (fun b3 => ?_)
      ·
       obtain ⟨y, he_y, hm_y⟩ := gE_ a.left (i-1) (by omega)
       obtain ⟨b_y, o_y, c_y, ha_y, _, hc_y, hR_y⟩ := hl.at he_y
       obtain rfl := hR_y
       refine zlf 2000 0 O O hc_y ?_
       refine Va 5 O (by omega) ?_
       refine zkZ 2000 tR31 ts3 O ha_y (by omega) (i - 1) (by omega) O ?_
       refine Vs 6 O ?_
       refine ziB O (fun b4 => ?_) (fun b4 => ?_)
       ·
        refine Vs 11 O ?_
        refine ziV tr26 O (fun w hI => ⟨_, rfl, by rw [zhQ (by omega) he_x he_y b4], hI.k0⟩)
       ·
        refine Va 7 O (by omega) ?_
        refine ziM (i + 1) (zkg O) (zkh O) (hA.next he_x (by omega) fun p _ hp => by rw [he_y] at hp; cases hp; omega) (by first | omega | (dsimp only; omega)) 0 O O
      ·
       refine Va 20 O (by omega) ?_
       refine ziM (i + 1) (zkg O) (zkh O) (hA.next he_x (by omega) fun p h0 _ => absurd h0 (by omega)) (by first | omega | (dsimp only; omega)) 0 O O
   ·
    obtain rfl : i = a.left.length := by omega
    refine Vs 11 O ?_
    refine ziV tr26 O (fun w hI => ⟨_, rfl, by rw [zf8 c1 c2 hA], hI.k0⟩)
theorem zdV (p q : Int × List Int) (u v : Value) (D D' : Nat -> Prop) (W : World) (hp : SlR 1 zF D W u p.2) (hq : SlR 1 zF D' W v q.2) : Calls Tryz.prog 115 #[.agg #[.int .i64 p.1, u], .agg #[.int .i64 q.1, v]] W (Ret fun r w' => r = .bool (decide (p = q)) /\ Ext W w') := by
 obtain ⟨a1, c1, rfl⟩ := hp.form
 obtain ⟨a2, c2, rfl⟩ := hq.form
 refine zkH Tryz.func115 O Tryz.ntmps115 O (zkS ?_)
 refine Vs 2 O ?_
 refine V.box 2 O O (fun b2 => ?_)
 refine V.box 3 O O (fun b3 => ?_)
 refine Vs 11 O ?_
 refine zkt 10 O (fun e => ?_) (fun e => ?_)
 ·
  refine Vs 4 O ?_
  refine zl7 tc18 O (fun w hI => qz p.2 q.2 _ _ D D' w (Tr1 hI.k0 hp) (Tr1 hI.k0 hq)) ?_
  refine Vs 5 O ?_
  refine ziV Tryz.results115 O (fun w hI => ⟨_, rfl, by rw [decide_eq_decide.2]; rw [Prod.ext_iff]; simp [e], hI.k0⟩)
 ·
  refine Vs 10 O ?_
  refine ziV Tryz.results115 O (fun w hI => ⟨_, rfl, by rw [decide_eq_false (fun h => e (by rw [h]))], hI.k0⟩)
theorem zgg (p q : Int × List Int) (u v : Value) (D D' : Nat -> Prop) (W : World) (hp : SlR 1 zF D W u p.2) (hq : SlR 1 zF D' W v q.2) : Calls Tryz.prog 58 #[.agg #[.int .i64 p.1, u], .agg #[.int .i64 q.1, v]] W (Ret fun r w' => r = .bool (decide (p = q)) /\ Ext W w') := by
 obtain ⟨a1, c1, rfl⟩ := hp.form
 obtain ⟨a2, c2, rfl⟩ := hq.form
 refine zkH Tryz.func58 O Tryz.ntmps58 O (zkS ?_)
 refine Vs 2 O ?_
 refine V.box 2 O O (fun b2 => ?_)
 refine V.box 3 O O (fun b3 => ?_)
 refine Vs 11 O ?_
 refine zkt 10 O (fun e => ?_) (fun e => ?_)
 ·
  refine Vs 4 O ?_
  refine zl7 tc18 O (fun w hI => qz p.2 q.2 _ _ D D' w (Tr1 hI.k0 hp) (Tr1 hI.k0 hq)) ?_
  refine Vs 5 O ?_
  refine ziV Tryz.results58 O (fun w hI => ⟨_, rfl, by rw [decide_eq_decide.2]; rw [Prod.ext_iff]; simp [e], hI.k0⟩)
 ·
  refine Vs 10 O ?_
  refine ziV Tryz.results58 O (fun w hI => ⟨_, rfl, by rw [decide_eq_false (fun h => e (by rw [h]))], hI.k0⟩)
theorem zdW (p q : Int × List Int) (u v : Value) (b : Nat) (D D' : Nat -> Prop) (W : World) (hp : SlR 1 zF D W u p.2) (hq : SlR 1 zF D' W v q.2) (hB : Cells W b 0 [.int .i64 q.1, v]) : Calls Tryz.prog 114 #[.agg #[.int .i64 p.1, u], .pointer (some ⟨b, 0, none⟩)] W (Ret fun r w' => r = .bool (decide (p = q)) /\ Ext W w') := by
 obtain ⟨a1, c1, rfl⟩ := hp.form
 obtain ⟨a2, c2, rfl⟩ := hq.form
 refine zkH Tryz.func114 O Tryz.ntmps114 O (zkS ?_)
 refine zlg 900 0 O O (fun h => h) hB ?_
 refine zkY 1 900 0 O O ?_
 refine Vs 2 O ?_
 refine V.box 2 O O (fun b2 => ?_)
 refine Vs 7 O ?_
 refine zl7 Tryz.call115 O (fun w hI => zdV p q _ _ D D' w (Tr1 hI.k0 hp) (Tr1 hI.k0 hq)) ?_
 refine Vs 4 O ?_
 refine ziV Tryz.results114 O (fun w hI => ⟨_, rfl, rfl, hI.k0⟩)
theorem zhi (l : List (Int × List Int)) (q : Int × List Int) : (l.any fun p => decide (p = q)) = decide (q ∈ l) := by
 rw [Bool.eq_iff_iff, decide_eq_true_iff, List.any_eq_true]
 constructor
 ·
  rintro ⟨x, hx, h⟩
  rw [<- of_decide_eq_true h]; exact hx
 . exact fun h => ⟨q, h, by simp⟩
theorem zch (a : Ac) (q : Int × List Int) (u1 u2 v : Value) (m b s : Int) (D D' : Nat -> Prop) (W : World) (ha : RAc D W a u1 u2) (hq : SlR 1 zF D' W v q.2) : Calls Tryz.prog 83 #[.agg #[.int .i64 m, .int .i64 b, .int .i64 s, u1, u2], .agg #[.int .i64 q.1, v]] W (Ret fun r w' => r = .bool (decide (q ∈ a.asked)) /\ Ext W w') := by
 obtain ⟨a1, c1, rfl⟩ := hq.form
 obtain ⟨a2, c2, h2⟩ := ha.left.form
 obtain ⟨a3, c3, h3⟩ := ha.asked.form
 subst h2 h3
 refine zkH Tryz.func83 O Tryz.ntmps83 O (zkS ?_)
 refine Vs 2 O ?_
 refine V.box 2 O O (fun b2 => ?_)
 refine V.box 3 O O (fun b3 => ?_)
 refine Vs 8 O ?_
 refine zl7 Tryz.call84 O (fun w hI => zg7 (fun p => decide (p = q)) a.asked _ D _ _ w Tryz.call114 (Tr1 hI.k0 ha.asked) (fun x u w' hE _ hd => zdW x q u _ b3 D D' w' hd (Tr1 ((hI.k0).trans hE (fun _ _ h => h)) hq) (hE.cells (Blk.cells (hI.at 3 O)) (fun h => h)))) ?_
 refine Vs 4 O ?_
 refine ziV Tryz.results83 O (fun w hI => ⟨_, rfl, by rw [zhi], hI.k0⟩)
theorem zgh (a b : Ac) (u1 u2 v1 v2 : Value) (D D' : Nat -> Prop) (W : World) (ha : RAc D W a u1 u2) (hb : RAc D' W b v1 v2) : Calls Tryz.prog 27 #[.agg #[.int .i64 a.mode, .int .i64 a.budget, .int .i64 a.spent, u1, u2], .agg #[.int .i64 b.mode, .int .i64 b.budget, .int .i64 b.spent, v1, v2]] W (Ret fun r w' => r = .bool (decide (a = b)) /\ Ext W w') := by
 obtain ⟨a2, c2, h2⟩ := ha.left.form
 obtain ⟨a3, c3, h3⟩ := ha.asked.form
 obtain ⟨a4, c4, h4⟩ := hb.left.form
 obtain ⟨a5, c5, h5⟩ := hb.asked.form
 subst h2 h3 h4 h5
 have hne : ∀ {p : Prop}, (a = b -> p) -> ¬ p -> decide (a = b) = false := fun h h' => decide_eq_false (fun e => h' (h e))
 refine zkH Tryz.func27 O Tryz.ntmps27 O (zkS ?_)
 refine Vs 2 O ?_
 refine V.box 2 O O (fun b2 => ?_)
 refine V.box 3 O O (fun b3 => ?_)
 refine Vs 11 O ?_
 refine zkt 10 O (fun e1 => ?_) (fun e1 => ?_)
 ·
  refine Vs 7 O ?_
  refine zkt 17 O (fun e2 => ?_) (fun e2 => ?_)
  ·
   refine Vs 7 O ?_
   refine zkt 24 O (fun e3 => ?_) (fun e3 => ?_)
   ·
    refine Vs 4 O ?_
    refine zl7 tc18 O (fun w hI => qz a.left b.left _ _ D D' w (Tr1 hI.k0 ha.left) (Tr1 hI.k0 hb.left)) ?_
    refine Vs 2 O ?_
    refine zkt 31 O (fun e4 => ?_) (fun e4 => ?_)
    ·
     refine Vs 4 O ?_
     refine zl7 Tryz.call57 O (fun w hI => zga a.asked b.asked _ _ D D' _ w Tryz.call58 (Tr1 hI.k0 ha.asked) (Tr1 hI.k0 hb.asked) (fun x y u u2 w' h1 h2 => zgg x y u u2 D D' w' h1 h2)) ?_
     refine Vs 5 O ?_
     refine ziV tr27 O (fun w hI => ⟨_, rfl, by rw [decide_eq_decide.2]; rw [Ac.ext_iff]; simp [e1, e2, e3, e4], hI.k0⟩)
    ·
     refine Vs 10 O ?_
     refine ziV tr27 O (fun w hI => ⟨_, rfl, by rw [hne (congrArg Ac.left) e4], hI.k0⟩)
   ·
    refine Vs 17 O ?_
    refine ziV tr27 O (fun w hI => ⟨_, rfl, by rw [hne (congrArg Ac.spent) e3], hI.k0⟩)
  ·
   refine Vs 24 O ?_
   refine ziV tr27 O (fun w hI => ⟨_, rfl, by rw [hne (congrArg Ac.budget) e2], hI.k0⟩)
 ·
  refine Vs 31 O ?_
  refine ziV tr27 O (fun w hI => ⟨_, rfl, by rw [hne (congrArg Ac.mode) e1], hI.k0⟩)
theorem zci (q : Int × List Int) (hlen : q.2.length <= 17592186044416) (v : Value) (D : Nat -> Prop) (W : World) (hq : SlR 1 zF D W v q.2) : Calls Tryz.prog 69 #[.agg #[.int .i64 q.1, v]] W (Ret fun r w' => (∃ u, r = .agg #[.int .i64 q.1, u] /\ SlR 1 zF (fun b => W.heap.size <= b) w' u q.2) /\ Ext W w') := by
 obtain ⟨a1, c1, rfl⟩ := hq.form
 refine zkG Tryz.func69 O Tryz.ntmps69 O (zkS ?_)
 refine Vs 2 O ?_
 refine V.box 1 O O (fun b1 => ?_)
 refine V.alloc 2 tz33 O O (fun b2 => ?_)
 refine Vs 3 O ?_
 refine Vw [1, 2] [6] O ?_
 refine Vd [0, 1, 2, 3] 0 (by kernel_rfl) O O O ?_
 refine zla 4 0 Tryz.call68 O (by kernel_rfl) O O (fun w hI => zf5 q.2 hlen _ D w (Tr1 hI.k0 hq)) ?_
 rintro u w1 w2 hI1 hk12 hu hlow
 obtain ⟨au, cu, rfl⟩ := hu.form
 have e1 : W.heap.size <= w1.heap.size := hI1.k0.size
 refine zlo 5 [Value.int IntKind.i64 0, Value.slice none 0 0] [(0, 1), (1, 1)] [(0, _), (1, _)] O (by kernel_rfl) O O (fun _ => by kernel_rfl) ?_
 refine Vl 6 O (by kernel_rfl) O ?_
 refine zjJ (by kernel_rfl) ?_
 refine Vs 2 O ?_
 refine V.dat 900 0 O O O (hu) (fun b hb _ hs => by have := hlow b hs; omega) ?_
 refine zj3 Tryz.results69 Tryz.isAgg33 ts33 O O O (fun w hI => ⟨_, rfl, ⟨_, rfl, (hI.at 900 O).1.wide zc (fun b hb => by omega)⟩, hI.k1⟩)
theorem zcW {ps : List Fl} {k : Nat} {f : Fl} (h : ps[k]? = some f) : zbq ps (k : Int) = some f := by
 unfold zbq
 rw [if_neg (by omega), Int.toNat_natCast]; exact h
theorem zbn {ps : List Fl} {i : Int} (h : i < 0 \/ (ps.length : Int) <= i) : zbq ps i = none := by
 unfold zbq
 split
 . rfl
 . exact List.getElem?_eq_none (by omega)
theorem zdX {a : Ac} {ps : List Fl} {q : Qu} (h : ¬ ValidA a) : yU a ps q = 1 := if_pos h
theorem zdY {a : Ac} {ps : List Fl} {q : Qu} (h : ValidA a) (hq : q.1 < 0 \/ (ps.length : Int) <= q.1) : yU a ps q = 3 := by
 unfold yU
 rw [if_neg (not_not_intro h), zbn hq]
theorem zf9 {a : Ac} {ps : List Fl} {k : Nat} {f : Fl} {pub : List Int} (h : ValidA a) (hk : ps[k]? = some f) : yU a ps ((k : Int), pub) = qPC f a pub := by
 unfold yU
 rw [if_neg (not_not_intro h)]
 simp only [zcW hk]
theorem zao (a : Ac) (ps : List Fl) (hz : ∀ f ∈ ps, SzOk f) (q : Qu) (u1 u2 pv qv : Value) (D D1 D2 : Nat -> Prop) (W : World) (ha : RAc D W a u1 u2) (hps : SlR 3 RPg D1 W pv ps) (hq : SlR 1 zF D2 W qv q.2) :
  Calls Tryz.prog 45 #[.agg #[.int .i64 a.mode, .int .i64 a.budget, .int .i64 a.spent, u1, u2], pv, .agg #[.int .i64 q.1, qv]] W (Ret fun r w' => r = .int .i64 (yU a ps q) /\ Ext W w') := by
 obtain ⟨qp, pub⟩ := q
 dsimp only at hq
 obtain ⟨a1, c1, h1⟩ := ha.left.form
 obtain ⟨a2, c2, h2⟩ := ha.asked.form
 subst h1 h2
 obtain ⟨ap, cp, rfl⟩ := hps.form
 obtain ⟨aq, cq, rfl⟩ := hq.form
 have hmp := hps.max
 refine zkI Tryz.func45 O Tryz.ntmps45 O (zkS ?_)
 refine Vs 2 O ?_
 refine V.box 3 O O (fun b3 => ?_)
 refine V.box 5 O O (fun b5 => ?_)
 refine Vs 7 O ?_
 refine zl7 Tryz.call26 O (fun w hI => zan a _ _ D w (Tr1 hI.k0 ha)) ?_
 refine zkx O (fun w hI => zk0 O (by first | exact za | rfl)) ?_
 refine Vs 2 O ?_
 refine ziB O (fun v0 => ?_) (fun v0 => ?_)
 ·
  refine Vs 7 O ?_
  refine ziV tr45 O (fun w hI => ⟨_, rfl, by rw [zdX v0], hI.k0⟩)
 ·
  have v0 := Decidable.not_not.1 v0
  refine Vs 4 O ?_
  refine zlj (σ := Unit) [1, 3, 5] [3, 5] [3, 5] O (fun e u => (21, .bool (decide (qp < 0 \/ (ps.length : Int) <= qp))) :: e) (fun e u => e) (fun u => True) (fun _ => rfl) (fun _ => rfl) ?_ ?_
  ·
   refine Vs 5 O ?_
   refine zkt 15 O (fun k1_ => ?_) (fun k1_ => ?_)
   ·
    refine Vs 7 O ?_
    refine ziR (()) (Sub.cons (by first | exact xp (by omega) | exact xq (by omega) | exact xr (by omega)) (zkg O)) (zkh O) (trivial) 0 O O
   ·
    refine Vs 7 O ?_
    refine ziR (()) (Sub.cons (by first | exact xp (by omega) | exact xq (by omega) | exact xr (by omega)) (zkg O)) (zkh O) (trivial) 0 O O
  rintro u _
  refine Vs 1 O ?_
  refine ziB O (fun q0 => ?_) (fun q0 => ?_)
  ·
   refine Vs 7 O ?_
   refine ziV tr45 O (fun w hI => ⟨_, rfl, by rw [zdY v0 q0], hI.k0⟩)
  ·
   obtain ⟨k, rfl⟩ : ∃ k : Nat, qp = (k : Int) := ⟨qp.toNat, by omega⟩
   refine Vs 7 O ?_
   obtain ⟨f, he_f, hm_f⟩ := gE_ ps (k) (by omega)
   obtain ⟨b_f, o_f, c_f, ha_f, _, hc_f, hR_f⟩ := hps.at he_f
   obtain ⟨v1_f, v2_f, v3_f, rfl, hf_f⟩ := hR_f
   obtain ⟨a1_f, n1_f, rfl⟩ := hf_f.vars.form
   obtain ⟨a2_f, n2_f, rfl⟩ := hf_f.hatches.form
   obtain ⟨a3_f, n3_f, rfl⟩ := hf_f.body.form
   refine zlf 1000 0 O O hc_f ?_
   refine zkZ 1000 tR23 ts56 O ha_f (by omega) (_) (rfl) O ?_
   have hzf := hz f hm_f
   rw [zf9 v0 he_f]
   refine Vs 1 O ?_
   refine V.alloc 7 tz56 O O (fun b7 => ?_)
   refine Vs 9 O ?_
   refine zl7 Tryz.call64 O (fun w hI => zcg f hzf pub _ _ _ _ D1 D2 w (Tr1 hI.k0 hf_f) (Tr1 hI.k0 hq)) ?_
   refine Vs 9 O ?_
   refine ziB O (fun p0 => ?_) (fun p0 => ?_)
   ·
    refine Vs 8 O ?_
    refine ziV tr45 O (fun w hI => ⟨_, rfl, by unfold qPC; rw [if_pos p0], hI.k0⟩)
   ·
    have p0 := Decidable.not_not.1 p0
    have vd := (zam hzf (zf3 p0).1).1
    refine Vs 8 O ?_
    refine zl7 Tryz.call65 O (fun w hI => zcV f vd a.left _ _ _ _ D1 D w (Tr1 hI.k0 hf_f) (Tr1 hI.k0 ha.left)) ?_
    refine zkx O (fun w hI => zk0 O (by first | exact za | rfl)) ?_
    refine Vs 2 O ?_
    refine ziB O (fun i0 => ?_) (fun i0 => ?_)
    ·
     refine Vs 7 O ?_
     refine ziV tr45 O (fun w hI => ⟨_, rfl, by unfold qPC; rw [if_neg (not_not_intro p0), if_neg i0], hI.k0⟩)
    ·
     refine Vs 8 O ?_
     refine ziV tr45 O (fun w hI => ⟨_, rfl, by unfold qPC; rw [if_neg (not_not_intro p0), if_pos (Decidable.not_not.1 i0)], hI.k0⟩)
theorem zdw (f : Fl) : (zax f).length = spN f := by simp [zax]
theorem zap (a : Ac) (hla : a.left.length <= 5000) (f : Fl) (vd : Valid f) (q : Qu) (u1 u2 v1 v2 v3 qv : Value) (D D1 D2 : Nat -> Prop) (W : World) (ha : RAc D W a u1 u2) (hf : RFl D1 W f v1 v2 v3) (hq : SlR 1 zF D2 W qv q.2) (ht : Tab W) :
  Calls Tryz.prog 46 #[.agg #[.int .i64 a.mode, .int .i64 a.budget, .int .i64 a.spent, u1, u2], .agg #[v1, v2, v3], .agg #[.int .i64 q.1, qv]] W (Ret fun r w' => r = .int .i64 (yi a f q) /\ Ext W w') := by
 obtain ⟨a1, c1, h1⟩ := ha.left.form
 obtain ⟨a2, c2, h2⟩ := ha.asked.form
 subst h1 h2
 obtain ⟨aq, cq, rfl⟩ := hq.form
 have hsp := zeW vd
 have hal := zdw f
 refine zkI Tryz.func46 O Tryz.ntmps46 O (zkS ?_)
 refine Vs 2 O ?_
 refine V.box 3 O O (fun b3 => ?_)
 refine V.box 4 O O (fun b4 => ?_)
 refine V.box 5 O O (fun b5 => ?_)
 refine Vs 11 O ?_
 refine ziB O (fun m0 => ?_) (fun m0 => ?_)
 ·
  refine Vs 7 O ?_
  refine zl9 Tryz.call51 O (fun w hI => qV f vd q.2 a.left v1 v2 v3 _ _ D1 D2 D w hla (Tr1 hI.k0 hf) (Tr1 hI.k0 hq) (Tr1 hI.k0 ha.left) (Tr1 hI.k0 ht)) ?_
  rintro r2 w3 w4 hI3 hk34 hobs hlow2
  obtain ⟨ao, co, rfl⟩ := hobs.form
  refine Vs 6 O ?_
  refine ziV Tryz.results46 O (fun w hI => ⟨_, rfl, by unfold yi; rw [if_pos m0], hI.k1⟩)
 ·
  refine Vs 7 O ?_
  refine zl7 Tryz.call83 O (fun w hI => zch a q _ _ _ _ _ _ D D2 w (Tr1 hI.k0 ha) (Tr1 hI.k0 hq)) ?_
  refine Vs 2 O ?_
  refine ziB O (fun b0 => ?_) (fun b0 => ?_)
  ·
   refine Vs 7 O ?_
   refine ziV Tryz.results46 O (fun w hI => ⟨_, rfl, by unfold yi; rw [if_neg m0, if_pos b0], hI.k0⟩)
  ·
   refine Vs 3 O ?_
   refine Vw [3, 4, 5] [] O ?_
   refine Vd [0, 1, 2, 3] 0 (by kernel_rfl) O O O ?_
   refine zla 4 0 Tryz.call52 O (by kernel_rfl) O O (fun w hI => zgB f vd v1 v2 v3 D1 w (Tr1 hI.k0 hf)) ?_
   rintro r1 w1 w2 hI1 hk12 hall hlow
   obtain ⟨al, cl, rfl⟩ := hall.form
   refine zla 5 1 Tryz.call51 O (by kernel_rfl) O O (fun w hI => qV f vd q.2 (zax f) v1 v2 v3 _ _ D1 D2 _ w (by omega) (Tr1 hI.k1 hf) (Tr1 hI.k1 hq) (hall.keep zc hI.k0 (fun b hb _ hs => by have := hlow b hs; omega)) (Tr1 hI.k1 ht)) ?_
   rintro r2 w3 w4 hI3 hk34 hobs hlow2
   obtain ⟨ao, co, rfl⟩ := hobs.form
   refine Vd [6, 7] 2 (by kernel_rfl) O O O ?_
   refine zjI (by kernel_rfl) ?_
   refine Vs 2 O ?_
   refine ziV Tryz.results46 O (fun w hI => ⟨_, rfl, by unfold yi; rw [if_neg m0, if_neg b0], hI.k2⟩)
theorem zcj (a : Ac) (hla : a.left.length <= 5000) (ps : List Fl) (hz : ∀ f ∈ ps, SzOk f) (q : Qu) (u1 u2 pv qv : Value) (D D1 D2 : Nat -> Prop) (W : World) (ha : RAc D W a u1 u2) (hps : SlR 3 RPg D1 W pv ps) (hq : SlR 1 zF D2 W qv q.2) (ht : Tab W) :
  Calls Tryz.prog 20 #[.agg #[.int .i64 a.mode, .int .i64 a.budget, .int .i64 a.spent, u1, u2], pv, .agg #[.int .i64 q.1, qv]] W (Ret fun r w' => r = .tuple #[.int .i64 (if yU a ps q ≠ 0 then 0 else match zbq ps q.1 with | none => 0 | some f => yi a f q), .int .i64 (yU a ps q)] /\ Ext W w') := by
 obtain ⟨qp, pub⟩ := q
 dsimp only at hq
 obtain ⟨a1, c1, h1⟩ := ha.left.form
 obtain ⟨a2, c2, h2⟩ := ha.asked.form
 subst h1 h2
 obtain ⟨ap, cp, rfl⟩ := hps.form
 obtain ⟨aq, cq, rfl⟩ := hq.form
 have hmp := hps.max
 refine zkI Tryz.func20 O Tryz.ntmps20 O (zkS ?_)
 refine Vs 2 O ?_
 refine V.box 3 O O (fun b3 => ?_)
 refine V.box 5 O O (fun b5 => ?_)
 refine Vs 10 O ?_
 refine zl7 Tryz.call45 O (fun w hI => zao a ps hz (qp, pub) _ _ _ _ D D1 D2 w (Tr1 hI.k0 ha) (Tr1 hI.k0 hps) (Tr1 hI.k0 hq)) ?_
 refine Vs 9 O ?_
 refine ziB O (fun e0 => ?_) (fun e0 => ?_)
 ·
  refine Vs 9 O ?_
  refine ziY Tryz.results20 O O (fun w hI => ⟨_, rfl, by rw [if_pos e0], hI.k0⟩)
 ·
  have e0 := Decidable.not_not.1 e0
  obtain ⟨v0, f', hg, ha0, hr0, hi0⟩ := jW e0
  have hq1 : 0 <= qp /\ qp < ps.length := by
   rcases Int.lt_or_le qp 0 with h | h
   . rw [zbn (.inl h)] at hg; cases hg
   ·
    rcases Int.lt_or_le qp ps.length with h' | h'
    . exact ⟨h, h'⟩
    . rw [zbn (.inr h')] at hg; cases hg
  obtain ⟨k, rfl⟩ : ∃ k : Nat, qp = (k : Int) := ⟨qp.toNat, by omega⟩
  refine Vs 3 O ?_
  obtain ⟨f, he_f, hm_f⟩ := gE_ ps (k) (by omega)
  obtain ⟨b_f, o_f, c_f, ha_f, _, hc_f, hR_f⟩ := hps.at he_f
  obtain ⟨v1_f, v2_f, v3_f, rfl, hf_f⟩ := hR_f
  obtain ⟨a1_f, n1_f, rfl⟩ := hf_f.vars.form
  obtain ⟨a2_f, n2_f, rfl⟩ := hf_f.hatches.form
  obtain ⟨a3_f, n3_f, rfl⟩ := hf_f.body.form
  refine zlf 1000 0 O O hc_f ?_
  rw [zcW he_f] at hg
  have hfe := Option.some.inj hg
  subst hfe
  have vd := (zam (hz f hm_f) ha0).1
  refine Vw [3, 5, 1000] [] O ?_
  refine Vd [0, 1, 2, 3, 6] 0 (by kernel_rfl) O O O ?_
  refine zl0 4 1000 tR23 ts56 O (by kernel_rfl) O ha_f (by omega) (_) (rfl) O ?_
  refine Vd [5] 0 (by kernel_rfl) O O O ?_
  refine zl8 7 0 Tryz.call46 O (by kernel_rfl) O O (fun w hI => zap a hla f vd ((k : Int), pub) _ _ _ _ _ _ D D1 D2 w (Tr1 hI.k0 ha) (Tr1 hI.k0 hf_f) (Tr1 hI.k0 hq) (Tr1 hI.k0 ht)) ?_
  refine Vd [8, 9] 0 (by kernel_rfl) O O O ?_
  refine zjI (by kernel_rfl) ?_
  refine Vs 2 O ?_
  refine ziY Tryz.results20 O O (fun w hI => ⟨_, rfl, by rw [if_neg (not_not_intro e0), e0, zcW he_f], hI.k0⟩)
structure Rc where
 x0 : Int
 x1 : Int
 x2 : Int
 x3 : Int
 x4 : Int
 prog : Int
 pub : Int
 ans : Int
 charge : Int
def RRc : Rel Rc := fun _ _ r cs => cs = [.int .i64 r.x0, .int .i64 r.x1, .int .i64 r.x2, .int .i64 r.x3, .int .i64 r.x4, .int .i64 r.prog, .int .i64 r.pub, .int .i64 r.ans, .int .i64 r.charge]
theorem zck : zQ RRc := fun _ _ _ _ _ _ _ _ h => h
theorem zfa : xt RRc := fun _ _ _ _ h => h
instance : StC RRc := ⟨zck⟩
instance : Dt RRc := ⟨zck, zfa⟩
def zfb (f : Fl) (r : Rc) : Qu := (r.prog, (yy (ze 2 f.vars) r.pub).1)
def ziq (l : List Ob) (i : Int) : Option Ob := if i < 0 then none else l[i.toNat]?
def zhR (a : Ac) (f : Fl) (r : Rc) : Ac × Int :=
 if zcq f ≠ 0 then (ac0, zcq f)
 else if yH 2 f.vars r.pub ≠ 0 then (ac0, 3)
 else if ¬ xU f a.left then (ac0, 2)
 else if r.charge ≠ yi a f (zfb f r) \/ a.budget.tdiv a.spent < yi a f (zfb f r) then (ac0, 13)
 else match ziq (zg0 f (zfb f r).2 (zax f)) r.ans with
  | none => (ac0, 2)
  | some o => if yK f (zfb f r).2 o a.left = [] then (ac0, 2) else (zeQ a f (zfb f r) r.charge o, 0)
def zcr (a : Ac) (ps : List Fl) (r : Rc) : Ac × Int := match zbq ps r.prog with
 | none => (ac0, 3)
 | some f => zhR a f r
def yI (ps : List Fl) : Ac -> List Rc -> Ac × Int
 | a, [] => (a, 0)
 | a, r :: rs => if r.charge = 0 then yI ps a rs else if (zcr a ps r).2 ≠ 0 then (ac0, (zcr a ps r).2) else yI ps (zcr a ps r).1 rs
theorem zfc {a : Ac} {f : Fl} {q : Qu} {o : Ob} (hv : ValidA a) (hi : xU f a.left) (hp : yi a f q <= a.budget.tdiv a.spent) (hl : yK f q.2 o a.left ≠ []) : ValidA (zeQ a f q (yi a f q) o) := by
 obtain ⟨s, hs⟩ := List.exists_mem_of_ne_nil _ hl
 have h1 := List.mem_filter.1 hs
 have h2 := of_decide_eq_true h1.2
 exact h2 ▸ hv.ans h1.1 hi hp
theorem zhS {a : Ac} {ps : List Fl} {r : Rc} (hz : ∀ f ∈ ps, SzOk f) (hv : ValidA a) (h : (zcr a ps r).2 = 0) : ValidA (zcr a ps r).1 /\ (zcr a ps r).1.asked.length <= a.asked.length + 1 /\ ∀ p ∈ (zcr a ps r).1.asked, p ∈ a.asked \/ p.2.length <= 1000000 := by
 unfold zcr at h ⊢
 cases hg : zbq ps r.prog with
 | none => rw [hg] at h; cases h
 | some f =>
  rw [hg] at h
  simp only at h ⊢
  have hf : f ∈ ps := by
   unfold zbq at hg
   split at hg
   . cases hg
   . exact zm9 hg
  unfold zhR at h ⊢
  by_cases h1 : zcq f = 0
  ·
   obtain ⟨vd, _⟩ := zam (hz f hf) h1
   rw [if_neg (not_not_intro h1)] at h ⊢
   split at h
   . cases h
   ·
    rename_i h2
    rw [if_neg h2]
    split at h
    . cases h
    ·
     rename_i h3
     rw [if_neg h3]
     split at h
     . cases h
     ·
      rename_i h4
      rw [if_neg h4]
      cases ho : ziq (zg0 f (zfb f r).2 (zax f)) r.ans with
      | none => rw [ho] at h; cases h
      | some o =>
       rw [ho] at h
       simp only at h ⊢
       split at h
       . cases h
       ·
        rename_i h5
        rw [if_neg h5]
        have hc : r.charge = yi a f (zfb f r) := by omega
        refine ⟨?_, ?_, fun p hp => ?_⟩
        . rw [hc]; exact zfc hv (Decidable.not_not.1 h3) (by omega) h5
        ·
         show (if zfb f r ∈ a.asked then a.asked else a.asked ++ [zfb f r]).length <= _
         split
         . omega
         . simp
        ·
         have hp : p ∈ (if zfb f r ∈ a.asked then a.asked else a.asked ++ [zfb f r]) := hp
         split at hp
         . exact .inl hp
         ·
          rcases List.mem_append.1 hp with hp | hp
          . exact .inl hp
          ·
           rw [List.mem_singleton.1 hp]
           refine .inr ?_
           have := qS (ze 2 f.vars) r.pub
           have := xe 2 f.vars
           have := vd.lens
           show (yy (ze 2 f.vars) r.pub).1.length <= _
           omega
  . rw [if_pos h1] at h; exact absurd h h1
theorem zcX {ps : List Fl} {a : Ac} {rs : List Rc} {i : Nat} {r : Rc} (hr : rs[i]? = some r) (h : r.charge = 0) : yI ps a (rs.drop i) = yI ps a (rs.drop (i + 1)) := by
 rw [qx hr, yI, if_pos h]
theorem zdZ {ps : List Fl} {a : Ac} {rs : List Rc} {i : Nat} {r : Rc} (hr : rs[i]? = some r) (h : r.charge ≠ 0) (h1 : (zcr a ps r).2 ≠ 0) : yI ps a (rs.drop i) = (ac0, (zcr a ps r).2) := by
 rw [qx hr, yI, if_neg h, if_pos h1]
theorem zcY {ps : List Fl} {a : Ac} {rs : List Rc} {i : Nat} {r : Rc} (hr : rs[i]? = some r) (h : r.charge ≠ 0) (h1 : (zcr a ps r).2 = 0) : yI ps a (rs.drop i) = yI ps (zcr a ps r).1 (rs.drop (i + 1)) := by
 rw [qx hr, yI, if_neg h, if_neg (not_not_intro h1)]
structure RpIn (ps : List Fl) (a : Ac) (rs : List Rc) (i : Nat) (b : Ac) : Prop where
 le : i <= rs.length
 ok : ValidA b
 al : b.asked.length <= a.asked.length + i
 ql : ∀ p ∈ b.asked, p.2.length <= 17592186044416
 eq : yI ps b (rs.drop i) = yI ps a rs
theorem zjS {ps : List Fl} {a : Ac} {rs : List Rc} (hv : ValidA a) (hq : ∀ p ∈ a.asked, p.2.length <= 17592186044416) : RpIn ps a rs 0 a := ⟨Nat.zero_le _, hv, by omega, hq, rfl⟩
theorem RpIn.skip {ps : List Fl} {a b : Ac} {rs : List Rc} {i : Nat} {r : Rc} (h : RpIn ps a rs i b) (hr : rs[i]? = some r) (h1 : r.charge = 0) : RpIn ps a rs (i + 1) b := ⟨(List.getElem?_eq_some_iff.1 hr).1, h.ok, by have := h.al; omega, h.ql, by rw [<- zcX hr h1]; exact h.eq⟩
theorem RpIn.next {ps : List Fl} {a b : Ac} {rs : List Rc} {i : Nat} {r : Rc} (hz : ∀ f ∈ ps, SzOk f) (h : RpIn ps a rs i b) (hr : rs[i]? = some r) (h1 : r.charge ≠ 0) (h2 : (zcr b ps r).2 = 0) : RpIn ps a rs (i + 1) (zcr b ps r).1 := by
 obtain ⟨g1, g2, g3⟩ := zhS hz h.ok h2
 exact ⟨(List.getElem?_eq_some_iff.1 hr).1, g1, by have := h.al; omega, fun p hp => (g3 p hp).elim (h.ql p) (fun h => by omega), by rw [<- zcY hr h1 h2]; exact h.eq⟩
theorem RpIn.bad {ps : List Fl} {a b : Ac} {rs : List Rc} {i : Nat} {r : Rc} (h : RpIn ps a rs i b) (hr : rs[i]? = some r) (h1 : r.charge ≠ 0) (h2 : (zcr b ps r).2 ≠ 0) : yI ps a rs = (ac0, (zcr b ps r).2) := by
 rw [<- h.eq]; exact zdZ hr h1 h2
theorem zjK {ps : List Fl} {a b : Ac} {rs : List Rc} (h : RpIn ps a rs rs.length b) : yI ps a rs = (b, 0) := by
 rw [<- h.eq, List.drop_length]; rfl
structure AcB (a : Ac) : Prop where
 ll : a.left.length <= 5000
 al : a.asked.length <= 100000
 ql : ∀ p ∈ a.asked, p.2.length <= 17592186044416
theorem ze0 {f : Fl} {pub : List Int} {o : Ob} {l : List Int} {i : Nat} {x : Int} (hx : l[i]? = some x) : yK f pub o (l.take (i + 1)) = yK f pub o (l.take i) ++ (if obN f pub x = o then [x] else []) := by
 unfold yK
 rw [zg hx, List.filter_append]
 congr 1
 by_cases e : obN f pub x = o <;> simp [e]
theorem zfd (f : Fl) (pub : List Int) (o : Ob) (l : List Int) : (yK f pub o l).length <= l.length := List.length_filter_le _ _
abbrev quE (q : Qu) (y : Option Addr × Nat × (Nat -> Prop)) : HE := DaP RQu y.2.2 q [.int .i64 q.1, .slice y.1 q.2.length y.2.1]
theorem zhT {H : Hp} {f : FuncId} {args : Array Value} {q : Qu} {w : World} (k : Nat) (hc : Calls Tryz.prog f args w (Ret fun r w' => (∃ u, r = .agg #[.int .i64 q.1, u] /\ SlR 1 zF (fun b => w.heap.size <= b) w' u q.2) /\ Ext w w')) :
  Calls Tryz.prog f args w (Ret fun r w' => ∃ y : Option Addr × Nat × (Nat -> Prop), r = .agg #[.int .i64 q.1, .slice y.1 q.2.length y.2.1] /\ Hands H [] [(k, quE q y)] w w') := by
 refine hc.mono ?_
 rintro _ w' ⟨_, rfl, ⟨ov, rfl, hd⟩, hk⟩
 obtain ⟨ao, co, rfl⟩ := hd.form
 refine ⟨_, rfl, (ao, co, fun b => w.heap.size <= b /\ b < w'.heap.size), rfl, hk.mono fun q _ h => h.elim, fun x hx => ?_, List.pairwise_singleton _ _⟩
 rw [List.mem_singleton] at hx
 subst hx
 exact ⟨⟨_, rfl, hd.narrow (by omega) yj⟩, DaP.loc, fun _ h => h, fun q hq => ⟨.inr hq.1, hq.2⟩⟩
theorem owf {α : Type} {R : Rel α} {e : TypeId} {kk : Nat} {F : Nat -> Prop} {w : World} {v : Value} {l : List α} (h : (OwP e kk R F v l).holds w) : ∃ ao c, v = .slice ao l.length c := by
 obtain ⟨ao, c, h, _⟩ := OwH.form (show OwH e kk R F w v l from h)
 exact ⟨ao, c, h⟩
theorem ze1 (a : Ac) (hB : AcB a) (f : Fl) (vd : Valid f) (q : Qu) (hql : q.2.length <= 17592186044416) (n : Int) (hsn : 0 <= a.spent * n /\ a.spent * n <= 1048576) (o : Ob) (u1 u2 v1 v2 v3 qv ov : Value) (D D1 D2 D3 : Nat -> Prop) (W : World) (ha : RAc D W a u1 u2) (hf : RFl D1 W f v1 v2 v3) (hq : SlR 1 zF D2 W qv q.2) (ho : SlR 1 zF D3 W ov o.1) :
  Calls Tryz.prog 55 #[.agg #[.int .i64 a.mode, .int .i64 a.budget, .int .i64 a.spent, u1, u2], .agg #[v1, v2, v3], .agg #[.int .i64 q.1, qv], .int .i64 n, .agg #[ov, .int .i64 o.2]] W (Ret fun r w' => (∃ r1 r2, r = .agg #[.int .i64 a.mode, .int .i64 a.budget, .int .i64 (a.spent * n), r1, r2] /\ RAc (fun b => W.heap.size <= b) w' (zeQ a f q n o) r1 r2) /\ Ext W w') := by
 have hl := ha.left
 have hqs := ha.asked
 obtain ⟨a1, c1, rfl⟩ := hl.form
 obtain ⟨a2, c2, rfl⟩ := hqs.form
 obtain ⟨aq, cq, rfl⟩ := hq.form
 obtain ⟨ao, co, rfl⟩ := ho.form
 have hb1 := hB.ll
 have hb2 := hB.al
 have hml := hl.max
 have hmq := hqs.max
 refine G.in5 Tryz.func55 O Tryz.ntmps55 O (zkS ?_)
 refine Vs 2 O ?_
 refine V.box 5 O O (fun b5 => ?_)
 refine V.box 6 O O (fun b6 => ?_)
 refine V.box 7 O O (fun b7 => ?_)
 refine V.box 9 O O (fun b9 => ?_)
 refine V.alloc 10 tz37 O O (fun b10 => ?_)
 refine Va 12 O (by omega) ?_
 refine zln [Value.int IntKind.i64 0, Value.int IntKind.i64 0, Value.int IntKind.i64 0, Value.slice none 0 0, Value.slice none 0 0] [(0, 1), (1, 1), (2, 1), (3, 1), (4, 1)] [(0, _), (1, _), (2, _)] O O (fun _ => by kernel_rfl) ?_
 refine V.alloc 11 tz37 O O (fun b11 => ?_)
 refine Vs 12 O ?_
 refine zl2 900 3 1 O ?_
 refine Vs 1 O ?_
 refine zli (σ := Nat × Value) [5, 6, 7, 9, 10, 11, 26, 27] [5, 6, 7, 9, 10] [5, 6, 7, 9, 10, 11] O (fun e ⟨i, v⟩ => (28, .int .i64 i) :: e) (fun e ⟨i, v⟩ => (11, .own b11 [.int .i64 a.mode, .int .i64 a.budget, .int .i64 (a.spent * n), v, .slice none 0 0] 37) :: (900, .row 3 1 v (yK f q.2 o (a.left.take i)).length ((yK f q.2 o (a.left.take i)).map zi)) :: e) (fun ⟨i, v⟩ => i <= a.left.length) (fun ⟨i, v⟩ => a.left.length - i) ((0, .slice none 0 0)) (zkg O) (zkh O) (fun _ => rfl) (fun _ => rfl) (fun _ => rfl) (Nat.zero_le _) ?_
 rintro ⟨i, v⟩ hi
 show V _ _ _ _ _ ((28, .int .i64 i) :: _) _ ((11, .own b11 [.int .i64 a.mode, .int .i64 a.budget, .int .i64 (a.spent * n), v, .slice none 0 0] 37) :: (900, .row 3 1 v (yK f q.2 o (a.left.take i)).length ((yK f q.2 o (a.left.take i)).map zi)) :: _) _
 have hlo := zfd f q.2 o (a.left.take i)
 rw [List.length_take] at hlo
 refine Vs 6 O ?_
 refine ziB O (fun hlt => ?_) (fun hlt => ?_)
 ·
  refine Vs 6 O ?_
  obtain ⟨x, he_x, hm_x⟩ := gE_ a.left (i) (by omega)
  obtain ⟨b_x, o_x, c_x, ha_x, _, hc_x, hR_x⟩ := hl.at he_x
  obtain rfl := hR_x
  refine zlf 1000 0 O O hc_x ?_
  refine zkZ 1000 tR31 ts3 O ha_x (by omega) (_) (rfl) O ?_
  have hto := ze0 (f := f) (pub := q.2) (o := o) he_x
  refine Vs 5 O ?_
  refine Vw [5, 6, 7, 9, 10, 11, 1000] [] O ?_
  refine Vd [0, 1, 2, 3, 5] 0 (by kernel_rfl) O O O ?_
  refine zlx 4 0 [] (Hn := fun y : Option Addr × Nat × (Nat -> Prop) => [(905, obE (obN f q.2 x) y)]) [(5, some (5, 0)), (6, some (6, 0)), (7, some (7, 0)), (9, some (9, 0)), (10, some (10, 0)), (11, some (11, 0)), (30, some (1000, 0)), (33, some (7, 1))] Tryz.call49 O (by kernel_rfl) O O (fun _ => rfl) (fun _ _ => rfl) (fun _ => rfl) (fun w hI => zha 905 (xR f vd q.2 x v1 v2 v3 _ D1 D2 w (Tr1 hI.k0 hf) (Tr1 hI.k0 hq))) ?_
  rintro _ ⟨ax, cx, G⟩ rfl
  refine zl8 6 0 Tryz.call54 O (by kernel_rfl) O O (fun w hI => xy (obN f q.2 x) o _ _ G D3 w (zf0 (hI.at 905 O)) (Tr1 hI.k0 ho)) ?_
  refine Vd [7] 0 (by kernel_rfl) O O O ?_
  refine zjI (by kernel_rfl) ?_
  refine Vs 1 O ?_
  refine ziB O (fun c => ?_) (fun c => ?_)
  ·
   rw [if_pos (cmpOb_iff.1 c)] at hto
   refine Vs 4 O ?_
   refine zll 43 [(0, _)] tR31 ts3 tz3 (by decide) O O (by kernel_rfl) (fun b43 => ?_)
   refine V.ap 900 43 tu31 Tryz.el3 O (by decide) O O (by omega) (by omega) (fun u900 => ?_)
   refine Vs 1 O ?_
   refine zl4 900 O (by omega) ?_
   rintro bq cq2 rfl hcap_900
   refine Va 8 O (by omega) ?_
   refine zlh 900 O (e' := .row 3 1 (.slice (some ⟨bq, 0, none⟩) ((yK f q.2 o (a.left.take i)).length + 1) cq2) (yK f q.2 o (a.left.take (i + 1))).length ((yK f q.2 o (a.left.take (i + 1))).map zi)) (by rw [hto, zmg, List.map_append]; rfl) ?_
   refine ziM (⟨i + 1, _⟩) (zkg O) (zkh O) (by omega) (by first | omega | (dsimp only; omega)) 0 O O
  ·
   rw [if_neg (fun e => c (cmpOb_iff.2 e)), List.append_nil] at hto
   refine zlh 900 O (e' := .row 3 1 v (yK f q.2 o (a.left.take (i + 1))).length ((yK f q.2 o (a.left.take (i + 1))).map zi)) (by rw [hto]) ?_
   refine Va 7 O (by omega) ?_
   refine ziM (⟨i + 1, v⟩) (zkg O) (zkh O) (by omega) (by first | omega | (dsimp only; omega)) 0 O O
 ·
  obtain rfl : i = a.left.length := by omega
  rw [zmd] at *
  refine Vs 14 O ?_
  refine zkT (fun w hI => zaN (show w.ownsRow 0 3 1 v _ _ from hI.at 900 O)) ?_
  rintro ⟨av, cv, rfl⟩
  refine zl2 901 33 2 O ?_
  refine zlq 901 (e' := OwP 33 2 RQu (fun _ => False) (.slice none 0 0) []) O (fun w hI => OwH.nil) OwP.loc (fun _ h => h) (fun q hq => hq.elim id False.elim) ?_
  refine Vs 1 O ?_
  refine zli (σ := Nat × Option Addr × Nat × (Nat -> Prop)) [5, 7, 10, 11, 48, 49] [5, 7, 10] [5, 7, 10, 11] O (fun e ⟨j, aj, cj, F⟩ => (50, .int .i64 j) :: e) (fun e ⟨j, aj, cj, F⟩ => (11, .own b11 [.int .i64 a.mode, .int .i64 a.budget, .int .i64 (a.spent * n), .slice av (yK f q.2 o a.left).length cv, .slice aj (a.asked.take j).length cj] 37) :: (900, .row 3 1 (.slice av (yK f q.2 o a.left).length cv) (yK f q.2 o a.left).length ((yK f q.2 o a.left).map zi)) :: (901, OwP 33 2 RQu F (.slice aj (a.asked.take j).length cj) (a.asked.take j)) :: e) (fun ⟨j, aj, cj, F⟩ => j <= a.asked.length) (fun ⟨j, aj, cj, F⟩ => a.asked.length - j) ((0, none, 0, fun _ => False)) (zkg O) (zkh O) (fun _ => rfl) (fun _ => rfl) (fun _ => rfl) (Nat.zero_le _) ?_
  rintro ⟨j, aj, cj, F⟩ hj
  show V _ _ _ _ _ ((50, .int .i64 j) :: _) _ ((11, .own b11 [.int .i64 a.mode, .int .i64 a.budget, .int .i64 (a.spent * n), .slice av (yK f q.2 o a.left).length cv, .slice aj (a.asked.take j).length cj] 37) :: (900, .row 3 1 (.slice av (yK f q.2 o a.left).length cv) (yK f q.2 o a.left).length ((yK f q.2 o a.left).map zi)) :: (901, OwP 33 2 RQu F (.slice aj (a.asked.take j).length cj) (a.asked.take j)) :: _) _
  have hjl : (a.asked.take j).length = j := by rw [List.length_take]; omega
  refine Vs 6 O ?_
  refine ziB O (fun hlt2 => ?_) (fun hlt2 => ?_)
  ·
   refine Vs 6 O ?_
   obtain ⟨p, he_p, hm_p⟩ := gE_ a.asked (j) (by omega)
   obtain ⟨b_p, o_p, c_p, ha_p, _, hc_p, hR_p⟩ := hqs.at he_p
   obtain ⟨v1_p, rfl, hs_p⟩ := hR_p
   obtain ⟨a1_p, n1_p, rfl⟩ := hs_p.form
   refine zlf 2000 0 O O hc_p ?_
   refine zkZ 2000 tR24 ts33 O ha_p (by omega) (_) (rfl) O ?_
   have hpl := hB.ql p hm_p
   have htj := zg he_p
   refine Vs 1 O ?_
   refine V.alloc 15 tz33 O O (fun b15 => ?_)
   refine Vs 3 O ?_
   refine Vw [5, 7, 10, 11, 2000, 15] [7] O ?_
   refine Vd [0, 1, 2] 0 (by kernel_rfl) O O O ?_
   refine zlx 3 0 [] (Hn := fun y : Option Addr × Nat × (Nat -> Prop) => [(906, quE p y)]) [(5, some (5, 0)), (7, some (7, 0)), (10, some (10, 0)), (11, some (11, 0)), (15, some (15, 0)), (52, some (2000, 0)), (54, some (11, 4))] Tryz.call69 O (by kernel_rfl) O O (fun _ => rfl) (fun _ _ => rfl) (fun _ => rfl) (fun w hI => zhT 906 (zci p hpl _ D w (Tr1 hI.k0 hs_p))) ?_
   rintro _ ⟨ax, cx, G⟩ rfl
   refine zlm 4 58 0 [(0, _)] tR24 ts33 tz33 (by decide) O (by kernel_rfl) O O (by kernel_rfl) (fun b58 => ?_)
   refine zlF 5 0 [901, 906] (Hn := fun u => [(901, OwP 33 2 RQu (fun q => F q \/ G q) u (a.asked.take j ++ [p]))]) (u := fun u => u) [(5, some (5, 0)), (7, some (7, 0)), (10, some (10, 0)), (11, some (11, 0)), (15, some (15, 0)), (52, some (2000, 0)), (54, some (11, 4))] O (by kernel_rfl) O O (fun _ => rfl) (fun _ => rfl) (fun _ => rfl) (fun w hI => zlG 901 906 58 hI O O O O tu24 Tryz.el33 O (by decide) O O O (fun D x cs h => zgz D x cs h) (by omega) (by omega)) (fun u901 => ?_)
   refine zkU (p := ∃ ao c, u901 = .slice ao (a.asked.take j ++ [p]).length c) (fun w hI => owf (hI.at 901 O)) (fun hu => ?_)
   obtain ⟨an, cn, rfl⟩ := hu
   refine Vd [6] 0 (by kernel_rfl) O O O ?_
   refine Vl 7 O (by kernel_rfl) O ?_
   refine zjJ (by kernel_rfl) ?_
   refine Va 6 O (by omega) ?_
   rw [<- htj] at *
   refine ziM (⟨j + 1, an, cn, fun q => F q \/ G q⟩) (zkg O) (zkh O) (by omega) (by first | omega | (dsimp only; omega)) 0 O O
  ·
   obtain rfl : j = a.asked.length := by omega
   rw [zmd] at *
   refine Vs 10 O ?_
   refine zl7 Tryz.call83 O (fun w hI => zch a q _ _ _ _ _ _ D D2 w (Tr1 hI.k0 ha) (Tr1 hI.k0 hq)) ?_
   refine zkx O (fun w hI => zk0 O (by first | exact za | rfl)) ?_
   refine Vs 2 O ?_
   refine ziB O (fun b0 => ?_) (fun b0 => ?_)
   ·
    have hA : zeQ a f q n o = ⟨a.mode, a.budget, a.spent * n, yK f q.2 o a.left, a.asked ++ [q]⟩ := by unfold zeQ; rw [if_neg b0]
    rw [hA]
    refine Vw [5, 7, 10, 11] [7] O ?_
    refine Vd [0, 1, 2] 0 (by kernel_rfl) O O O ?_
    refine zlx 3 0 [] (Hn := fun y : Option Addr × Nat × (Nat -> Prop) => [(906, quE q y)]) [(5, some (5, 0)), (7, some (7, 0)), (10, some (10, 0)), (11, some (11, 0)), (66, some (11, 4))] Tryz.call69 O (by kernel_rfl) O O (fun _ => rfl) (fun _ _ => rfl) (fun _ => rfl) (fun w hI => zhT 906 (zci q hql _ D2 w (Tr1 hI.k0 hq))) ?_
    rintro _ ⟨ax, cx, G⟩ rfl
    refine zlm 4 70 0 [(0, _)] tR24 ts33 tz33 (by decide) O (by kernel_rfl) O O (by kernel_rfl) (fun b70 => ?_)
    refine zlF 5 0 [901, 906] (Hn := fun u => [(901, OwP 33 2 RQu (fun q => F q \/ G q) u (a.asked ++ [q]))]) (u := fun u => u) [(5, some (5, 0)), (7, some (7, 0)), (10, some (10, 0)), (11, some (11, 0)), (66, some (11, 4))] O (by kernel_rfl) O O (fun _ => rfl) (fun _ => rfl) (fun _ => rfl) (fun w hI => zlG 901 906 70 hI O O O O tu24 Tryz.el33 O (by decide) O O O (fun D x cs h => zgz D x cs h) (by omega) (by omega)) (fun u901 => ?_)
    refine zkU (p := ∃ ao c, u901 = .slice ao (a.asked ++ [q]).length c) (fun w hI => owf (hI.at 901 O)) (fun hu => ?_)
    obtain ⟨an, cn, rfl⟩ := hu
    refine Vd [6] 0 (by kernel_rfl) O O O ?_
    refine Vl 7 O (by kernel_rfl) O ?_
    refine zjJ (by kernel_rfl) ?_
    refine Vs 8 O ?_
    refine zj3 Tryz.results55 tg37 ts37 O O O (fun w hI => ⟨_, rfl, ⟨_, _, rfl, ⟨zjO zi (fun _ _ => rfl) (hI.at 900 O) (fun b hb => hI.own 900 0 O O b hb), (show OwH _ _ _ _ _ _ _ from hI.at 901 O).sl (by omega) (fun q hq => hI.own 901 0 O O q hq)⟩⟩, hI.k0⟩)
   ·
    have hA : zeQ a f q n o = ⟨a.mode, a.budget, a.spent * n, yK f q.2 o a.left, a.asked⟩ := by unfold zeQ; rw [if_pos (Decidable.not_not.1 b0)]
    rw [hA]
    refine Vs 9 O ?_
    refine zj3 Tryz.results55 tg37 ts37 O O O (fun w hI => ⟨_, rfl, ⟨_, _, rfl, ⟨zjO zi (fun _ _ => rfl) (hI.at 900 O) (fun b hb => hI.own 900 0 O O b hb), (show OwH _ _ _ _ _ _ _ from hI.at 901 O).sl (by omega) (fun q hq => hI.own 901 0 O O q hq)⟩⟩, hI.k0⟩)
end Go.Proofs.YtbkhagigkglgoaaGreatDoor
namespace Go.GL
theorem zm2 {P : Program} {fn : Func} {R : Ending -> World -> Prop} {n : Nat} {env : Env} {A : Tgs} {H : Hp} {Bs : ya} {p s1 s2 q s3 : Tmp} {ty ty2 : TypeId} {k off z k2 off2 z2 : Nat} {cs l cs2 l2 : List Value} {x1 x2 x3 : Value} (h : fn.results = #[.cell p ty, .tmp s1, .tmp s2, .cell q ty2, .tmp s3]) (ht : ∀ w, (isAgg ty).run P w = .ok true w) (hz : ∀ w, (sizeOf ty).run P w = .ok z w) (ht2 : ∀ w, (isAgg ty2).run P w = .ok true w) (hz2 : ∀ w, (sizeOf ty2).run P w = .ok z2 w)
  (hn : (tgt A p, get env s1, get env s2, tgt A q, get env s3) = (some (k, off), some x1, some x2, some (k2, off2), some x3)) (hc : xZ H k = some cs) (hs : zgq z off cs = some l) (hc2 : xZ H k2 = some cs2) (hs2 : zgq z2 off2 cs2 = some l2) (hR : ∀ w, VI Bs H w -> R (.returned (.tuple #[.agg l.toArray, x1, x2, .agg l2.toArray, x3])) w) : V P n (bodyPost P fn R) [] (.e .ret) env A H Bs := fun hA w hw => by
 simp only [Prod.mk.injEq] at hn
 obtain ⟨n1, n2, n3, n4, n5⟩ := hn
 obtain ⟨a, h1, h2⟩ := ko hA hw n1 hc hs ht hz
 obtain ⟨b, h3, h4⟩ := ko hA hw n4 hc2 hs2 ht2 hz2
 intro a' ha
 have g1 := ha.get p _ h1
 have g2 := ha.get s1 _ n2
 have g3 := ha.get s2 _ n3
 have g4 := ha.get q _ h3
 have g5 := ha.get s3 _ n5
 refine bodyPost_ret (v := .tuple #[.agg l.toArray, x1, x2, .agg l2.toArray, x3]) ?_ ha.defs (hR w hw)
 simp [results, h, Array.getD_eq_getD_getElem?, g1, g2, g3, g4, g5, asAddr, h2, h4]
theorem RAc.narrow {D : Nat -> Prop} {w : World} {a : Ac} {v1 v2 : Value} (h : RAc D w a v1 v2) : RAc (fun b => D b /\ b < w.heap.size) w a v1 v2 := ⟨h.left.narrow (by omega) yj, h.asked.narrow (by omega) zc4⟩
theorem VI.hs {Bs : ya} {H : Hp} {w W : World} (hI : VI Bs H w) (hp : (W, fun _ => False) ∈ Bs) {q : Nat} (h : HS H q) : W.heap.size <= q := by
 obtain ⟨x, hx, hq⟩ := h
 exact ((hI.base _ hp).2 x hx q hq).elim False.elim id
end Go.GL
namespace Go.Proofs.YtbkhagigkglgoaaGreatDoor
open Go.GL
def zfs (m b n : Int) : Int := if ¬ (m = 0 \/ m = 1) then 1 else if b < 1 \/ 1048576 < b \/ n < 1 \/ 4096 < n then 3 else 0
def qm (n : Nat) : List Int := (List.range n).map fun i : Nat => (i : Int)
def zft (m b n : Int) : Ac := if zfs m b n = 0 then ⟨m, b, 1, qm n.toNat, []⟩ else ac0
theorem ze2 {n i : Nat} (h : i < n) : (qm n)[i]? = some (i : Int) := by simp [qm, List.getElem?_range h]
theorem ze3 (n : Nat) : (qm n).length = n := by simp [qm]
theorem zhU (m b n : Int) (W : World) : Calls Tryz.prog 14 #[.int .i64 m, .int .i64 b, .int .i64 n] W (Ret fun r w' => (∃ r1 r2, r = .tuple #[.agg #[.int .i64 (zft m b n).mode, .int .i64 (zft m b n).budget, .int .i64 (zft m b n).spent, r1, r2], .int .i64 (zfs m b n)] /\ RAc (fun q => W.heap.size <= q) w' (zft m b n) r1 r2 /\ (zfs m b n ≠ 0 -> r1 = .slice none 0 0 /\ r2 = .slice none 0 0)) /\ Ext W w') := by
 refine zkI Tryz.func14 O Tryz.ntmps14 O (zkS ?_)
 refine Vs 2 O ?_
 refine V.alloc 6 tz37 O O (fun b6 => ?_)
 refine Vs 5 O ?_
 refine zlj (σ := Unit) [0, 1, 2, 6] [6] [6] O (fun e u => (15, .bool (decide (¬ (m = 0 \/ m = 1)))) :: e) (fun e u => e) (fun u => True) (fun _ => rfl) (fun _ => rfl) ?_ ?_
 ·
  refine Vs 4 O ?_
  refine zkt 12 O (fun k1_ => ?_) (fun k1_ => ?_)
  ·
   refine Vs 4 O ?_
   refine ziR (()) (Sub.cons (by first | exact xp (by omega) | exact xq (by omega) | exact xr (by omega)) (zkg O)) (zkh O) (trivial) 0 O O
  ·
   refine Vs 4 O ?_
   refine ziR (()) (Sub.cons (by first | exact xp (by omega) | exact xq (by omega) | exact xr (by omega)) (zkg O)) (zkh O) (trivial) 0 O O
 rintro u _
 refine Vs 1 O ?_
 refine ziB O (fun c1 => ?_) (fun c1 => ?_)
 ·
  have hc : zfs m b n = 1 := if_pos c1
  have ha : zft m b n = ac0 := if_neg (by rw [hc]; decide)
  refine Vs 2 O ?_
  refine zln [Value.int IntKind.i64 0, Value.int IntKind.i64 0, Value.int IntKind.i64 0, Value.slice none 0 0, Value.slice none 0 0] [(0, 1), (1, 1), (2, 1), (3, 1), (4, 1)] [] O O (fun _ => by kernel_rfl) ?_
  refine Vs 6 O ?_
  refine zj6 Tryz.results14 tg37 ts37 O O O O (fun w hI => ⟨_, rfl, ⟨_, _, by rw [hc, ha]; rfl, by rw [ha]; exact ⟨SlR.nil, SlR.nil⟩, fun _ => ⟨rfl, rfl⟩⟩, hI.k0⟩)
 ·
  refine Vs 4 O ?_
  refine zlj (σ := Unit) [0, 1, 2, 6] [6] [6] O (fun e u => (30, .bool (decide (b < 1 \/ 1048576 < b \/ n < 1 \/ 4096 < n))) :: e) (fun e u => e) (fun u => True) (fun _ => rfl) (fun _ => rfl) ?_ ?_
  ·
   refine Vs 4 O ?_
   refine zkt 19 O (fun k1_ => ?_) (fun k1_ => ?_)
   ·
    refine Vs 12 O ?_
    refine ziR (()) (Sub.cons (by first | exact xp (by omega) | exact xq (by omega) | exact xr (by omega)) (zkg O)) (zkh O) (trivial) 0 O O
   ·
    refine Vs 4 O ?_
    refine zkt 23 O (fun k2_ => ?_) (fun k2_ => ?_)
    ·
     refine Vs 8 O ?_
     refine ziR (()) (Sub.cons (by first | exact xp (by omega) | exact xq (by omega) | exact xr (by omega)) (zkg O)) (zkh O) (trivial) 0 O O
    ·
     refine Vs 4 O ?_
     refine zkt 27 O (fun k3_ => ?_) (fun k3_ => ?_)
     ·
      refine Vs 4 O ?_
      refine ziR (()) (Sub.cons (by first | exact xp (by omega) | exact xq (by omega) | exact xr (by omega)) (zkg O)) (zkh O) (trivial) 0 O O
     ·
      refine Vs 4 O ?_
      refine ziR (()) (Sub.cons (by first | exact xp (by omega) | exact xq (by omega) | exact xr (by omega)) (zkg O)) (zkh O) (trivial) 0 O O
  rintro u _
  refine Vs 1 O ?_
  refine ziB O (fun c2 => ?_) (fun c2 => ?_)
  ·
   have hc : zfs m b n = 3 := by unfold zfs; rw [if_neg c1, if_pos c2]
   have ha : zft m b n = ac0 := if_neg (by rw [hc]; decide)
   refine Vs 2 O ?_
   refine zln [Value.int IntKind.i64 0, Value.int IntKind.i64 0, Value.int IntKind.i64 0, Value.slice none 0 0, Value.slice none 0 0] [(0, 1), (1, 1), (2, 1), (3, 1), (4, 1)] [] O O (fun _ => by kernel_rfl) ?_
   refine Vs 6 O ?_
   refine zj6 Tryz.results14 tg37 ts37 O O O O (fun w hI => ⟨_, rfl, ⟨_, _, by rw [hc, ha]; rfl, by rw [ha]; exact ⟨SlR.nil, SlR.nil⟩, fun _ => ⟨rfl, rfl⟩⟩, hI.k0⟩)
  ·
   have hc : zfs m b n = 0 := by unfold zfs; rw [if_neg c1, if_neg c2]
   have ha : zft m b n = ⟨m, b, 1, qm n.toNat, []⟩ := if_pos hc
   obtain ⟨k, rfl⟩ : ∃ k : Nat, n = (k : Int) := ⟨n.toNat, by omega⟩
   rw [Int.toNat_natCast] at ha
   have hrl := ze3 k
   refine Vs 6 O ?_
   refine zln [Value.int IntKind.i64 0, Value.int IntKind.i64 0, Value.int IntKind.i64 0, Value.slice none 0 0, Value.slice none 0 0] [(0, 1), (1, 1), (2, 1), (3, 1), (4, 1)] [(0, _), (1, _), (2, _)] O O (fun _ => by kernel_rfl) ?_
   refine V.alloc 8 tz37 O O (fun b8 => ?_)
   refine Vs 10 O ?_
   refine zl2 900 3 1 O ?_
   refine Vs 1 O ?_
   refine zli (σ := Nat × Value) [6, 8, 35] [6] [6, 8] O (fun e ⟨i, v⟩ => (36, .int .i64 i) :: e) (fun e ⟨i, v⟩ => (8, .own b8 [.int .i64 m, .int .i64 b, .int .i64 1, v, .slice none 0 0] 37) :: (900, .row 3 1 v i (((qm k).take i).map zi)) :: e) (fun ⟨i, v⟩ => i <= k) (fun ⟨i, v⟩ => k - i) ((0, .slice none 0 0)) (zkg O) (zkh O) (fun _ => rfl) (fun _ => rfl) (fun _ => rfl) (Nat.zero_le _) ?_
   rintro ⟨i, v⟩ hi
   show V _ _ _ _ _ ((36, .int .i64 i) :: _) _ ((8, .own b8 [.int .i64 m, .int .i64 b, .int .i64 1, v, .slice none 0 0] 37) :: (900, .row 3 1 v i (((qm k).take i).map zi)) :: _) _
   refine Vs 6 O ?_
   refine ziB O (fun hlt => ?_) (fun hlt => ?_)
   ·
    have zm := ze2 (n := k) (i := i) (by omega)
    refine Vs 14 O ?_
    refine zll 42 [(0, _)] tR31 ts3 tz3 (by decide) O O (by kernel_rfl) (fun b42 => ?_)
    refine V.ap 900 42 tu31 Tryz.el3 O (by decide) O O (by omega) (by omega) (fun u900 => ?_)
    refine Vs 1 O ?_
    refine zl4 900 O (by omega) ?_
    rintro bq cq rfl hcap_900
    refine Va 8 O (by omega) ?_
    refine zlh 900 O (e' := .row 3 1 (.slice (some ⟨bq, 0, none⟩) (i + 1) cq) (i + 1) (((qm k).take (i + 1)).map zi)) (by rw [List.take_add_one, zm, List.map_append]; rfl) ?_
    refine ziM (⟨i + 1, _⟩) (zkg O) (zkh O) (by omega) (by first | omega | (dsimp only; omega)) 0 O O
   ·
    obtain rfl : i = k := by omega
    refine Vs 6 O ?_
    refine zkT (fun w hI => zaN (show w.ownsRow 0 3 1 v _ _ from hI.at 900 O)) ?_
    rintro ⟨av, cv, rfl⟩
    refine zlh 900 O (e' := .row 3 1 (.slice av i cv) (qm i).length ((qm i).map zi)) (by rw [hrl, List.take_of_length_le (by rw [hrl]; exact Nat.le_refl _)]) ?_
    refine Vs 7 O ?_
    refine zj6 Tryz.results14 tg37 ts37 O O O O (fun w hI => ⟨_, rfl, ⟨_, _, by rw [hc, ha], by rw [ha]; exact ⟨zjO zi (fun _ _ => rfl) (by have := hI.at 900 rfl; exact this) (fun b hb => hI.own 900 0 O O b hb), SlR.nil⟩, fun h => absurd hc h⟩, hI.k0⟩)
theorem zgi (x o : Ob) (u ov : Value) (b : Nat) (D D' : Nat -> Prop) (W : World) (hx : SlR 1 zF D W u x.1) (ho : SlR 1 zF D' W ov o.1) (hB : Cells W b 0 [ov, .int .i64 o.2]) :
  Calls Tryz.prog 53 #[.agg #[u, .int .i64 x.2], .pointer (some ⟨b, 0, none⟩)] W (Ret fun r w' => r = .bool (decide (x = o)) /\ Ext W w') := by
 obtain ⟨a1, c1, rfl⟩ := hx.form
 obtain ⟨a2, c2, rfl⟩ := ho.form
 refine zkH Tryz.func53 O Tryz.ntmps53 O (zkS ?_)
 refine zlg 900 0 O O (fun h => h) hB ?_
 refine zkY 1 900 0 O O ?_
 refine Vs 2 O ?_
 refine V.box 2 O O (fun b2 => ?_)
 refine Vs 7 O ?_
 refine zl7 Tryz.call54 O (fun w hI => xy x o _ _ D D' w (Tr1 hI.k0 hx) (Tr1 hI.k0 ho)) ?_
 refine Vs 5 O ?_
 refine ziV Tryz.results53 O (fun w hI => ⟨_, rfl, by rw [decide_eq_decide.2 (cmpOb_iff (x := x) (y := o))], hI.k0⟩)
theorem zgj {ps : List Fl} {i : Int} {f : Fl} (h : zbq ps i = some f) : ∃ k : Nat, i = (k : Int) /\ ps[k]? = some f := by
 unfold zbq at h
 split at h
 . cases h
 . exact ⟨i.toNat, by omega, h⟩
theorem zgk {a : Ac} {ps : List Fl} {q : Qu} {s : Int} (h : yU a ps q ≠ 0) : zc7 a ps q s = zh4 (yU a ps q) := if_pos h
theorem zfe {a : Ac} {ps : List Fl} {q : Qu} {s : Int} (h : yU a ps q = 0) (hs : s ∉ a.left) : zc7 a ps q s = zh4 11 := by unfold zc7; rw [if_neg (not_not_intro h), if_pos hs]
theorem zff {a : Ac} {ps : List Fl} {q : Qu} {s : Int} {f : Fl} (h : yU a ps q = 0) (hs : s ∈ a.left) (hf : zbq ps q.1 = some f) (hn : a.budget.tdiv a.spent < yi a f q) : zc7 a ps q s = zh4 18 := by
 unfold zc7
 rw [if_neg (not_not_intro h), if_neg (not_not_intro hs), hf]
 exact if_pos hn
theorem zgl {a : Ac} {ps : List Fl} {q : Qu} {s : Int} {f : Fl} (h : yU a ps q = 0) (hs : s ∈ a.left) (hf : zbq ps q.1 = some f) (hn : ¬ a.budget.tdiv a.spent < yi a f q) : zc7 a ps q s = zhK a f q s := by
 unfold zc7
 rw [if_neg (not_not_intro h), if_neg (not_not_intro hs), hf]
 exact if_neg hn
theorem zcl (a : Ac) (hA : AcB a) (ps : List Fl) (hz : ∀ f ∈ ps, SzOk f) (q : Qu) (hql : q.2.length <= 17592186044416) (s : Int) (u1 u2 pv qv : Value) (D D1 D2 : Nat -> Prop) (W : World) (ha : RAc D W a u1 u2) (hps : SlR 3 RPg D1 W pv ps) (hq : SlR 1 zF D2 W qv q.2) (ht : Tab W) :
  Calls Tryz.prog 24 #[.agg #[.int .i64 a.mode, .int .i64 a.budget, .int .i64 a.spent, u1, u2], pv, .agg #[.int .i64 q.1, qv], .int .i64 s] W (Ret fun r w' => (∃ r1 r2 ov, r = .tuple #[.agg #[.int .i64 (zc7 a ps q s).ac.mode, .int .i64 (zc7 a ps q s).ac.budget, .int .i64 (zc7 a ps q s).ac.spent, r1, r2], .int .i64 (zc7 a ps q s).answer, .int .i64 (zc7 a ps q s).charge, .agg #[ov, .int .i64 (zc7 a ps q s).ob.2], .int .i64 (zc7 a ps q s).code] /\ RAc (fun b => W.heap.size <= b) w' (zc7 a ps q s).ac r1 r2 /\ SlR 1 zF (fun b => W.heap.size <= b) w' ov (zc7 a ps q s).ob.1) /\ Ext W w') := by
 obtain ⟨qp, pub⟩ := q
 dsimp only at hq hql
 obtain ⟨a1, c1, h1⟩ := ha.left.form
 obtain ⟨a2, c2, h2⟩ := ha.asked.form
 subst h1 h2
 obtain ⟨ap, cp, rfl⟩ := hps.form
 obtain ⟨aq, cq, rfl⟩ := hq.form
 have hmp := hps.max
 refine zkJ Tryz.func24 O Tryz.ntmps24 O (zkS ?_)
 refine Vs 2 O ?_
 refine V.box 4 O O (fun b4 => ?_)
 refine V.box 6 O O (fun b6 => ?_)
 refine V.alloc 8 tz37 O O (fun b8 => ?_)
 refine Vs 2 O ?_
 refine V.alloc 11 tz60 O O (fun b11 => ?_)
 refine Vs 9 O ?_
 refine zl7 Tryz.call45 O (fun w hI => zao a ps hz (qp, pub) _ _ _ _ D D1 D2 w (Tr1 hI.k0 ha) (Tr1 hI.k0 hps) (Tr1 hI.k0 hq)) ?_
 refine Vs 9 O ?_
 refine ziB O (fun e0 => ?_) (fun e0 => ?_)
 ·
  rw [zgk e0]
  refine Vs 2 O ?_
  refine zln [Value.int IntKind.i64 0, Value.int IntKind.i64 0, Value.int IntKind.i64 0, Value.slice none 0 0, Value.slice none 0 0] [(0, 1), (1, 1), (2, 1), (3, 1), (4, 1)] [] O O (fun _ => by kernel_rfl) ?_
  refine zln [Value.slice none 0 0, Value.int IntKind.i64 0] [(0, 1), (1, 1)] [] O O (fun _ => by kernel_rfl) ?_
  refine Vs 10 O ?_
  refine zm2 tr24 tg37 ts37 tg60 ts60 O O O O O (fun w hI => ⟨_, rfl, ⟨_, _, _, rfl, ⟨SlR.nil, SlR.nil⟩, SlR.nil⟩, hI.k0⟩)
 ·
  have e0 := Decidable.not_not.1 e0
  obtain ⟨v0, f', hg, ha0, hr0, hi0⟩ := jW e0
  refine Vs 8 O ?_
  refine zl7 Tryz.call25 O (fun w hI => jY a.left s _ D w (Tr1 hI.k0 ha.left)) ?_
  refine zkx O (fun w hI => zk0 O (by first | exact za | rfl)) ?_
  refine Vs 2 O ?_
  refine ziB O (fun l0 => ?_) (fun l0 => ?_)
  ·
   rw [zfe e0 l0]
   refine Vs 2 O ?_
   refine zln [Value.int IntKind.i64 0, Value.int IntKind.i64 0, Value.int IntKind.i64 0, Value.slice none 0 0, Value.slice none 0 0] [(0, 1), (1, 1), (2, 1), (3, 1), (4, 1)] [] O O (fun _ => by kernel_rfl) ?_
   refine zln [Value.slice none 0 0, Value.int IntKind.i64 0] [(0, 1), (1, 1)] [] O O (fun _ => by kernel_rfl) ?_
   refine Vs 9 O ?_
   refine zm2 tr24 tg37 ts37 tg60 ts60 O O O O O (fun w hI => ⟨_, rfl, ⟨_, _, _, rfl, ⟨SlR.nil, SlR.nil⟩, SlR.nil⟩, hI.k0⟩)
  ·
   have l0 := Decidable.not_not.1 l0
   obtain ⟨k, hk, hgk⟩ := zgj hg
   dsimp only at hk
   subst hk
   have hkl := (List.getElem?_eq_some_iff.1 hgk).1
   refine Vs 7 O ?_
   obtain ⟨f, he_f, hm_f⟩ := gE_ ps (k) (by omega)
   obtain ⟨b_f, o_f, c_f, ha_f, _, hc_f, hR_f⟩ := hps.at he_f
   obtain ⟨v1_f, v2_f, v3_f, rfl, hf_f⟩ := hR_f
   obtain ⟨a1_f, n1_f, rfl⟩ := hf_f.vars.form
   obtain ⟨a2_f, n2_f, rfl⟩ := hf_f.hatches.form
   obtain ⟨a3_f, n3_f, rfl⟩ := hf_f.body.form
   refine zlf 1000 0 O O hc_f ?_
   refine zkZ 1000 tR23 ts56 O ha_f (by omega) (_) (rfl) O ?_
   rw [he_f] at hgk
   have hfe := Option.some.inj hgk
   subst hfe
   have vd := (zam (hz f hm_f) ha0).1
   have b1 := v0.b1
   have b2 := v0.b2
   have s1 := v0.s1
   have s2 := v0.s2
   have hsp := zeW vd
   have hal := zdw f
   refine Vs 1 O ?_
   refine V.alloc 14 tz56 O O (fun b14 => ?_)
   refine Vs 8 O ?_
   refine zl7 Tryz.call46 O (fun w hI => zap a hA.ll f vd ((k : Int), pub) _ _ _ _ _ _ D D1 D2 w (Tr1 hI.k0 ha) (Tr1 hI.k0 hf_f) (Tr1 hI.k0 hq) (Tr1 hI.k0 ht)) ?_
   refine Vs 11 O ?_
   refine zkx O (fun w hI => R.quo O O (by omega) (by omega)) ?_
   refine Vs 3 O ?_
   refine ziB O (fun n0 => ?_) (fun n0 => ?_)
   ·
    rw [zff e0 l0 hg n0]
    refine Vs 2 O ?_
    refine zln [Value.int IntKind.i64 0, Value.int IntKind.i64 0, Value.int IntKind.i64 0, Value.slice none 0 0, Value.slice none 0 0] [(0, 1), (1, 1), (2, 1), (3, 1), (4, 1)] [] O O (fun _ => by kernel_rfl) ?_
    refine zln [Value.slice none 0 0, Value.int IntKind.i64 0] [(0, 1), (1, 1)] [] O O (fun _ => by kernel_rfl) ?_
    refine Vs 9 O ?_
    refine zm2 tr24 tg37 ts37 tg60 ts60 O O O O O (fun w hI => ⟨_, rfl, ⟨_, _, _, rfl, ⟨SlR.nil, SlR.nil⟩, SlR.nil⟩, hI.k0⟩)
   ·
    rw [zgl e0 l0 hg n0]
    have hpp := zc8 (q := ((k : Int), pub)) v0 hi0
    have hsn := zal (b := a.budget) (s := a.spent) (p := yi a f ((k : Int), pub)) (by omega) s1 (by omega)
    have hsn0 : 0 <= a.spent * yi a f ((k : Int), pub) := Int.mul_nonneg (by omega) (by omega)
    refine Vs 8 O ?_
    refine zlw [] (Hn := fun y : Option Addr × Nat × (Nat -> Prop) => [(905, obE (obN f pub s) y)]) [(4, some (4, 0)), (6, some (6, 0)), (8, some (8, 0)), (11, some (11, 0)), (14, some (14, 0)), (27, some (4, 3)), (35, some (6, 0)), (37, some (1000, 0)), (44, some (4, 1)), (46, some (4, 2)), (53, some (6, 1))] Tryz.call49 O (fun _ _ => rfl) (fun _ => rfl) (fun w hI => zha 905 (xR f vd pub s _ _ _ _ D1 D2 w (Tr1 hI.k0 hf_f) (Tr1 hI.k0 hq))) ?_
    rintro _ ⟨ax, cx, G⟩ rfl
    refine V.alloc 16 tz60 O O (fun b16 => ?_)
    refine Vs 4 O ?_
    refine Vw [4, 6, 8, 11, 1000, 14, 16] [] O ?_
    refine Vd [0, 1, 2, 3, 6] 0 (by kernel_rfl) O O O ?_
    refine zla 4 0 Tryz.call52 O (by kernel_rfl) O O (fun w hI => zgB f vd _ _ _ D1 w (Tr1 hI.k0 hf_f)) ?_
    rintro r1 w1 w2 hI1 hk12 hall hlow
    obtain ⟨al, cl, rfl⟩ := hall.form
    refine zla 5 1 Tryz.call51 O (by kernel_rfl) O O (fun w hI => qV f vd pub (zax f) _ _ _ _ _ D1 D2 _ w (by omega) (Tr1 hI.k1 hf_f) (Tr1 hI.k1 hq) (hall.keep zc hI.k0 (fun b hb _ hs => by have := hlow b hs; omega)) (Tr1 hI.k1 ht)) ?_
    rintro r2 w3 w4 hI3 hk34 hobs hlow2
    obtain ⟨ao, co, rfl⟩ := hobs.form
    refine zl8 7 2 Tryz.call50 O (by kernel_rfl) O O (fun w hI => zg5 (fun x => decide (x = obN f pub s)) (zg0 f pub (zax f)) _ _ _ _ w Tryz.call53 (hobs.keep zaj hI.k0 (fun b hb _ hs => by have := hlow2 b hs; omega)) (fun x u w' hE _ hd => zgi x (obN f pub s) u _ b16 _ _ w' hd ((zf0 (hI.at 905 O)).ext zc hE) (hE.cells (Blk.cells (hI.at 16 O)) (fun h => h)))) ?_
    refine Vd [8] 2 (by kernel_rfl) O O O ?_
    refine zjI (by kernel_rfl) ?_
    refine Vs 2 O ?_
    refine Vw [4, 6, 1000, 14, 16] [] O ?_
    refine Vd [0, 1, 2, 3, 4, 6, 7, 8] 0 (by kernel_rfl) O O O ?_
    refine zla 5 0 Tryz.call55 O (by kernel_rfl) O O (fun w hI => ze1 a hA f vd ((k : Int), pub) hql (yi a f ((k : Int), pub)) ⟨hsn0, by omega⟩ (obN f pub s) _ _ _ _ _ _ _ D D1 D2 _ w (Tr1 hI.k2 ha) (Tr1 hI.k2 hf_f) (Tr1 hI.k2 hq) (zf0 (hI.at 905 O))) ?_
    rintro r3 w5 w6 hI5 hk56 ⟨r1, r2, rfl, hac⟩ hlow3
    obtain ⟨al1, cl1, hl1⟩ := hac.left.form
    obtain ⟨al2, cl2, hl2⟩ := hac.asked.form
    subst hl1 hl2
    have e5 : W.heap.size <= w5.heap.size := hI5.k2.size
    refine Ve 9 1 O (by kernel_rfl) O O O ?_
    refine Vd [10, 11] 1 (by kernel_rfl) O O O ?_
    refine Ve 12 1 O (by kernel_rfl) O O O ?_
    refine Vd [13] 1 (by kernel_rfl) O O O ?_
    refine zjI (by kernel_rfl) ?_
    refine Vs 2 O ?_
    refine V.dat 910 0 O O O (hac.left) (fun q hq _ hs => by have := hlow3 q hs; omega) ?_
    refine V.dat 911 0 O O O (hac.asked) (fun q hq _ hs => by have := hlow3 q hs; omega) ?_
    refine zm2 tr24 tg37 ts37 tg60 ts60 O O O O O (fun w hI => ⟨_, rfl, ⟨_, _, _, by rw [zhd]; rfl, ⟨(hI.at 910 O).1.wide zc (fun q hq => by omega), (hI.at 911 O).1.wide xD (fun q hq => by omega)⟩, (zf0 (hI.at 905 O)).wide zc (fun q hq => hI.own 905 3 O O q hq)⟩, hI.k3⟩)
end Go.Proofs.YtbkhagigkglgoaaGreatDoor
namespace Go.GL
structure MI where
 i : Nat
 o : Oper
 d : Nat
 dp : List Nat
 q : Bool
 Φ : (Nat -> Value) -> Value -> Hp -> Prop
abbrev MK := Nat × Nat × List Nat × Bool
def MI.key (x : MI) : MK := (x.i, x.d, x.dp, x.q)
def zfg (x : MK) (J : List MK) : Bool := x.2.2.1.all fun m => J.all fun y => !Nat.beq y.2.1 m
def zgm (i : Nat) (J : List MK) : List MK := J.filter fun y => !Nat.beq y.1 i
def zgD (ops : Array Oper) (l : Array Bool) (x : MK) : Bool := x.2.2.2 && (Region.noSelect ops && Region.free .any ops l x.1 && (Region.ready .any ops l).contains x.1)
def zgn (i : Nat) : List MK -> Option MK
 | [] => none
 | y :: r => cond (Nat.beq y.1 i) (some y) (zgn i r)
def jZ (ops : Array Oper) (L3 : Array Bool) : Nat -> List MK -> Array Bool -> Bool
 | 0, J, l => J.isEmpty && (l == L3)
 | k + 1, J, l => match J.find? (zgD ops l) with
  | some x => zfg x J && jZ ops L3 k (zgm x.1 J) (l.setIfInBounds x.1 true)
  | none => !(Region.ready .any ops l).isEmpty && (Region.ready .any ops l).all fun j => match zgn j J with
   | some x => !x.2.2.2 && zfg x J && jZ ops L3 k (zgm x.1 J) (l.setIfInBounds x.1 true)
   | none => false
theorem zcm {i : Nat} : ∀ {J : List MK} {x : MK}, zgn i J = some x -> x ∈ J /\ x.1 = i
 | [], _, h => by cases h
 | y :: r, x, h => by
  simp only [zgn] at h
  cases hb : Nat.beq y.1 i with
  | true => rw [hb] at h; cases h; exact ⟨zmc .., zmf hb⟩
  | false => rw [hb] at h; obtain ⟨h1, h2⟩ := zcm h; exact ⟨zmb _ h1, h2⟩
structure Dn (w w' : World) (hx : Hp) (lo hi : Nat) : Prop where
 p0 : w.heap.size <= lo
 le : lo <= hi
 p1 : hi <= w'.heap.size
 ok : ∀ z ∈ hx, z.2.holds w' /\ z.2.loc /\ (∀ b, ¬ z.2.fz b) /\ ∀ q, z.2.S q -> lo <= q /\ q < hi
 apart : hx.Pairwise (fun x y => ∀ q, x.2.S q -> ¬ y.2.S q)
theorem Dn.ext {w w' w2 : World} {hx : Hp} {lo hi : Nat} (h : Dn w w' hx lo hi) (hk : Ext w' w2) : Dn w w2 hx lo hi :=
 ⟨h.p0, h.le, zme h.p1 hk.size, fun z hz => by
  obtain ⟨h1, h2, h3, h4⟩ := h.ok z hz
  exact ⟨HE.keep h1 h2 hk (fun _ _ h => h) (fun _ _ h => h), h2, h3, h4⟩, h.apart⟩
theorem zaq {w w' : World} {hx : Hp} (h : Hands [] [] hx w w') : Ext w w' := h.keep.mono fun q _ ⟨x, hx, _⟩ => by cases hx
theorem Dn.of {w a a' : World} {hx : Hp} (hk : Ext w a) (h : Hands [] [] hx a a') : Dn w a' hx a.heap.size a'.heap.size :=
 ⟨hk.size, (zaq h).size, Nat.le_refl _, fun z hz => by
  obtain ⟨h1, h2, h3, h4⟩ := h.ok z hz
  refine ⟨h1, h2, h3, fun q hq => ⟨?_, (h4 q hq).2⟩⟩
  rcases (h4 q hq).1 with ⟨x, hx, _⟩ | h5
  . cases hx
  ·
   exact h5, h.apart⟩
theorem zcn : ∀ H : Hp, yJ [] H = H
 | [] => rfl
 | x :: r => by show x :: yJ [] r = x :: r; rw [zcn r]
theorem zfh {Bs : ya} {H : Hp} {w w' : World} {hn : Nat -> Hp} {lo hi : Nat -> Nat} (hI : VI Bs H w) (hk : Ext w w') (K : List Nat) (hnd : K.Nodup) (hd : ∀ m ∈ K, Dn w w' (hn m) (lo m) (hi m)) (hap : ∀ m ∈ K, ∀ m' ∈ K, m ≠ m' -> hi m <= lo m' \/ hi m' <= lo m) : VI Bs (K.flatMap hn ++ H) w' := by
 have hh : Hands H [] (K.flatMap hn) w w' := by
  refine ⟨hk.mono fun q _ h => h.elim, fun z hz => ?_, ?_⟩
  ·
   obtain ⟨m, hm, hz⟩ := List.mem_flatMap.1 hz
   obtain ⟨h1, h2, h3, h4⟩ := (hd m hm).ok z hz
   exact ⟨h1, h2, h3, fun q hq => ⟨.inr (zme (hd m hm).p0 (h4 q hq).1), Nat.lt_of_lt_of_le (h4 q hq).2 (hd m hm).p1⟩⟩
  ·
   clear hI
   induction K with
   | nil => exact List.Pairwise.nil
   | cons m r ih =>
    rw [List.nodup_cons] at hnd
    rw [List.flatMap_cons]
    refine List.pairwise_append.2 ⟨(hd m (zmc ..)).apart, ih hnd.2 (fun x hx => hd x (zmb _ hx)) (fun x hx y hy => hap x (zmb _ hx) y (zmb _ hy)), fun x hx y hy q hq hq' => ?_⟩
    obtain ⟨m', hm', hy⟩ := List.mem_flatMap.1 hy
    have g1 := ((hd m (zmc ..)).ok x hx).2.2.2 q hq
    have g2 := ((hd m' (zmb _ hm')).ok y hy).2.2.2 q hq'
    rcases hap m (zmc ..) m' (zmb _ hm') (fun e => hnd.1 (e ▸ hm')) with h | h <;> omega
 have := hI.hands hh
 rw [zcn] at this
 exact this
theorem zfi {env : Env} {val : Nat -> Value} : ∀ (D : List Nat) (m : Nat) (v : Value), get (D.map (fun d => (d, val d)) ++ env) m = some v -> (m ∈ D /\ v = val m) \/ get env m = some v
 | [], _, _, h => .inr h
 | d :: r, m, v, h => by
  rw [List.map_cons, List.cons_append] at h
  simp only [GL.get] at h
  cases hb : Nat.beq d m with
  | true =>
   rw [hb] at h
   have e := zmf hb
   subst e
   exact .inl ⟨zmc .., (Option.some.inj h).symm⟩
  | false =>
   rw [hb] at h
   rcases zfi r m v h with ⟨h1, h2⟩ | h1
   . exact .inl ⟨zmb _ h1, h2⟩
   . exact .inr h1
section
variable {P : Program} {n : Nat} {Q : Exit -> Act -> World -> Prop} {ks : List Fr} {env : Env} {A : Tgs} {H Hs : Hp} {Bs B0 : ya} {ops : Array Oper} {L : List Nat} {fuel : Nat} {listed : Array Bool}
abbrev MI.Ds (I : List MI) (x : MI) (val : Nat -> Value) (hn : Nat -> Hp) : Prop := ∀ y ∈ I, y.d ∈ x.dp -> y.Φ val (val y.d) (hn y.d)
theorem zhj {I : List MI} {x : MI} {J : List MI} (_ : (I.map (·.d)).Nodup) (_ : ∀ y ∈ J, y ∈ I) (h : zfg x.key (J.map MI.key) = true) {y : MI} (_ : y ∈ I) (hd : y.d ∈ x.dp) : y ∉ J := by
 intro hyJ
 unfold zfg at h
 rw [List.all_eq_true] at h
 have := h y.d hd
 rw [List.all_eq_true] at this
 have := this y.key (List.mem_map.2 ⟨y, hyJ, rfl⟩)
 simp [MI.key, Nat.beq_refl] at this
theorem zlK (j : Nat) (I : List MI) (L3 : Array Bool) (hI : ∀ x ∈ I, ops[x.i]? = some x.o /\ x.o.guard = none /\ x.o.dst = some x.d /\ Nat.blt x.d n = true /\ get env x.d = none /\ ∀ m ∈ x.dp, m ∈ I.map (·.d))
  (hnd : (I.map (·.d)).Nodup) (hni : (I.map (·.i)).Nodup) (hdp : ∀ x ∈ I, x.dp.Nodup) (hr : jZ ops L3 I.length (I.map MI.key) listed = true) (hB : Bs.drop j = B0) (hu : qs (Hs.map (·.1)) = true)
  (hΦ : ∀ x ∈ I, ∀ val val' v hx, (∀ m ∈ x.dp, val m = val' m) -> x.Φ val v hx -> x.Φ val' v hx)
  (hc : ∀ x ∈ I, x.q = false -> ∀ val hn, x.Ds I val hn -> ∀ w, VI Bs (x.dp.flatMap hn ++ H) w -> Does P x.o (x.dp.map (fun m => (m, val m)) ++ env) w (fun v w' => ∃ hx, x.Φ val v hx /\ Hands [] [] hx w w'))
  (hq : ∀ x ∈ I, x.q = true -> ∀ val hn, x.Ds I val hn -> ∃ v, x.Φ val v [] /\ ∀ w, ye P x.o (x.dp.map (fun m => (m, val m)) ++ env) w v w)
  (h : ∀ val hn, (∀ x ∈ I, x.Φ val (val x.d) (hn x.d)) -> Hs.map (fun y => zm ((I.map (·.d)).flatMap hn ++ H) y.1) = Hs.map (fun y => some y.2) /\ VD P n Q ks ops Hs B0 L fuel L3 (I.map (fun x => (x.d, val x.d)) ++ env) [] ((I.map (·.d)).flatMap hn ++ H) Bs) :
  VD P n Q ks ops Hs B0 L (fuel + I.length) listed env A H Bs := by
 subst hB
 intro hH _ w hw
 have key : ∀ (k : Nat) (J : List MI) (listed : Array Bool) (env' : Env) (w' : World) (val : Nat -> Value) (hn : Nat -> Hp) (lo hi : Nat -> Nat), (∀ x ∈ J, x ∈ I) -> jZ ops L3 k (J.map MI.key) listed = true -> Ext w w' -> Sub env env' ->
   (∀ x ∈ I, x ∉ J -> get env' x.d = some (val x.d) /\ x.Φ val (val x.d) (hn x.d) /\ Dn w w' (hn x.d) (lo x.d) (hi x.d) /\ ∀ m ∈ x.dp, ∀ y ∈ I, y.d = m -> y ∉ J) -> (∀ x ∈ I, x ∉ J -> ∀ y ∈ I, y ∉ J -> x.d ≠ y.d -> hi x.d <= lo y.d \/ hi y.d <= lo x.d) ->
   WD P n ops (QK P Q ks) (VI (Bs.drop j) Hs) L (fuel + k) listed env' w' := by
  intro k
  induction k with
  | zero =>
   intro J listed env' w' val hn lo hi hJ ho hE hsub hdone hap
   rw [jZ, Bool.and_eq_true, List.isEmpty_iff, List.map_eq_nil_iff] at ho
   obtain ⟨rfl, ho⟩ := ho
   have e : listed = L3 := by simpa using ho
   rw [e]
   have hall : ∀ x ∈ I, x ∉ ([] : List MI) := fun x _ => by simp
   obtain ⟨g1, g2⟩ := h val hn fun x hx => (hdone x hx (hall x hx)).2.1
   have hVI : VI Bs ((I.map (·.d)).flatMap hn ++ H) w' := zfh hw hE _ hnd (fun m hm => by
    obtain ⟨x, hx, rfl⟩ := List.mem_map.1 hm
    exact (hdone x hx (hall x hx)).2.2.1) (fun m hm m' hm' hne => by
    obtain ⟨x, hx, rfl⟩ := List.mem_map.1 hm
    obtain ⟨y, hy, rfl⟩ := List.mem_map.1 hm'
    exact hap x hx (hall x hx) y hy (hall y hy) hne)
   refine (g2 (zkh g1) TgOk.nil w' hVI).sub ?_
   intro m v hv
   have hv' : get (I.map (fun x => (x.d, val x.d)) ++ env) m = some v := hv
   rw [show (I.map fun x => (x.d, val x.d)) = (I.map (·.d)).map (fun d => (d, val d)) by rw [List.map_map]; rfl] at hv'
   rcases zfi _ m v hv' with ⟨h1, h2⟩ | h1
   ·
    obtain ⟨x, hx, rfl⟩ := List.mem_map.1 h1
    rw [h2]; exact (hdone x hx (hall x hx)).1
   . exact hsub m v h1
  | succ k ih =>
   intro J listed env' w' val hn lo hi hJ ho hE hsub hdone hap
   have one : ∀ x ∈ J, zfg x.key (J.map MI.key) = true -> jZ ops L3 k (zgm x.i (J.map MI.key)) (listed.setIfInBounds x.i true) = true ->
     (Sub (x.dp.map (fun m => (m, val m)) ++ env) env' /\ x.Ds I val hn /\ VI Bs (x.dp.flatMap hn ++ H) w') /\
     ∀ v w2 hx, x.Φ val v hx -> Hands [] [] hx w' w2 -> WD P n ops (QK P Q ks) (VI (Bs.drop j) Hs) L (fuel + k) (listed.setIfInBounds x.i true) ((x.d, v) :: env') w2 := by
    intro x hx hmd hmo
    have hxI := hJ x hx
    have hdn : ∀ m ∈ x.dp, ∃ y ∈ I, y.d = m /\ y ∉ J := fun m hm => by
     obtain ⟨y, hy, e⟩ := List.mem_map.1 ((hI x hxI).2.2.2.2.2 m hm)
     exact ⟨y, hy, e, zhj hnd hJ hmd hy (by rw [e]; exact hm)⟩
    refine ⟨⟨?_, fun y hy hd => (hdone y hy (zhj hnd hJ hmd hy hd)).2.1, zfh (lo := lo) (hi := hi) hw hE _ (hdp x hxI) (fun m hm => ?_) (fun m hm m' hm' hne => ?_)⟩, ?_⟩
    ·
     intro m v hv
     rcases zfi _ m v hv with ⟨h1, h2⟩ | h1
     ·
      obtain ⟨y, hy, e, hyJ⟩ := hdn m h1
      rw [h2, <- e]; exact (hdone y hy hyJ).1
     . exact hsub m v h1
    ·
     obtain ⟨y, hy, e, hyJ⟩ := hdn m hm
     rw [<- e]; exact (hdone y hy hyJ).2.2.1
    ·
     obtain ⟨y, hy, e, hyJ⟩ := hdn m hm
     obtain ⟨z, hz, e', hzJ⟩ := hdn m' hm'
     rw [<- e, <- e']; exact hap y hy hyJ z hz hzJ (by rw [e, e']; exact hne)
    ·
     intro v w2 hx2 hv hh
     have k2 := zaq hh
     have hne : ∀ y ∈ I, y ∉ J -> y.d ≠ x.d := fun y hy hyJ e => hyJ (by rw [qf hnd hy hxI e]; exact hx)
     have hmem : ∀ z ∈ I, z ∉ J.filter (fun y => !Nat.beq y.i x.i) -> z = x \/ z ∉ J := by
      intro z hz hz2
      by_cases hzJ : z ∈ J
      ·
       left
       cases e : Nat.beq z.i x.i with
       | true => exact qf hni hz hxI (zmf e)
       | false => exact absurd (List.mem_filter.2 ⟨hzJ, by simp [e]⟩) hz2
      . exact .inr hzJ
     have hval : ∀ z ∈ I, (z = x \/ z ∉ J) -> ∀ m ∈ z.dp, val m = (if m = x.d then v else val m) := by
      intro z hz hzc m hm
      by_cases e : m = x.d
      ·
       exfalso
       rcases hzc with rfl | hzJ
       ·
        obtain ⟨y, hy, e', hyJ⟩ := hdn m hm
        exact hne y hy hyJ (e'.trans e)
       . exact (hdone z hz hzJ).2.2.2 m hm x hxI e.symm hx
      . rw [if_neg e]
     refine ih (J.filter (fun y => !Nat.beq y.i x.i)) (listed.setIfInBounds x.i true) ((x.d, v) :: env') w2 (fun m => if m = x.d then v else val m) (fun m => if m = x.d then hx2 else hn m) (fun m => if m = x.d then w'.heap.size else lo m) (fun m => if m = x.d then w2.heap.size else hi m) (fun z hz => hJ z (List.mem_filter.1 hz).1) ?_ (hE.ext k2) ?_ ?_ ?_
     ·
      have := hmo
      unfold zgm at this
      rw [List.filter_map] at this
      exact this
     ·
      intro m u hu2
      simp only [GL.get]
      cases hb : Nat.beq x.d m with
      | true =>
       have e := zmf hb
       rw [<- e, (hI x hxI).2.2.2.2.1] at hu2
       cases hu2
      | false => exact hsub m u hu2
     ·
      intro z hz hz2
      have hzc := hmem z hz hz2
      have hdz : ∀ m ∈ z.dp, ∀ y ∈ I, y.d = m -> y ∉ J.filter (fun y => !Nat.beq y.i x.i) := by
       intro m hm y hy e hyf
       have hyJ := (List.mem_filter.1 hyf).1
       rcases hzc with rfl | hzJ
       . exact zhj hnd hJ hmd hy (by rw [e]; exact hm) hyJ
       . exact (hdone z hz hzJ).2.2.2 m hm y hy e hyJ
      rcases hzc with rfl | hzJ
      ·
       refine ⟨by simp [GL.get, Nat.beq_refl], ?_, ?_, hdz⟩
       ·
        simp only [if_true]
        exact hΦ _ hxI _ _ _ _ (hval _ hxI (.inl O)) hv
       ·
        simp only [if_true]
        exact Dn.of hE hh
      ·
       have hzd := hne z hz hzJ
       simp only [hzd, if_false]
       obtain ⟨g1, g2, g3, g4⟩ := hdone z hz hzJ
       refine ⟨?_, hΦ z hz _ _ _ _ (hval z hz (.inr hzJ)) g2, g3.ext k2, hdz⟩
       simp only [GL.get]
       cases hb : Nat.beq x.d z.d with
       | true => exact absurd (zmf hb).symm hzd
       | false => exact g1
     ·
      intro z hz hz2 y hy hy2 hzy
      rcases hmem z hz hz2 with rfl | hzJ <;> rcases hmem y hy hy2 with rfl | hyJ
      . exact absurd O hzy
      ·
       simp only [hne y hy hyJ, if_false, if_true]
       exact .inr (hdone y hy hyJ).2.2.1.p1
      ·
       simp only [hne z hz hzJ, if_false, if_true]
       exact .inl (hdone z hz hzJ).2.2.1.p1
      ·
       simp only [hne z hz hzJ, hne y hy hyJ, if_false]
       exact hap z hz hzJ y hy hyJ hzy
   have hfind : ∀ y ∈ J.map MI.key, ∃ x ∈ J, x.key = y := fun y hy => by
    obtain ⟨x, hx, e⟩ := List.mem_map.1 hy
    exact ⟨x, hx, e⟩
   rw [jZ] at ho
   split at ho
   ·
    rename_i y hy
    obtain ⟨x, hx, rfl⟩ := hfind y (List.mem_of_find?_eq_some hy)
    have hqx := List.find?_some hy
    unfold zgD at hqx
    rw [Bool.and_eq_true] at hqx
    rw [Bool.and_eq_true] at ho
    obtain ⟨⟨g1, g2, _⟩, g3⟩ := one x hx ho.1 ho.2
    obtain ⟨q1, q2, q3, q4, _⟩ := hI x (hJ x hx)
    obtain ⟨v, hv, hrun⟩ := hq x (hJ x hx) hqx.1 val hn g2
    exact zkK x.i q1 hqx.2 q3 q4 (.inl ⟨fun a _ => by simp [Region.wanted, q2], fun w3 m a ha => hrun w3 m a (ha.sub g1)⟩) (g3 v w' [] hv ⟨Keep.refl _ _, fun z hz => (by cases hz), List.Pairwise.nil⟩)
   ·
    intro a ha
    rw [Bool.and_eq_true, List.all_eq_true] at ho
    refine ⟨fun h0 => (by rw [h0] at ho; simp at ho), fun i hi => ?_⟩
    have h1 := ho.2 i hi
    split at h1
    ·
     rename_i y hy
     obtain ⟨h2, h3⟩ := zcm hy
     obtain ⟨x, hx, rfl⟩ := hfind y h2
     have h3 : x.i = i := h3
     subst h3
     rw [Bool.and_eq_true, Bool.and_eq_true, Bool.not_eq_true'] at h1
     obtain ⟨⟨g1, g2, g4⟩, g3⟩ := one x hx h1.1.2 h1.2
     obtain ⟨q1, q2, q3, q4, _⟩ := hI x (hJ x hx)
     refine zej q1 q2 q3 ha ((hc x (hJ x hx) h1.1.1 val hn g2 w' g4).sub g1) ?_
     rintro v w2 ⟨hx2, hv, hh⟩
     have k2 := zaq hh
     exact ⟨fun _ _ => ((hw.ext (hE.ext k2)).drop j).pick hH hu, g3 v w2 hx2 hv hh _ (ha.put q4)⟩
    . cases h1
 exact key I.length I listed env w (fun _ => undef) (fun _ => []) (fun _ => 0) (fun _ => 0) (fun x hx => hx) hr (Keep.refl _ _) (Sub.refl _) (fun x hx h => absurd hx h) (fun x hx h => absurd hx h)
theorem zm3 (A1 : Tgs) (hA1 : A1.map (fun p => zdA env p.1) = A1.map (fun p => kf H p.2)) (hA2 : A1.all (fun p => (kf H p.2).isSome) = true) (h : VD P n Q ks ops Hs B0 L fuel listed env A1 H Bs) : VD P n Q ks ops Hs B0 L fuel listed env A H Bs := fun hH _ w hI => h hH (zki hA1 hA2) w hI
end
abbrev Ph := (Nat -> Value) -> Value -> Hp -> Prop
abbrev Psi := Nat -> Ph
def psi : List (Nat × Ph) -> Psi
 | [], _ => fun _ _ _ => False
 | (k, f) :: r, m => match Nat.beq k m with
  | true => f
  | false => psi r m
def zar (Ψ : Psi) (val : Nat -> Value) (hn : Nat -> Hp) : List Nat -> Prop
 | [] => True
 | m :: r => Ψ m val (val m) (hn m) /\ zar Ψ val hn r
def zfj (val : Nat -> Value) : List Nat -> Env -> Env
 | [], env => env
 | m :: r, env => (m, val m) :: zfj val r env
def hpD (hn : Nat -> Hp) : List Nat -> Hp -> Hp
 | [], H => H
 | m :: r, H => hn m ++ hpD hn r H
theorem zas (val : Nat -> Value) (env : Env) : ∀ D : List Nat, zfj val D env = D.map (fun m => (m, val m)) ++ env
 | [] => rfl
 | m :: r => by rw [zfj, zas val env r]; rfl
theorem zdx (hn : Nat -> Hp) (H : Hp) : ∀ D : List Nat, hpD hn D H = D.flatMap hn ++ H
 | [] => rfl
 | m :: r => by rw [hpD, zdx hn H r, List.flatMap_cons, List.append_assoc]
theorem dpAll_iff {Ψ : Psi} {val : Nat -> Value} {hn : Nat -> Hp} : ∀ {D : List Nat}, zar Ψ val hn D ↔ ∀ m ∈ D, Ψ m val (val m) (hn m)
 | [] => by simp [zar]
 | m :: r => by simp only [zar, List.forall_mem_cons]; rw [dpAll_iff]
def zaL : List Nat -> Bool
 | [] => true
 | x :: r => r.all (fun y => !Nat.beq x y) && zaL r
theorem jv : ∀ {l : List Nat}, zaL l = true -> l.Nodup
 | [], _ => List.Pairwise.nil
 | x :: r, h => by
  rw [zaL, Bool.and_eq_true, List.all_eq_true] at h
  refine List.nodup_cons.2 ⟨fun hx => ?_, jv h.2⟩
  have := h.1 x hx
  simp [Nat.beq_refl] at this
def zhV (I : List MK) (env : Env) : Bool := zaL (I.map (·.2.1)) && zaL (I.map (·.1)) && I.all fun x => (get env x.2.1).isNone && zaL x.2.2.1 && x.2.2.1.all fun m => (I.map (·.2.1)).any fun y => Nat.beq y m
section
variable {P : Program} {n : Nat} {Q : Exit -> Act -> World -> Prop} {ks : List Fr} {env : Env} {A : Tgs} {H Hs : Hp} {Bs B0 : ya} {ops : Array Oper} {L : List Nat} {fuel : Nat} {listed : Array Bool} {Ψ : Psi}
def MP (P : Program) (n : Nat) (ops : Array Oper) (env : Env) (H : Hp) (Bs : ya) (Ψ : Psi) (x : MK) : Prop := ∃ o, (ops[x.1]? = some o /\ o.guard = none /\ o.dst = some x.2.1 /\ Nat.blt x.2.1 n = true) /\ (∀ val val' v hx, (∀ m ∈ x.2.2.1, val m = val' m) -> Ψ x.2.1 val v hx -> Ψ x.2.1 val' v hx) /\
 (x.2.2.2 = false -> ∀ val hn, zar Ψ val hn x.2.2.1 -> ∀ w, VI Bs (hpD hn x.2.2.1 H) w -> Does P o (zfj val x.2.2.1 env) w (fun v w' => ∃ hx, Ψ x.2.1 val v hx /\ Hands [] [] hx w w')) /\
 (x.2.2.2 = true -> ∀ val hn, zar Ψ val hn x.2.2.1 -> ∃ v, Ψ x.2.1 val v [] /\ ∀ w, ye P o (zfj val x.2.2.1 env) w v w)
def MPs (P : Program) (n : Nat) (ops : Array Oper) (env : Env) (H : Hp) (Bs : ya) (Ψ : Psi) : List MK -> Prop
 | [] => True
 | x :: r => MP P n ops env H Bs Ψ x /\ MPs P n ops env H Bs Ψ r
theorem MPs.all : ∀ {I : List MK}, MPs P n ops env H Bs Ψ I -> ∀ x ∈ I, MP P n ops env H Bs Ψ x
 | y :: r, h, x, hx => by
  rcases List.mem_cons.1 hx with rfl | hx
  . exact h.1
  . exact MPs.all h.2 x hx
theorem zm4 {i d : Nat} {dp : List Nat} {op : Op} {ty : TypeId} {ps : String} {aft : Array Edge} (hi : ops[i]? = some ⟨some d, op, ty, ps, aft, none⟩) (hb : Nat.blt d n = true) (hΦ : ∀ val val' v hx, (∀ m ∈ dp, val m = val' m) -> Ψ d val v hx -> Ψ d val' v hx)
  (hc : ∀ val hn, zar Ψ val hn dp -> ∀ w, VI Bs (hpD hn dp H) w -> Does P ⟨some d, op, ty, ps, aft, none⟩ (zfj val dp env) w (fun v w' => ∃ hx, Ψ d val v hx /\ Hands [] [] hx w w')) : MP P n ops env H Bs Ψ (i, d, dp, false) :=
 ⟨_, ⟨hi, rfl, rfl, hb⟩, hΦ, fun _ => hc, fun h => by cases h⟩
theorem zjC {i d : Nat} {dp : List Nat} {op : Op} {ty : TypeId} {ps : String} {aft : Array Edge} (hi : ops[i]? = some ⟨some d, op, ty, ps, aft, none⟩) (hb : Nat.blt d n = true) (hΦ : ∀ val val' v hx, (∀ m ∈ dp, val m = val' m) -> Ψ d val v hx -> Ψ d val' v hx)
  (hc : ∀ val hn, zar Ψ val hn dp -> ∃ v, Ψ d val v [] /\ ∀ w, ye P ⟨some d, op, ty, ps, aft, none⟩ (zfj val dp env) w v w) : MP P n ops env H Bs Ψ (i, d, dp, true) :=
 ⟨_, ⟨hi, rfl, rfl, hb⟩, hΦ, fun h => Bool.noConfusion h, fun _ => hc⟩
theorem Does.new {o : Oper} {w : World} {f : Nat -> Value} {cs : List Value} {e : TypeId} (K : Nat) (h : yp P o env w (fun u w' => ∃ b, u = f b /\ New w cs e b w')) : Does P o env w (fun v w' => ∃ hx, (∃ b, v = f b /\ hx = [(K, HE.own b cs e)]) /\ Hands [] [] hx w w') := by
 obtain ⟨v, w', hr, b, rfl, h1, h2, h3, h4⟩ := h
 refine .inl ⟨_, w', hr, _, ⟨b, rfl, rfl⟩, h4.mono fun q _ h => h.elim, fun z hz => ?_, List.pairwise_singleton _ _⟩
 rw [List.mem_singleton] at hz
 subst hz
 exact ⟨h3, trivial, fun _ h => h, fun q hq => by have hq : q = b := hq; exact ⟨.inr (by omega), by omega⟩⟩
theorem jI {H : Hp} {f : FuncId} {args : Array Value} {w : World} {α : Type} {Φ : Value -> α -> Prop} {Hn : α -> Hp} (hc : Calls P f args w (Ret fun r w' => ∃ y, Φ r y /\ Hands H [] (Hn y) w w')) : Calls P f args w (Ret fun r w' => ∃ hx, (∃ y, Φ r y /\ hx = Hn y) /\ Hands [] [] hx w w') := by
 refine hc.mono ?_
 rintro _ w' ⟨r, rfl, y, h1, h2⟩
 refine ⟨r, rfl, _, ⟨y, h1, rfl⟩, h2.keep.mono fun q _ ⟨x, _, h, _⟩ => by simp [zd6] at h, fun z hz => ?_, h2.apart⟩
 obtain ⟨g1, g2, g3, g4⟩ := h2.ok z hz
 refine ⟨g1, g2, g3, fun q hq => ⟨.inr ?_, (g4 q hq).2⟩⟩
 rcases (g4 q hq).1 with ⟨x, _, h, _⟩ | h
 . simp [zd6] at h
 . exact h
theorem zm5 (fuel j : Nat) (I : List MK) (Ψ : Psi) (hr : jZ ops (zby (I.map (·.1)) listed) I.length I listed = true) (hs : zhV I env = true) (hB : Bs.drop j = B0) (hu : qs (Hs.map (·.1)) = true) (hM : MPs P n ops env H Bs Ψ I)
  (h : ∀ val hn, zar Ψ val hn (I.map (·.2.1)) -> Hs.map (fun y => zm (hpD hn (I.map (·.2.1)) H) y.1) = Hs.map (fun y => some y.2) /\ VD P n Q ks ops Hs B0 L fuel (zby (I.map (·.1)) listed) (zfj val (I.map (·.2.1)) env) [] (hpD hn (I.map (·.2.1)) H) Bs) :
  VD P n Q ks ops Hs B0 L (fuel + I.length) listed env A H Bs := by
 unfold zhV at hs
 simp only [Bool.and_eq_true, List.all_eq_true, List.any_eq_true, Option.isNone_iff_eq_none] at hs
 obtain ⟨⟨s1, s2⟩, s3⟩ := hs
 let mk : MK -> MI := fun x => ⟨x.1, (ops[x.1]?).getD ⟨none, .nilCheck (.tmp 0), 0, "", #[], none⟩, x.2.1, x.2.2.1, x.2.2.2, Ψ x.2.1⟩
 have e1 : (I.map mk).map (·.d) = I.map (·.2.1) := by rw [List.map_map]; rfl
 have e2 : (I.map mk).map (·.i) = I.map (·.1) := by rw [List.map_map]; rfl
 have e3 : (I.map mk).map MI.key = I := by rw [List.map_map]; exact List.map_id'' (fun x => rfl) I
 have e4 : (I.map mk).length = I.length := List.length_map ..
 have hds : ∀ x ∈ I, ∀ val hn, MI.Ds (I.map mk) (mk x) val hn -> zar Ψ val hn x.2.2.1 := fun x hx val hn hD => dpAll_iff.2 fun m hm => by
  obtain ⟨y, hy, he⟩ := (s3 x hx).2 m hm
  obtain ⟨z, hz, rfl⟩ := List.mem_map.1 hy
  have he := zmf he
  have := hD (mk z) (List.mem_map.2 ⟨z, hz, rfl⟩) (by show z.2.1 ∈ x.2.2.1; rw [he]; exact hm)
  rw [<- he]
  exact this
 rw [<- e4]
 refine zlK j (I.map mk) (zby (I.map (·.1)) listed) ?_ (by rw [e1]; exact jv s1) (by rw [e2]; exact jv s2) ?_ (by rw [e3, e4]; exact hr) hB hu ?_ ?_ ?_ ?_
 ·
  intro y hy
  obtain ⟨x, hx, rfl⟩ := List.mem_map.1 hy
  obtain ⟨o, ⟨h1, h2, h3, h4⟩, _⟩ := hM.all x hx
  have ho : (mk x).o = o := by show (ops[x.1]?).getD _ = o; rw [h1]; rfl
  refine ⟨by rw [ho]; exact h1, by rw [ho]; exact h2, by rw [ho]; exact h3, h4, (s3 x hx).1.1, fun m hm => ?_⟩
  rw [e1]
  obtain ⟨z, hz, he⟩ := (s3 x hx).2 m hm
  rw [<- zmf he]; exact hz
 ·
  intro y hy
  obtain ⟨x, hx, rfl⟩ := List.mem_map.1 hy
  exact jv (s3 x hx).1.2
 ·
  intro y hy
  obtain ⟨x, hx, rfl⟩ := List.mem_map.1 hy
  obtain ⟨o, _, h2, _⟩ := hM.all x hx
  exact h2
 ·
  intro y hy hq val hn hD w hw
  obtain ⟨x, hx, rfl⟩ := List.mem_map.1 hy
  obtain ⟨o, ⟨h1, _⟩, _, h3, _⟩ := hM.all x hx
  have ho : (mk x).o = o := by show (ops[x.1]?).getD _ = o; rw [h1]; rfl
  have := h3 hq val hn (hds x hx val hn hD) w (by rw [zdx]; exact hw)
  rw [zas] at this
  rw [ho]; exact this
 ·
  intro y hy hq val hn hD
  obtain ⟨x, hx, rfl⟩ := List.mem_map.1 hy
  obtain ⟨o, ⟨h1, _⟩, _, _, h4⟩ := hM.all x hx
  have ho : (mk x).o = o := by show (ops[x.1]?).getD _ = o; rw [h1]; rfl
  have := h4 hq val hn (hds x hx val hn hD)
  rw [zas] at this
  rw [ho]; exact this
 ·
  intro val hn hall
  have := h val hn (dpAll_iff.2 fun m hm => by
   obtain ⟨x, hx, rfl⟩ := List.mem_map.1 hm
   exact hall (mk x) (List.mem_map.2 ⟨x, hx, rfl⟩))
  rw [zdx, zas] at this
  rw [e1]
  refine ⟨this.1, ?_⟩
  rw [show (I.map mk).map (fun x => (x.d, val x.d)) = (I.map (·.2.1)).map (fun m => (m, val m)) by rw [List.map_map, List.map_map]; rfl]
  exact this.2
def phA (K : Nat) (cs : List Value) (t : TypeId) : Ph := fun _ v hx => ∃ b, v = .pointer (some ⟨b, 0, none⟩) /\ hx = [(K, .own b cs t)]
def phB (m K : Nat) (cs : List Value) (t : TypeId) : Ph := fun _ v hx => ∃ b, v = .slice (some ⟨b, 0, none⟩) m m /\ hx = [(K, .own b cs t)]
def phM (s : Nat) : Ph := fun val v hx => v = val s /\ hx = []
def phX (s j : Nat) : Ph := fun val v hx => (∃ a, val s = .tuple a /\ a[j]? = some v) /\ hx = []
theorem MP.alloc (K : Nat) {i d : Nat} {e : TypeId} {ty : TypeId} {ps : String} {aft : Array Edge} {z : Value} {cs : List Value} (hi : ops[i]? = some ⟨some d, .alloc e, ty, ps, aft, none⟩) (hb : Nat.blt d n = true) (hz : ∀ w, (zeroValue e).run P w = .ok z w) (hc : z.cells = cs.toArray) (hΨ : Ψ d = phA K cs e) : MP P n ops env H Bs Ψ (i, d, [], false) :=
 zm4 hi hb (fun val val' v hx _ h => by rw [hΨ] at h ⊢; exact h) fun val hn _ w _ => by rw [hΨ]; exact Does.new K (M.alloc hz hc)
theorem zm6 (K : Nat) {i d : Nat} {t e : TypeId} {len kk : Nat} {parts : Array (Nat × Operand)} {ty : TypeId} {ps : String} {aft : Array Edge} {z : Value} {cs : List Value} (vs : List (Nat × Value)) (hi : ops[i]? = some ⟨some d, .buildSlice t len parts, ty, ps, aft, none⟩) (hb : Nat.blt d n = true) (hu : ∀ w, (underlying t).run P w = .ok (.slice e) w) (hs : ∀ w, (sizeOf e).run P w = .ok kk w) (hz : ∀ w, (zeroValue e).run P w = .ok z w)
  (hlen : len * kk ≠ 0 /\ len * kk <= 16777216) (hp : parts.toList.map (fun p => (p.1, ev [] p.2)) = vs.map (fun p => (p.1, some p.2))) (hΨ : Ψ d = phB len K cs e) (hf : Instr.fill (fun i => some (i * kk, kk)) ((Array.range (len * kk)).map (z.cells[· % z.cells.size]!)) vs = some cs.toArray) : MP P n ops env H Bs Ψ (i, d, [], false) :=
 zm4 hi hb (fun val val' v hx _ h => by rw [hΨ] at h ⊢; exact h) fun val hn _ w _ => by
  rw [hΨ]
  have h : Does P ⟨some d, .buildSlice t len parts, ty, ps, aft, none⟩ [] w (fun v w' => ∃ hx, phB len K cs e val v hx /\ Hands [] [] hx w w') := Does.new K (M.buildSlice vs hu hs hz hlen hp hf)
  exact h.sub (fun m v hv => by cases hv)
theorem MP.move (s : Nat) {i d : Nat} {ty : TypeId} {ps : String} {aft : Array Edge} (hi : ops[i]? = some ⟨some d, .move (.tmp s), ty, ps, aft, none⟩) (hb : Nat.blt d n = true) (hΨ : Ψ d = phM s) : MP P n ops env H Bs Ψ (i, d, [s], true) :=
 zjC hi hb (fun val val' v hx hd h => by rw [hΨ] at h ⊢; exact ⟨h.1.trans (hd s (List.mem_singleton_self s)), h.2⟩) fun val hn _ => ⟨val s, by rw [hΨ]; exact ⟨rfl, rfl⟩, fun w => R.move (by show get ((s, val s) :: env) s = _; simp only [GL.get, Nat.beq_refl]; rfl)⟩
theorem MP.ext (s j : Nat) {i d : Nat} {dp : List Nat} {ty : TypeId} {ps : String} {aft : Array Edge} (hi : ops[i]? = some ⟨some d, .extract (.tmp s) j, ty, ps, aft, none⟩) (hb : Nat.blt d n = true) (hΨ : Ψ d = phX s j) (hs : s ∈ dp) (hg : ∀ val, get (zfj val dp env) s = some (val s)) (h : ∀ val hn, zar Ψ val hn dp -> ∃ a c, val s = .tuple a /\ a[j]? = some c) : MP P n ops env H Bs Ψ (i, d, dp, true) :=
 zjC hi hb (fun val val' v hx hd h => by rw [hΨ] at h ⊢; obtain ⟨⟨a, h1, h2⟩, h3⟩ := h; exact ⟨⟨a, by rw [<- hd s hs]; exact h1, h2⟩, h3⟩) fun val hn hD => by
  obtain ⟨a, c, h1, h2⟩ := h val hn hD
  exact ⟨c, by rw [hΨ]; exact ⟨⟨a, h1, h2⟩, rfl⟩, fun w => R.extract (show get (zfj val dp env) s = _ by rw [hg, h1]) h2⟩
theorem exq {v0 v c : Value} {a : Array Value} {j : Nat} (h : ∃ a, v0 = .tuple a /\ a[j]? = some v) (q : v0 = .tuple a) (hc : a[j]? = some c) : v = c := by
 obtain ⟨b, h1, h2⟩ := h
 rw [q] at h1
 cases h1
 rw [h2] at hc
 exact Option.some.inj hc
theorem yk {m : Nat} {v v' : Value} {l l' : List (Nat × Value)} (h : v = v') (h2 : l = l') : (m, v) :: l = (m, v') :: l' := by rw [h, h2]
theorem xX {a b c d : Hp} (h : a = b) (h2 : c = d) : a ++ c = b ++ d := by rw [h, h2]
theorem zm7 {val : Nat -> Value} {hn : Nat -> Hp} {D : List Nat} (A1 : Tgs) (vals : List (Nat × Value)) (Hn : Hp) (he : D.map (fun m => (m, val m)) = vals) (hh : D.flatMap hn = Hn) (h1 : Hs.map (fun y => zm (Hn ++ H) y.1) = Hs.map (fun y => some y.2)) (hA1 : A1.map (fun p => zdA (vals ++ env) p.1) = A1.map (fun p => kf (Hn ++ H) p.2)) (hA2 : A1.all (fun p => (kf (Hn ++ H) p.2).isSome) = true)
  (h : VD P n Q ks ops Hs B0 L fuel listed (vals ++ env) A1 (Hn ++ H) Bs) :
  Hs.map (fun y => zm (hpD hn D H) y.1) = Hs.map (fun y => some y.2) /\ VD P n Q ks ops Hs B0 L fuel listed (zfj val D env) [] (hpD hn D H) Bs := by
 rw [zas, zdx]
 subst he hh
 exact ⟨h1, zm3 A1 hA1 hA2 h⟩
end
end Go.GL
namespace Go.Proofs.YtbkhagigkglgoaaGreatDoor
open Go.GL
def zhk : Tm := .mk 24 0 []
def zhl : Tm := .mk 24 1 []
def zid : Tm := .mk 13 0 [zhk, zhl]
def zhW : St := .mk 1 0 0 0 zid [] [] []
def exF51 : Fl := ⟨[⟨⟨#[120]⟩, 1, 0, 3, 0⟩, ⟨⟨#[103]⟩, 2, 0, 3, 0⟩], [], [zhW]⟩
theorem zhm {D : Nat -> Prop} {w : World} {s : St} {b : Nat} {cs : List Value} {t : TypeId} (hB : Blk w b cs t) (hD : D b) (hl : cs.length = 10) (h : RSt D w s cs) : SlR 10 RSt D w (.slice (some ⟨b, 0, none⟩) 1 1) [s] :=
 zjM hB hD rfl (Nat.le_refl _) (by decide) (fun i x hx => by
  cases i with
  | zero => simp at hx; subst hx; exact ⟨cs, hl, fun j u hu => by simpa using hu, h⟩
  | succ i => simp at hx)
theorem zhn {D : Nat -> Prop} {w : World} {b3 b6 b9 b11 : Nat} {t3 t6 t9 t11 : TypeId} (d3 : D b3) (d6 : D b6) (d9 : D b9) (d11 : D b11) (h3 : Blk w b3 [.string ⟨#[120]⟩, .int .i64 1, .int .i64 0, .int .i64 3, .int .i64 0, .string ⟨#[103]⟩, .int .i64 2, .int .i64 0, .int .i64 3, .int .i64 0] t3) (h6 : Blk w b6 [.int .i64 24, .int .i64 0, .slice none 0 0, .int .i64 24, .int .i64 1, .slice none 0 0] t6)
  (h9 : Blk w b9 [.int .i64 1, .int .i64 0, .int .i64 0, .int .i64 0, .int .i64 13, .int .i64 0, .slice (some ⟨b6, 0, none⟩) 2 2, .slice none 0 0, .slice none 0 0, .slice none 0 0] t9) (h11 : Blk w b11 [.slice (some ⟨b3, 0, none⟩) 2 2, .slice none 0 0, .slice (some ⟨b9, 0, none⟩) 1 1] t11) : SlR 3 RPg D w (.slice (some ⟨b11, 0, none⟩) 1 1) [exF51] := by
 have k6 : SlR 3 RTm D w (.slice (some ⟨b6, 0, none⟩) 2 2) [zhk, zhl] := zjM h6 d6 rfl (Nat.le_refl _) (by decide) fun i x hx => by
  match i, hx with
  | 0, hx => cases hx; exact ⟨[.int .i64 24, .int .i64 0, .slice none 0 0], rfl, fun j u hu => by
    match j, hu with
    | 0, hu => exact hu
    | 1, hu => exact hu
    | 2, hu => exact hu
    | j + 3, hu => simp at hu, RTm.put (t := zhk) SlR.nil⟩
  | 1, hx => cases hx; exact ⟨[.int .i64 24, .int .i64 1, .slice none 0 0], rfl, fun j u hu => by
    match j, hu with
    | 0, hu => exact hu
    | 1, hu => exact hu
    | 2, hu => exact hu
    | j + 3, hu => simp at hu, RTm.put (t := zhl) SlR.nil⟩
  | i + 2, hx => simp at hx
 have k9 := zhm h9 d9 rfl (RSt.put (s := zhW) (v1 := .slice (some ⟨b6, 0, none⟩) 2 2) k6 SlR.nil SlR.nil SlR.nil)
 have k3 : SlR 5 RVr D w (.slice (some ⟨b3, 0, none⟩) 2 2) exF51.vars := zjM h3 d3 rfl (Nat.le_refl _) (by decide) (fun i x hx => by
  match i, hx with
  | 0, hx => cases hx; exact ⟨[.string ⟨#[120]⟩, .int .i64 1, .int .i64 0, .int .i64 3, .int .i64 0], rfl, fun j u hu => by
    match j, hu with
    | 0, hu => exact hu
    | 1, hu => exact hu
    | 2, hu => exact hu
    | 3, hu => exact hu
    | 4, hu => exact hu
    | j + 5, hu => simp at hu, rfl⟩
  | 1, hx => cases hx; exact ⟨[.string ⟨#[103]⟩, .int .i64 2, .int .i64 0, .int .i64 3, .int .i64 0], rfl, fun j u hu => by
    match j, hu with
    | 0, hu => exact hu
    | 1, hu => exact hu
    | 2, hu => exact hu
    | 3, hu => exact hu
    | 4, hu => exact hu
    | j + 5, hu => simp at hu, rfl⟩
  | i + 2, hx => simp [exF51] at hx)
 exact zjM h11 d11 O (Nat.le_refl _) (by decide) (fun i x hx => by
  match i, hx with
  | 0, hx => cases hx; exact ⟨_, rfl, fun j u hu => by
    match j, hu with
    | 0, hu => exact hu
    | 1, hu => exact hu
    | 2, hu => exact hu
    | j + 3, hu => simp at hu, _, _, _, rfl, ⟨k3, SlR.nil, k9⟩⟩
  | i + 1, hx => simp at hx)
theorem qn (W : World) : Calls Tryz.prog 41 #[] W (Ret fun r w' => SlR 3 RPg (fun b => W.heap.size <= b) w' r [exF51] /\ Ext W w') := by
 refine zkF Tryz.func41 O Tryz.ntmps41 (zkS ?_)
 refine Vs 7 O ?_
 refine zln [Value.string { data := #[] }, Value.int IntKind.i64 0, Value.int IntKind.i64 0, Value.int IntKind.i64 0, Value.int IntKind.i64 0] [(0, 1), (1, 1), (2, 1), (3, 1), (4, 1)] [(0, _), (1, _), (3, _)] O O (fun _ => by kernel_rfl) ?_
 refine zln [Value.string { data := #[] }, Value.int IntKind.i64 0, Value.int IntKind.i64 0, Value.int IntKind.i64 0, Value.int IntKind.i64 0] [(0, 1), (1, 1), (2, 1), (3, 1), (4, 1)] [(0, _), (1, _), (3, _)] O O (fun _ => by kernel_rfl) ?_
 refine zll 3 [(0, _), (1, _)] tR52 ts120 tz120 (by decide) O O (by kernel_rfl) (fun b3 => ?_)
 refine zln [Value.int IntKind.i64 0, Value.int IntKind.i64 0, Value.slice none 0 0] [(0, 1), (1, 1), (2, 1)] [(0, _)] O O (fun _ => by kernel_rfl) ?_
 refine zln [Value.int IntKind.i64 0, Value.int IntKind.i64 0, Value.slice none 0 0] [(0, 1), (1, 1), (2, 1)] [(0, _), (1, _)] O O (fun _ => by kernel_rfl) ?_
 refine zll 6 [(0, _), (1, _)] tR130 ts132 tz132 (by decide) O O (by kernel_rfl) (fun b6 => ?_)
 refine zln [Value.int IntKind.i64 0, Value.int IntKind.i64 0, Value.slice none 0 0] [(0, 1), (1, 1), (2, 1)] [(0, _), (2, _)] O O (fun _ => by kernel_rfl) ?_
 refine zln [Value.int IntKind.i64 0, Value.int IntKind.i64 0, Value.int IntKind.i64 0, Value.int IntKind.i64 0, Value.int IntKind.i64 0, Value.int IntKind.i64 0, Value.slice none 0 0, Value.slice none 0 0, Value.slice none 0 0, Value.slice none 0 0] [(0, 1), (1, 1), (2, 1), (3, 1), (4, 3), (7, 1), (8, 1), (9, 1)] [(0, _), (4, _)] O O (fun _ => by kernel_rfl) ?_
 refine zll 9 [(0, _)] tR54 ts134 tz134 (by decide) O O (by kernel_rfl) (fun b9 => ?_)
 refine zln [Value.slice none 0 0, Value.slice none 0 0, Value.slice none 0 0] [(0, 1), (1, 1), (2, 1)] [(0, _), (2, _)] O O (fun _ => by kernel_rfl) ?_
 refine zll 11 [(0, _)] tR23 ts56 tz56 (by decide) O O (by kernel_rfl) (fun b11 => ?_)
 refine Vs 4 O ?_
 refine ziV Tryz.results41 O (fun w hI => ⟨_, rfl, zhn (hI.own 3 0 O O _ O) (hI.own 6 0 O O _ O) (hI.own 9 0 O O _ O) (hI.own 11 0 O O _ O) (hI.at 3 O) (hI.at 6 O) (hI.at 9 O) (hI.at 11 O), hI.k0⟩)
def kA0 : Ac := zft 0 4 4
def kR (a : Ac) (g : Int) : Res := zc7 a [exF51] (0, [g]) 3
def kA1 : Ac := ⟨0, 4, 2, [0, 2, 3], [(0, [1])]⟩
def kA2 : Ac := ⟨0, 4, 4, [0, 3], [(0, [1]), (0, [2])]⟩
theorem zdy : kA0 = ⟨0, 4, 1, [0, 1, 2, 3], []⟩ := by decide +kernel
theorem zie : (kR kA0 1).code = 0 := by decide +kernel
theorem zif : (kR kA0 1).ac = kA1 := by decide +kernel
theorem zig : (kR kA0 1).charge = 2 := by decide +kernel
theorem zih : (kR kA0 1).ob.1 = [0] := by decide +kernel
theorem zii : (kR kA0 1).answer = 0 := by decide +kernel
theorem kr_2 : (kR kA1 2).code = 0 /\ (kR kA1 2).ac = kA2 := by decide +kernel
theorem kr_3 : (kR kA2 0).code = 18 := by decide +kernel
def kR1 : Res := ⟨kA1, 0, 2, ([0], (kR kA0 1).ob.2), 0⟩
def kR2 : Res := ⟨kA2, (kR kA1 2).answer, (kR kA1 2).charge, (kR kA1 2).ob, 0⟩
def kR3 : Res := ⟨(kR kA2 0).ac, (kR kA2 0).answer, (kR kA2 0).charge, (kR kA2 0).ob, 18⟩
theorem zcZ {r : Res} {a : Ac} {x c : Int} {o : Ob} {k : Int} (h1 : r.ac = a) (h2 : r.answer = x) (h3 : r.charge = c) (h4 : r.ob = o) (h5 : r.code = k) : r = ⟨a, x, c, o, k⟩ := by subst h1 h2 h3 h4 h5; rfl
theorem zhX : kR kA0 1 = kR1 := zcZ zif zii zig (Prod.ext zih rfl) zie
theorem zhY : kR kA1 2 = kR2 := zcZ kr_2.2 rfl rfl rfl kr_2.1
theorem zhZ : kR kA2 0 = kR3 := zcZ rfl rfl rfl rfl kr_3
theorem kB0 : AcB kA0 := by rw [zdy]; exact ⟨by decide, by decide, by decide⟩
theorem kB1 : AcB kA1 := ⟨by decide, by decide, by decide⟩
theorem kB2 : AcB kA2 := ⟨by decide, by decide, by decide⟩
theorem kSz : SzOk exF51 := ⟨by decide, by decide⟩
end Go.Proofs.YtbkhagigkglgoaaGreatDoor
namespace Go.GL
section
variable {P : Program} {n : Nat} {Q : Exit -> Act -> World -> Prop} {ks : List Fr} {env : Env} {A : Tgs} {H Hs : Hp} {Bs B0 : ya} {ops : Array Oper} {L : List Nat} {fuel : Nat} {listed : Array Bool}
theorem VD.skip (i j : Nat) {d : Nat} {op : Op} {ty : TypeId} {ps : String} {aft : Array Edge} {g : Option (Nat × Bool)} (hi : ops[i]? = some ⟨some d, op, ty, ps, aft, g⟩) (hr : Region.ready .any ops listed = [i]) (hn : (Nat.blt d n, gd ops env g, qs (Hs.map (·.1))) = (true, some false, true)) (hB : Bs.drop j = B0)
  (h : VD P n Q ks ops Hs B0 L fuel (listed.setIfInBounds i true) ((d, undef) :: env) ((d, none) :: A) H Bs) : VD P n Q ks ops Hs B0 L (fuel + 1) listed env A H Bs := by
 simp only [Prod.mk.injEq] at hn
 subst hB
 refine fun hH hA w hI => WD.skip i hi hr (xz hn.2.1) O hn.1 ((hI.drop j).pick hH hn.2.2) (h hH hA.none w hI)
end
theorem RAc.stable {D D' : Nat -> Prop} {w w' : World} {a : Ac} {v1 v2 : Value} (h : RAc D w a v1 v2) (hD : ∀ b, D b -> D' b) (hk : ∀ b, D b -> b < w.heap.size -> w'.heap[b]? = w.heap[b]?) : RAc D' w' a v1 v2 := ⟨h.left.stable zc hD hk, h.asked.stable xD hD hk⟩
abbrev AcP (F : Nat -> Prop) (a : Ac) (v1 v2 : Value) : HE := .res F (fun w => RAc F w a v1 v2)
abbrev AcD (F : Nat -> Prop) (a : Ac) (v1 v2 : Value) : HE := .dat F (fun w => RAc F w a v1 v2)
theorem AcP.loc {F : Nat -> Prop} {a : Ac} {v1 v2 : Value} : (AcP F a v1 v2).loc := fun _ _ _ hx hk hT => hx.stable (fun _ h => h) (fun b hb hlt => hk.block b hlt (hT b hlt hb))
theorem AcD.loc {F : Nat -> Prop} {a : Ac} {v1 v2 : Value} : (AcD F a v1 v2).loc := fun _ _ _ hx hk hT => hx.stable (fun _ h => h) (fun b hb hlt => hk.block b hlt (hT b hb))
end Go.GL
namespace Go.Proofs.YtbkhagigkglgoaaGreatDoor
open Go.GL
abbrev Y5 := Option Addr × Nat × Option Addr × Nat × (Nat -> Prop)
abbrev acY (F : Nat -> Prop) (a : Ac) (y : Y5) : HE := AcP F a (.slice y.1 a.left.length y.2.1) (.slice y.2.2.1 a.asked.length y.2.2.2.1)
theorem zho {H : Hp} {kk : List Nat} {f : FuncId} {args : Array Value} {A : Ac × Int} {w : World} (k : Nat) (hc : Calls Tryz.prog f args w (Ret fun r w' => (∃ r1 r2, r = .tuple #[.agg #[.int .i64 A.1.mode, .int .i64 A.1.budget, .int .i64 A.1.spent, r1, r2], .int .i64 A.2] /\ RAc (fun b => w.heap.size <= b) w' A.1 r1 r2) /\ Ext w w')) :
  Calls Tryz.prog f args w (Ret fun r w' => ∃ y : Y5, r = .tuple #[.agg #[.int .i64 A.1.mode, .int .i64 A.1.budget, .int .i64 A.1.spent, .slice y.1 A.1.left.length y.2.1, .slice y.2.2.1 A.1.asked.length y.2.2.2.1], .int .i64 A.2] /\ Hands H kk [(k, acY y.2.2.2.2 A.1 y)] w w') := by
 refine hc.mono ?_
 rintro _ w' ⟨_, rfl, ⟨r1, r2, rfl, hd⟩, hk⟩
 obtain ⟨a1, c1, h1⟩ := hd.left.form
 obtain ⟨a2, c2, h2⟩ := hd.asked.form
 subst h1 h2
 refine ⟨_, rfl, (a1, c1, a2, c2, fun b => w.heap.size <= b /\ b < w'.heap.size), rfl, hk.mono fun q _ h => h.elim, fun x hx => ?_, List.pairwise_singleton _ _⟩
 rw [List.mem_singleton] at hx
 subst hx
 exact ⟨hd.narrow, AcP.loc, fun _ h => h, fun q hq => ⟨.inr hq.1, hq.2⟩⟩
theorem AcB.of {a : Ac} (hv : ValidA a) (h1 : a.asked.length <= 100000) (h2 : ∀ p ∈ a.asked, p.2.length <= 17592186044416) : AcB a := ⟨by have := hv.l2; omega, h1, h2⟩
abbrev Y8 := Option Addr × Nat × Option Addr × Nat × Option Addr × Nat × (Nat -> Prop)
abbrev aoY (F : Nat -> Prop) (r : Res) (y : Y8) : HE := .res F (fun w => RAc F w r.ac (.slice y.1 r.ac.left.length y.2.1) (.slice y.2.2.1 r.ac.asked.length y.2.2.2.1) /\ SlR 1 zF F w (.slice y.2.2.2.2.1 r.ob.1.length y.2.2.2.2.2.1) r.ob.1)
abbrev PgP (F : Nat -> Prop) (v : Value) (l : List Fl) : HE := .res F (fun w => SlR 3 RPg F w v l)
theorem PgP.loc {F : Nat -> Prop} {v : Value} {l : List Fl} : (PgP F v l).loc := fun _ _ _ hx hk hT => hx.stable zak (fun _ h => h) (fun b hb hlt => hk.block b hlt (hT b hlt hb))
theorem aoY.loc {F : Nat -> Prop} {r : Res} {y : Y8} : (aoY F r y).loc := fun _ _ _ hx hk hT => ⟨hx.1.stable (fun _ h => h) (fun b hb hlt => hk.block b hlt (hT b hlt hb)), hx.2.stable zc (fun _ h => h) (fun b hb hlt => hk.block b hlt (hT b hlt hb))⟩
theorem zfk {H : Hp} {f : FuncId} {args : Array Value} {l : List Fl} {w : World} (k : Nat) (hc : Calls Tryz.prog f args w (Ret fun r w' => SlR 3 RPg (fun b => w.heap.size <= b) w' r l /\ Ext w w')) :
  Calls Tryz.prog f args w (Ret fun r w' => ∃ y : Option Addr × Nat × (Nat -> Prop), r = .slice y.1 l.length y.2.1 /\ Hands H [] [(k, PgP y.2.2 (.slice y.1 l.length y.2.1) l)] w w') := by
 refine hc.mono ?_
 rintro _ w' ⟨r, rfl, hd, hk⟩
 obtain ⟨ao, co, rfl⟩ := hd.form
 refine ⟨_, rfl, (ao, co, fun b => w.heap.size <= b /\ b < w'.heap.size), rfl, hk.mono fun q _ h => h.elim, fun x hx => ?_, List.pairwise_singleton _ _⟩
 rw [List.mem_singleton] at hx
 subst hx
 exact ⟨hd.narrow (by omega) zc5, PgP.loc, fun _ h => h, fun q hq => ⟨.inr hq.1, hq.2⟩⟩
theorem zgE {H : Hp} {f : FuncId} {args : Array Value} {R : Res} {w : World} (k : Nat) (hc : Calls Tryz.prog f args w (Ret fun r w' => (∃ r1 r2 ov, r = .tuple #[.agg #[.int .i64 R.ac.mode, .int .i64 R.ac.budget, .int .i64 R.ac.spent, r1, r2], .int .i64 R.answer, .int .i64 R.charge, .agg #[ov, .int .i64 R.ob.2], .int .i64 R.code] /\ RAc (fun b => w.heap.size <= b) w' R.ac r1 r2 /\ SlR 1 zF (fun b => w.heap.size <= b) w' ov R.ob.1) /\ Ext w w')) :
  Calls Tryz.prog f args w (Ret fun r w' => ∃ y : Y8, r = .tuple #[.agg #[.int .i64 R.ac.mode, .int .i64 R.ac.budget, .int .i64 R.ac.spent, .slice y.1 R.ac.left.length y.2.1, .slice y.2.2.1 R.ac.asked.length y.2.2.2.1], .int .i64 R.answer, .int .i64 R.charge, .agg #[.slice y.2.2.2.2.1 R.ob.1.length y.2.2.2.2.2.1, .int .i64 R.ob.2], .int .i64 R.code] /\ Hands H [] [(k, aoY y.2.2.2.2.2.2 R y)] w w') := by
 refine hc.mono ?_
 rintro _ w' ⟨_, rfl, ⟨r1, r2, ov, rfl, hd, ho⟩, hk⟩
 obtain ⟨a1, c1, h1⟩ := hd.left.form
 obtain ⟨a2, c2, h2⟩ := hd.asked.form
 obtain ⟨a3, c3, h3⟩ := ho.form
 subst h1 h2 h3
 refine ⟨_, rfl, (a1, c1, a2, c2, a3, c3, fun b => w.heap.size <= b /\ b < w'.heap.size), rfl, hk.mono fun q _ h => h.elim, fun x hx => ?_, List.pairwise_singleton _ _⟩
 rw [List.mem_singleton] at hx
 subst hx
 exact ⟨⟨hd.narrow, ho.narrow (by omega) yj⟩, aoY.loc, fun _ h => h, fun q hq => ⟨.inr hq.1, hq.2⟩⟩
theorem zi0 {H : Hp} {m b n : Int} {A : Ac} {c : Int} {w : World} (k : Nat) (h1 : zft m b n = A) (h2 : zfs m b n = c) :
  Calls Tryz.prog 14 #[.int .i64 m, .int .i64 b, .int .i64 n] w (Ret fun r w' => ∃ y : Y5, r = .tuple #[.agg #[.int .i64 A.mode, .int .i64 A.budget, .int .i64 A.spent, .slice y.1 A.left.length y.2.1, .slice y.2.2.1 A.asked.length y.2.2.2.1], .int .i64 c] /\ Hands H [] [(k, acY y.2.2.2.2 A y)] w w') := by
 subst h1 h2
 refine zho (A := (zft m b n, zfs m b n)) k ((zhU m b n w).mono ?_)
 rintro _ w' ⟨_, rfl, ⟨r1, r2, rfl, hd, _⟩, hk⟩
 exact ⟨_, rfl, ⟨_, _, rfl, hd⟩, hk⟩
theorem zd0 {H : Hp} (k : Nat) (a : Ac) (g : Int) (R : Res) (hg : ([g] : List Int).length <= 17592186044416) (hA : AcB a) {u1 u2 pv qv : Value} {D D1 D2 : Nat -> Prop} {w : World} (ha : RAc D w a u1 u2) (hps : SlR 3 RPg D1 w pv [exF51]) (hq : SlR 1 zF D2 w qv [g]) (ht : Tab w) (hR : kR a g = R) :
  Calls Tryz.prog 24 #[.agg #[.int .i64 a.mode, .int .i64 a.budget, .int .i64 a.spent, u1, u2], pv, .agg #[.int .i64 0, qv], .int .i64 3] w (Ret fun r w' => ∃ y : Y8, r = .tuple #[.agg #[.int .i64 R.ac.mode, .int .i64 R.ac.budget, .int .i64 R.ac.spent, .slice y.1 R.ac.left.length y.2.1, .slice y.2.2.1 R.ac.asked.length y.2.2.2.1], .int .i64 R.answer, .int .i64 R.charge, .agg #[.slice y.2.2.2.2.1 R.ob.1.length y.2.2.2.2.2.1, .int .i64 R.ob.2], .int .i64 R.code] /\ Hands H [] [(k, aoY y.2.2.2.2.2.2 R y)] w w') := by
 subst hR
 exact zgE k (zcl a hA [exF51] (fun f hf => by rw [List.mem_singleton] at hf; rw [hf]; exact kSz) (0, [g]) hg 3 _ _ _ _ D D1 D2 w ha hps hq ht)
theorem ze4 (W : World) (ht : Tab W) : Calls Tryz.prog 12 #[] W (Ret fun r w' => r = .bool true /\ Ext W w') := by
 refine zkF Tryz.func12 O Tryz.ntmps12 (zkS ?_)
 refine Vs 7 O ?_
 refine zlw [] (Hn := fun y : Y5 => [(901, acY y.2.2.2.2 ⟨0, 4, 1, [0, 1, 2, 3], []⟩ y)]) [] Tryz.call14 O (fun _ _ => rfl) (fun _ => rfl) (fun w hI => zi0 (c := 0) 901 zdy (by decide)) ?_
 rintro _ ⟨ax1, cx1, az1, cz1, G1⟩ rfl
 refine Vs 3 O ?_
 refine V.alloc 1 tz37 O O (fun b1 => ?_)
 refine Vs 5 O ?_
 refine Vw [1] [] O ?_
 refine Vd [0] 0 (by kernel_rfl) O O O ?_
 refine zm5 5 0 [(1, 24, [], false), (2, 25, [], false), (3, 26, [25], true), (4, 27, [24, 25, 26], false), (5, 22, [27], true), (6, 28, [27, 22], true), (7, 29, [27, 22], true), (8, 30, [27, 22], true), (9, 31, [27, 22], true), (10, 32, [27, 22], true), (11, 3, [], false), (12, 6, [], false)] (psi [(24, fun _ v hx => ∃ y : Option Addr × Nat × (Nat -> Prop), v = .slice y.1 1 y.2.1 /\ hx = [(921, PgP y.2.2 (.slice y.1 1 y.2.1) [exF51])]), (25, phB 1 25 [.int .i64 1] 3), (26, fun val v hx => v = Value.agg #[Value.int IntKind.i64 0, val 25] /\ hx = []), (27, fun _ v hx => ∃ y : Y8, v = .tuple #[.agg #[.int .i64 0, .int .i64 4, .int .i64 2, .slice y.1 3 y.2.1, .slice y.2.2.1 1 y.2.2.2.1], .int .i64 0, .int .i64 2, .agg #[.slice y.2.2.2.2.1 kR1.ob.1.length y.2.2.2.2.2.1, .int .i64 kR1.ob.2], .int .i64 0] /\ hx = [(902, aoY y.2.2.2.2.2.2 kR1 y)]), (22, phM 27), (28, phX 22 0), (29, phX 22 1), (30, phX 22 2), (31, phX 22 3), (32, phX 22 4), (3, phA 3 [Value.int IntKind.i64 0, Value.int IntKind.i64 0, Value.int IntKind.i64 0, Value.slice none 0 0, Value.slice none 0 0] 37), (6, phA 6 [Value.slice none 0 0, Value.int IntKind.i64 0] 60)]) (by kernel_rfl) (by kernel_rfl) O O ⟨?_, ?_, ?_, ?_, ?_, ?_, ?_, ?_, ?_, ?_, ?_, ?_, True.intro⟩ ?_
 . exact zm4 O O (fun _ _ _ _ _ h => h) (fun val hn _ w hI => Does.call (F.call Tryz.call41 (yg O)) (jI (H := []) (zfk 921 (qn w))))
 . exact zm6 25 [(0, .int .i64 1)] O O tR31 ts3 tz3 (by decide) O O (by kernel_rfl)
 ·
  refine zjC O O (fun val val' v hx hd h => by have h : v = Value.agg #[Value.int IntKind.i64 0, val 25] /\ hx = [] := h; exact (show v = Value.agg #[Value.int IntKind.i64 0, val' 25] /\ hx = [] from ⟨by rw [h.1, hd 25 (by decide)], h.2⟩)) (fun val hn hD => ?_)
  obtain ⟨⟨b25, e25, n25⟩, _⟩ := hD
  exact ⟨.agg #[Value.int IntKind.i64 0, .slice (some ⟨b25, 0, none⟩) 1 1], (⟨by rw [e25], rfl⟩ : Value.agg #[Value.int IntKind.i64 0, .slice (some ⟨b25, 0, none⟩) 1 1] = Value.agg #[Value.int IntKind.i64 0, val 25] /\ ([] : Hp) = []), fun w => R.build [(1, .slice (some ⟨b25, 0, none⟩) 1 1)] (by show [(1, some (val 25))] = _; rw [e25]; rfl) (fun _ => by kernel_rfl)⟩
 ·
  refine zm4 O O (fun _ _ _ _ _ h => h) (fun val hn hD w hI => ?_)
  obtain ⟨⟨⟨aP, cP, GP⟩, e24, n24⟩, ⟨b25, e25, n25⟩, ⟨e26, n26⟩, _⟩ := hD
  have q26 : val 26 = .agg #[Value.int IntKind.i64 0, .slice (some ⟨b25, 0, none⟩) 1 1] := by rw [show val 26 = Value.agg #[Value.int IntKind.i64 0, val 25] from e26, e25]
  have n24 : hn 24 = [(921, PgP GP (.slice aP 1 cP) [exF51])] := n24
  have n25 : hn 25 = [(25, .own b25 [.int .i64 1] 3)] := n25
  have n26 : hn 26 = [] := n26
  simp only [hpD, n24, n25, n26, List.cons_append, List.nil_append] at hI
  refine Does.call (F.call Tryz.call24 (yg O)) ?_
  simp only [e24, q26]
  exact jI (H := []) (zd0 902 ⟨0, 4, 1, [0, 1, 2, 3], []⟩ 1 kR1 (by decide) (zdy ▸ kB0) (show RAc _ _ _ _ _ from hI.at 901 O) (show SlR 3 RPg _ _ _ _ from hI.at 921 O) (zjO (D := fun _ => True) zi (fun _ _ => rfl) (yl (k := 1) (n := 1) (cap := 1) (hI.at 25 O) (Nat.le_refl _) (by decide) O) (fun _ _ => trivial)) (Tr1 hI.k0 ht) (zdy ▸ zhX))
 . exact MP.move 27 O O O
 . exact MP.ext 22 0 O O O (by decide) (fun _ => rfl) (fun val hn h => by obtain ⟨⟨_, e27, _⟩, ⟨e22, _⟩, _⟩ := h; exact ⟨_, _, e22.trans e27, rfl⟩)
 . exact MP.ext 22 1 O O O (by decide) (fun _ => rfl) (fun val hn h => by obtain ⟨⟨_, e27, _⟩, ⟨e22, _⟩, _⟩ := h; exact ⟨_, _, e22.trans e27, rfl⟩)
 . exact MP.ext 22 2 O O O (by decide) (fun _ => rfl) (fun val hn h => by obtain ⟨⟨_, e27, _⟩, ⟨e22, _⟩, _⟩ := h; exact ⟨_, _, e22.trans e27, rfl⟩)
 . exact MP.ext 22 3 O O O (by decide) (fun _ => rfl) (fun val hn h => by obtain ⟨⟨_, e27, _⟩, ⟨e22, _⟩, _⟩ := h; exact ⟨_, _, e22.trans e27, rfl⟩)
 . exact MP.ext 22 4 O O O (by decide) (fun _ => rfl) (fun val hn h => by obtain ⟨⟨_, e27, _⟩, ⟨e22, _⟩, _⟩ := h; exact ⟨_, _, e22.trans e27, rfl⟩)
 . exact MP.alloc 3 O O tz37 O O
 . exact MP.alloc 6 O O tz60 O O
 rintro val hn ⟨⟨⟨aP, cP, GP⟩, e24, n24⟩, ⟨b25, e25, n25⟩, ⟨e26, n26⟩, ⟨⟨ax27, cx27, az27, cz27, ao27, co27, GA27⟩, e27, n27⟩, ⟨e22, n22⟩, ⟨e28, n28⟩, ⟨e29, n29⟩, ⟨e30, n30⟩, ⟨e31, n31⟩, ⟨e32, n32⟩, ⟨b3, e3, n3⟩, ⟨b6, e6, n6⟩, _⟩
 have q26 : val 26 = .agg #[Value.int IntKind.i64 0, .slice (some ⟨b25, 0, none⟩) 1 1] := by rw [show val 26 = Value.agg #[Value.int IntKind.i64 0, val 25] from e26, e25]
 have q22 := e22.trans e27
 have q28 := exq e28 q22 rfl
 have q29 := exq e29 q22 rfl
 have q30 := exq e30 q22 rfl
 have q31 := exq e31 q22 rfl
 have q32 := exq e32 q22 rfl
 refine zm7 [(1, some (1, 0)), (3, some (3, 0)), (6, some (6, 0))] _ _ (yk e24 (yk e25 (yk q26 (yk e27 (yk q22 (yk q28 (yk q29 (yk q30 (yk q31 (yk q32 (yk e3 (yk e6 (rfl))))))))))))) (xX n24 (xX n25 (xX n26 (xX n27 (xX n22 (xX n28 (xX n29 (xX n30 (xX n31 (xX n32 (xX n3 (xX n6 (rfl))))))))))))) O O O ?_
 clear n24 n25 q26 n26 n27 q22 n22 q28 n28 q29 n29 q30 n30 q31 n31 q32 n32 n3 n6
 refine Ve 13 0 O (by kernel_rfl) O O O ?_
 refine Vd [14, 15] 0 (by kernel_rfl) O O O ?_
 refine Ve 16 0 O (by kernel_rfl) O O O ?_
 refine Vd [17] 0 (by kernel_rfl) O O O ?_
 refine zjI (by kernel_rfl) ?_
 refine Vs 2 O ?_
 refine Vw [1, 25, 3, 6] [] O ?_
 refine Vd [0] 0 (by kernel_rfl) O O O ?_
 refine zm5 5 0 [(1, 35, [], false), (2, 36, [], false), (3, 37, [36], true), (4, 38, [35, 36, 37], false), (5, 33, [38], true), (6, 39, [38, 33], true), (7, 40, [38, 33], true), (8, 41, [38, 33], true), (9, 42, [38, 33], true), (10, 43, [38, 33], true), (11, 8, [], false), (12, 11, [], false)] (psi [(35, fun _ v hx => ∃ y : Option Addr × Nat × (Nat -> Prop), v = .slice y.1 1 y.2.1 /\ hx = [(922, PgP y.2.2 (.slice y.1 1 y.2.1) [exF51])]), (36, phB 1 36 [.int .i64 2] 3), (37, fun val v hx => v = Value.agg #[Value.int IntKind.i64 0, val 36] /\ hx = []), (38, fun _ v hx => ∃ y : Y8, v = .tuple #[.agg #[.int .i64 0, .int .i64 4, .int .i64 4, .slice y.1 2 y.2.1, .slice y.2.2.1 2 y.2.2.2.1], .int .i64 kR2.answer, .int .i64 kR2.charge, .agg #[.slice y.2.2.2.2.1 kR2.ob.1.length y.2.2.2.2.2.1, .int .i64 kR2.ob.2], .int .i64 0] /\ hx = [(903, aoY y.2.2.2.2.2.2 kR2 y)]), (33, phM 38), (39, phX 33 0), (40, phX 33 1), (41, phX 33 2), (42, phX 33 3), (43, phX 33 4), (8, phA 8 [Value.int IntKind.i64 0, Value.int IntKind.i64 0, Value.int IntKind.i64 0, Value.slice none 0 0, Value.slice none 0 0] 37), (11, phA 11 [Value.slice none 0 0, Value.int IntKind.i64 0] 60)]) (by kernel_rfl) (by kernel_rfl) O O ⟨?_, ?_, ?_, ?_, ?_, ?_, ?_, ?_, ?_, ?_, ?_, ?_, True.intro⟩ ?_
 . exact zm4 O O (fun _ _ _ _ _ h => h) (fun val hn _ w hI => Does.call (F.call Tryz.call41 (yg O)) (jI (H := []) (zfk 922 (qn w))))
 . exact zm6 36 [(0, .int .i64 2)] O O tR31 ts3 tz3 (by decide) O O (by kernel_rfl)
 ·
  refine zjC O O (fun val val' v hx hd h => by have h : v = Value.agg #[Value.int IntKind.i64 0, val 36] /\ hx = [] := h; exact (show v = Value.agg #[Value.int IntKind.i64 0, val' 36] /\ hx = [] from ⟨by rw [h.1, hd 36 (by decide)], h.2⟩)) (fun val hn hD => ?_)
  obtain ⟨⟨b36, e36, n36⟩, _⟩ := hD
  exact ⟨.agg #[Value.int IntKind.i64 0, .slice (some ⟨b36, 0, none⟩) 1 1], (⟨by rw [e36], rfl⟩ : Value.agg #[Value.int IntKind.i64 0, .slice (some ⟨b36, 0, none⟩) 1 1] = Value.agg #[Value.int IntKind.i64 0, val 36] /\ ([] : Hp) = []), fun w => R.build [(1, .slice (some ⟨b36, 0, none⟩) 1 1)] (by show [(1, some (val 36))] = _; rw [e36]; rfl) (fun _ => by kernel_rfl)⟩
 ·
  refine zm4 O O (fun _ _ _ _ _ h => h) (fun val hn hD w hI => ?_)
  obtain ⟨⟨⟨aP, cP, GP⟩, e35, n35⟩, ⟨b36, e36, n36⟩, ⟨e37, n37⟩, _⟩ := hD
  have q37 : val 37 = .agg #[Value.int IntKind.i64 0, .slice (some ⟨b36, 0, none⟩) 1 1] := by rw [show val 37 = Value.agg #[Value.int IntKind.i64 0, val 36] from e37, e36]
  have n35 : hn 35 = [(922, PgP GP (.slice aP 1 cP) [exF51])] := n35
  have n36 : hn 36 = [(36, .own b36 [.int .i64 2] 3)] := n36
  have n37 : hn 37 = [] := n37
  simp only [hpD, n35, n36, n37, List.cons_append, List.nil_append] at hI
  refine Does.call (F.call Tryz.call24 (yg O)) ?_
  simp only [e35, q37]
  exact jI (H := []) (zd0 903 kA1 2 kR2 (by decide) kB1 (show RAc _ _ kA1 _ _ from (hI.at 902 O).1) (show SlR 3 RPg _ _ _ _ from hI.at 922 O) (zjO (D := fun _ => True) zi (fun _ _ => rfl) (yl (k := 1) (n := 1) (cap := 1) (hI.at 36 O) (Nat.le_refl _) (by decide) O) (fun _ _ => trivial)) (Tr1 hI.k0 ht) zhY)
 . exact MP.move 38 O O O
 . exact MP.ext 33 0 O O O (by decide) (fun _ => rfl) (fun val hn h => by obtain ⟨⟨_, e38, _⟩, ⟨e33, _⟩, _⟩ := h; exact ⟨_, _, e33.trans e38, rfl⟩)
 . exact MP.ext 33 1 O O O (by decide) (fun _ => rfl) (fun val hn h => by obtain ⟨⟨_, e38, _⟩, ⟨e33, _⟩, _⟩ := h; exact ⟨_, _, e33.trans e38, rfl⟩)
 . exact MP.ext 33 2 O O O (by decide) (fun _ => rfl) (fun val hn h => by obtain ⟨⟨_, e38, _⟩, ⟨e33, _⟩, _⟩ := h; exact ⟨_, _, e33.trans e38, rfl⟩)
 . exact MP.ext 33 3 O O O (by decide) (fun _ => rfl) (fun val hn h => by obtain ⟨⟨_, e38, _⟩, ⟨e33, _⟩, _⟩ := h; exact ⟨_, _, e33.trans e38, rfl⟩)
 . exact MP.ext 33 4 O O O (by decide) (fun _ => rfl) (fun val hn h => by obtain ⟨⟨_, e38, _⟩, ⟨e33, _⟩, _⟩ := h; exact ⟨_, _, e33.trans e38, rfl⟩)
 . exact MP.alloc 8 O O tz37 O O
 . exact MP.alloc 11 O O tz60 O O
 rintro val hn ⟨⟨⟨aP, cP, GP⟩, e35, n35⟩, ⟨b36, e36, n36⟩, ⟨e37, n37⟩, ⟨⟨ax38, cx38, az38, cz38, ao38, co38, GA38⟩, e38, n38⟩, ⟨e33, n33⟩, ⟨e39, n39⟩, ⟨e40, n40⟩, ⟨e41, n41⟩, ⟨e42, n42⟩, ⟨e43, n43⟩, ⟨b8, e8, n8⟩, ⟨b11, e11, n11⟩, _⟩
 have q37 : val 37 = .agg #[Value.int IntKind.i64 0, .slice (some ⟨b36, 0, none⟩) 1 1] := by rw [show val 37 = Value.agg #[Value.int IntKind.i64 0, val 36] from e37, e36]
 have q33 := e33.trans e38
 have q39 := exq e39 q33 rfl
 have q40 := exq e40 q33 rfl
 have q41 := exq e41 q33 rfl
 have q42 := exq e42 q33 rfl
 have q43 := exq e43 q33 rfl
 refine zm7 [(1, some (1, 0)), (3, some (3, 0)), (6, some (6, 0)), (8, some (8, 0)), (11, some (11, 0))] _ _ (yk e35 (yk e36 (yk q37 (yk e38 (yk q33 (yk q39 (yk q40 (yk q41 (yk q42 (yk q43 (yk e8 (yk e11 (rfl))))))))))))) (xX n35 (xX n36 (xX n37 (xX n38 (xX n33 (xX n39 (xX n40 (xX n41 (xX n42 (xX n43 (xX n8 (xX n11 (rfl))))))))))))) O O O ?_
 clear n35 n36 q37 n37 n38 q33 n33 q39 n39 q40 n40 q41 n41 q42 n42 q43 n43 n8 n11
 refine Ve 13 0 O (by kernel_rfl) O O O ?_
 refine Vd [14, 15] 0 (by kernel_rfl) O O O ?_
 refine Ve 16 0 O (by kernel_rfl) O O O ?_
 refine Vd [17] 0 (by kernel_rfl) O O O ?_
 refine zjI (by kernel_rfl) ?_
 refine Vs 2 O ?_
 refine Vw [1, 25, 3, 6, 36, 8, 11] [] O ?_
 refine Vd [0] 0 (by kernel_rfl) O O O ?_
 refine zm5 5 0 [(1, 46, [], false), (2, 47, [], false), (3, 48, [47], true), (4, 49, [46, 47, 48], false), (5, 44, [49], true), (6, 50, [49, 44], true), (7, 51, [49, 44], true), (8, 52, [49, 44], true), (9, 53, [49, 44], true), (10, 54, [49, 44], true), (11, 13, [], false), (12, 16, [], false)] (psi [(46, fun _ v hx => ∃ y : Option Addr × Nat × (Nat -> Prop), v = .slice y.1 1 y.2.1 /\ hx = [(923, PgP y.2.2 (.slice y.1 1 y.2.1) [exF51])]), (47, phB 1 47 [.int .i64 0] 3), (48, fun val v hx => v = Value.agg #[Value.int IntKind.i64 0, val 47] /\ hx = []), (49, fun _ v hx => ∃ y : Y8, v = .tuple #[.agg #[.int .i64 kR3.ac.mode, .int .i64 kR3.ac.budget, .int .i64 kR3.ac.spent, .slice y.1 kR3.ac.left.length y.2.1, .slice y.2.2.1 kR3.ac.asked.length y.2.2.2.1], .int .i64 kR3.answer, .int .i64 kR3.charge, .agg #[.slice y.2.2.2.2.1 kR3.ob.1.length y.2.2.2.2.2.1, .int .i64 kR3.ob.2], .int .i64 18] /\ hx = [(904, aoY y.2.2.2.2.2.2 kR3 y)]), (44, phM 49), (50, phX 44 0), (51, phX 44 1), (52, phX 44 2), (53, phX 44 3), (54, phX 44 4), (13, phA 13 [Value.int IntKind.i64 0, Value.int IntKind.i64 0, Value.int IntKind.i64 0, Value.slice none 0 0, Value.slice none 0 0] 37), (16, phA 16 [Value.slice none 0 0, Value.int IntKind.i64 0] 60)]) (by kernel_rfl) (by kernel_rfl) O O ⟨?_, ?_, ?_, ?_, ?_, ?_, ?_, ?_, ?_, ?_, ?_, ?_, True.intro⟩ ?_
 . exact zm4 O O (fun _ _ _ _ _ h => h) (fun val hn _ w hI => Does.call (F.call Tryz.call41 (yg O)) (jI (H := []) (zfk 923 (qn w))))
 . exact zm6 47 [(0, .int .i64 0)] O O tR31 ts3 tz3 (by decide) O O (by kernel_rfl)
 ·
  refine zjC O O (fun val val' v hx hd h => by have h : v = Value.agg #[Value.int IntKind.i64 0, val 47] /\ hx = [] := h; exact (show v = Value.agg #[Value.int IntKind.i64 0, val' 47] /\ hx = [] from ⟨by rw [h.1, hd 47 (by decide)], h.2⟩)) (fun val hn hD => ?_)
  obtain ⟨⟨b47, e47, n47⟩, _⟩ := hD
  exact ⟨.agg #[Value.int IntKind.i64 0, .slice (some ⟨b47, 0, none⟩) 1 1], (⟨by rw [e47], rfl⟩ : Value.agg #[Value.int IntKind.i64 0, .slice (some ⟨b47, 0, none⟩) 1 1] = Value.agg #[Value.int IntKind.i64 0, val 47] /\ ([] : Hp) = []), fun w => R.build [(1, .slice (some ⟨b47, 0, none⟩) 1 1)] (by show [(1, some (val 47))] = _; rw [e47]; rfl) (fun _ => by kernel_rfl)⟩
 ·
  refine zm4 O O (fun _ _ _ _ _ h => h) (fun val hn hD w hI => ?_)
  obtain ⟨⟨⟨aP, cP, GP⟩, e46, n46⟩, ⟨b47, e47, n47⟩, ⟨e48, n48⟩, _⟩ := hD
  have q48 : val 48 = .agg #[Value.int IntKind.i64 0, .slice (some ⟨b47, 0, none⟩) 1 1] := by rw [show val 48 = Value.agg #[Value.int IntKind.i64 0, val 47] from e48, e47]
  have n46 : hn 46 = [(923, PgP GP (.slice aP 1 cP) [exF51])] := n46
  have n47 : hn 47 = [(47, .own b47 [.int .i64 0] 3)] := n47
  have n48 : hn 48 = [] := n48
  simp only [hpD, n46, n47, n48, List.cons_append, List.nil_append] at hI
  refine Does.call (F.call Tryz.call24 (yg O)) ?_
  simp only [e46, q48]
  exact jI (H := []) (zd0 904 kA2 0 kR3 (by decide) kB2 (show RAc _ _ kA2 _ _ from (hI.at 903 O).1) (show SlR 3 RPg _ _ _ _ from hI.at 923 O) (zjO (D := fun _ => True) zi (fun _ _ => rfl) (yl (k := 1) (n := 1) (cap := 1) (hI.at 47 O) (Nat.le_refl _) (by decide) O) (fun _ _ => trivial)) (Tr1 hI.k0 ht) zhZ)
 . exact MP.move 49 O O O
 . exact MP.ext 44 0 O O O (by decide) (fun _ => rfl) (fun val hn h => by obtain ⟨⟨_, e49, _⟩, ⟨e44, _⟩, _⟩ := h; exact ⟨_, _, e44.trans e49, rfl⟩)
 . exact MP.ext 44 1 O O O (by decide) (fun _ => rfl) (fun val hn h => by obtain ⟨⟨_, e49, _⟩, ⟨e44, _⟩, _⟩ := h; exact ⟨_, _, e44.trans e49, rfl⟩)
 . exact MP.ext 44 2 O O O (by decide) (fun _ => rfl) (fun val hn h => by obtain ⟨⟨_, e49, _⟩, ⟨e44, _⟩, _⟩ := h; exact ⟨_, _, e44.trans e49, rfl⟩)
 . exact MP.ext 44 3 O O O (by decide) (fun _ => rfl) (fun val hn h => by obtain ⟨⟨_, e49, _⟩, ⟨e44, _⟩, _⟩ := h; exact ⟨_, _, e44.trans e49, rfl⟩)
 . exact MP.ext 44 4 O O O (by decide) (fun _ => rfl) (fun val hn h => by obtain ⟨⟨_, e49, _⟩, ⟨e44, _⟩, _⟩ := h; exact ⟨_, _, e44.trans e49, rfl⟩)
 . exact MP.alloc 13 O O tz37 O O
 . exact MP.alloc 16 O O tz60 O O
 rintro val hn ⟨⟨⟨aP, cP, GP⟩, e46, n46⟩, ⟨b47, e47, n47⟩, ⟨e48, n48⟩, ⟨⟨ax49, cx49, az49, cz49, ao49, co49, GA49⟩, e49, n49⟩, ⟨e44, n44⟩, ⟨e50, n50⟩, ⟨e51, n51⟩, ⟨e52, n52⟩, ⟨e53, n53⟩, ⟨e54, n54⟩, ⟨b13, e13, n13⟩, ⟨b16, e16, n16⟩, _⟩
 have q48 : val 48 = .agg #[Value.int IntKind.i64 0, .slice (some ⟨b47, 0, none⟩) 1 1] := by rw [show val 48 = Value.agg #[Value.int IntKind.i64 0, val 47] from e48, e47]
 have q44 := e44.trans e49
 have q50 := exq e50 q44 rfl
 have q51 := exq e51 q44 rfl
 have q52 := exq e52 q44 rfl
 have q53 := exq e53 q44 rfl
 have q54 := exq e54 q44 rfl
 refine zm7 [(1, some (1, 0)), (3, some (3, 0)), (6, some (6, 0)), (8, some (8, 0)), (11, some (11, 0)), (13, some (13, 0)), (16, some (16, 0))] _ _ (yk e46 (yk e47 (yk q48 (yk e49 (yk q44 (yk q50 (yk q51 (yk q52 (yk q53 (yk q54 (yk e13 (yk e16 (rfl))))))))))))) (xX n46 (xX n47 (xX n48 (xX n49 (xX n44 (xX n50 (xX n51 (xX n52 (xX n53 (xX n54 (xX n13 (xX n16 (rfl))))))))))))) O O O ?_
 clear n46 n47 q48 n48 n49 q44 n44 q50 n50 q51 n51 q52 n52 q53 n53 q54 n54 n13 n16
 refine Ve 13 0 O (by kernel_rfl) O O O ?_
 refine Vd [14, 15] 0 (by kernel_rfl) O O O ?_
 refine Ve 16 0 O (by kernel_rfl) O O O ?_
 refine Vd [17] 0 (by kernel_rfl) O O O ?_
 refine zjI (by kernel_rfl) ?_
 refine Vs 6 O ?_
 refine zkt 57 O (fun k0 => ?_) (fun k0 => ?_)
 ·
  refine Vs 4 O ?_
  refine zkt 61 O (fun k1 => ?_) (fun k1 => ?_)
  ·
   refine Vs 4 O ?_
   refine zkt 65 O (fun k2 => ?_) (fun k2 => ?_)
   ·
    refine Vs 4 O ?_
    refine zkt 69 O (fun k3 => ?_) (fun k3 => ?_)
    ·
     refine Vs 5 O ?_
     refine zkt 74 O (fun k4 => ?_) (fun k4 => ?_)
     ·
      refine Vs 2 O ?_
      refine zll 77 [(0, _), (1, _), (2, _)] tR31 ts3 tz3 (by decide) O O (by kernel_rfl) (fun b77 => ?_)
      refine zl7 tc18 O (fun w hI => qz [0, 2, 3] [0, 2, 3] _ _ _ _ w (hI.at 902 O).1.left (zjO (D := fun _ => True) zi (fun _ _ => rfl) (yl (k := 1) (n := 3) (cap := 3) (hI.at 77 O) (Nat.le_refl _) (by decide) O) (fun _ _ => trivial))) ?_
      refine Vs 2 O ?_
      refine zkt 80 O (fun k5 => ?_) (fun k5 => ?_)
      ·
       refine Vs 4 O ?_
       refine zkt 84 O (fun k6 => ?_) (fun k6 => ?_)
       ·
        refine Vs 4 O ?_
        refine zkt 88 O (fun k7 => ?_) (fun k7 => ?_)
        ·
         refine Vs 2 O ?_
         refine zll 91 [(0, _)] tR31 ts3 tz3 (by decide) O O (by kernel_rfl) (fun b91 => ?_)
         refine zl7 tc18 O (fun w hI => qz [0] [0] _ _ _ _ w (hI.at 902 O).2 (zjO (D := fun _ => True) zi (fun _ _ => rfl) (yl (k := 1) (n := 1) (cap := 1) (hI.at 91 O) (Nat.le_refl _) (by decide) O) (fun _ _ => trivial))) ?_
         refine Vs 2 O ?_
         refine zkt 94 O (fun k8 => ?_) (fun k8 => ?_)
         ·
          refine Vs 5 O ?_
          refine zkt 99 O (fun k9 => ?_) (fun k9 => ?_)
          ·
           refine Vs 2 O ?_
           refine zll 102 [(0, _), (1, _)] tR31 ts3 tz3 (by decide) O O (by kernel_rfl) (fun b102 => ?_)
           refine zl7 tc18 O (fun w hI => qz [0, 3] [0, 3] _ _ _ _ w (hI.at 903 O).1.left (zjO (D := fun _ => True) zi (fun _ _ => rfl) (yl (k := 1) (n := 2) (cap := 2) (hI.at 102 O) (Nat.le_refl _) (by decide) O) (fun _ _ => trivial))) ?_
           refine Vs 5 O ?_
           refine ziV tr12 O (fun w hI => ⟨_, rfl, by first | rfl | (exfalso; omega) | (exfalso; simp_all), hI.k0⟩)
          ·
           refine Vs 9 O ?_
           refine ziV tr12 O (fun w hI => ⟨_, rfl, by first | rfl | (exfalso; omega) | (exfalso; simp_all), hI.k0⟩)
         ·
          refine Vs 14 O ?_
          refine ziV tr12 O (fun w hI => ⟨_, rfl, by first | rfl | (exfalso; omega) | (exfalso; simp_all), hI.k0⟩)
        ·
         refine Vs 20 O ?_
         refine ziV tr12 O (fun w hI => ⟨_, rfl, by first | rfl | (exfalso; omega) | (exfalso; simp_all), hI.k0⟩)
       ·
        refine Vs 24 O ?_
        refine ziV tr12 O (fun w hI => ⟨_, rfl, by first | rfl | (exfalso; omega) | (exfalso; simp_all), hI.k0⟩)
      ·
       refine Vs 28 O ?_
       refine ziV tr12 O (fun w hI => ⟨_, rfl, by first | rfl | (exfalso; omega) | (exfalso; simp_all), hI.k0⟩)
     ·
      refine Vs 34 O ?_
      refine ziV tr12 O (fun w hI => ⟨_, rfl, by first | rfl | (exfalso; omega) | (exfalso; simp_all), hI.k0⟩)
    ·
     refine Vs 39 O ?_
     refine ziV tr12 O (fun w hI => ⟨_, rfl, by first | rfl | (exfalso; omega) | (exfalso; simp_all), hI.k0⟩)
   ·
    refine Vs 43 O ?_
    refine ziV tr12 O (fun w hI => ⟨_, rfl, by first | rfl | (exfalso; omega) | (exfalso; simp_all), hI.k0⟩)
  ·
   refine Vs 47 O ?_
   refine ziV tr12 O (fun w hI => ⟨_, rfl, by first | rfl | (exfalso; omega) | (exfalso; simp_all), hI.k0⟩)
 ·
  refine Vs 51 O ?_
  refine ziV tr12 O (fun w hI => ⟨_, rfl, by first | rfl | (exfalso; omega) | (exfalso; simp_all), hI.k0⟩)
structure StIn (ps : List Fl) (i : Nat) (n : Int) : Prop where
 le : i <= ps.length
 ok : ∀ j f, j < i -> ps[j]? = some f -> zcq f = 0 /\ (spN f : Int) = n
theorem StIn.next {ps : List Fl} {i : Nat} {n : Int} {f : Fl} (h : StIn ps i n) (hf : ps[i]? = some f) (ha : zcq f = 0) (hs : 0 < i -> (spN f : Int) = n) : StIn ps (i + 1) (spN f : Int) := by
 refine ⟨(List.getElem?_eq_some_iff.1 hf).1, fun j g hj hg => ?_⟩
 by_cases e : j = i
 ·
  subst e
  rw [hf] at hg
  cases hg
  exact ⟨ha, rfl⟩
 ·
  obtain ⟨h1, h2⟩ := h.ok j g (by omega) hg
  exact ⟨h1, by rw [h2, hs (by omega)]⟩
def RNn : Rel Nn := fun D w t cs => ∃ v1 v2, cs = [.int .i64 t.q.1, v1, v2] /\ SlR 1 zF D w v1 t.q.2 /\ SlR 1 zF D w v2 t.next
theorem zco : zQ RNn := fun _ _ _ _ hD hk _ _ ⟨v1, v2, h1, h2, h3⟩ => ⟨v1, v2, h1, h2.stable zc hD hk, h3.stable zc hD hk⟩
theorem zfl : xt RNn := fun _ _ _ _ ⟨v1, v2, h1, h2, h3⟩ => ⟨v1, v2, h1, h2.narrow (by omega) yj, h3.narrow (by omega) yj⟩
instance : StC RNn := ⟨zco⟩
instance : Dt RNn := ⟨zco, zfl⟩
open Go.GL Go.ChangeShapes Go.WideShapes Go.ChangeAt Go.RowKit
section
variable {H : Type} {enc : TypeId × Value -> H} {w : World} {base : Nat} {sp : Nat -> Bool} {held : Bool}
set_option maxRecDepth 100000 in
theorem zhp (k : Nat) (cs : List Value) (x : DataW H × List MemPlace) (h : DataW.trod enc Tryz.prog w base sp held k 56 cs = some x) : ∃ t, RPg (fun _ => True) w t cs := by
 obtain ⟨xs, m, hk, _, hl, hx, hat⟩ := DataW.trod_struct Tryz.underlying56 h
 rw [show Tryz.prog.cellsOf 56 = 3 by kernel_rfl] at hl
 match cs, hl with
 | [c0, c1, c2], _ =>
  obtain ⟨y0, h0⟩ := zq hx hat 0 rfl (c := 1) (by kernel_rfl)
  obtain ⟨y1, h1⟩ := zq hx hat 1 rfl (c := 1) (by kernel_rfl)
  obtain ⟨y2, h2⟩ := zq hx hat 2 rfl (c := 1) (by kernel_rfl)
  obtain ⟨v0, l0, e0, hs0⟩ := zbt tu52 (show Tryz.prog.cellsOf 120 = 5 by kernel_rfl) (by decide) (fun n cs y hy => zgJ n cs y hy) h0
  obtain ⟨v1, l1, e1, hs1⟩ := zbt Tryz.underlying53 (show Tryz.prog.cellsOf 137 = 6 by kernel_rfl) (by decide) (fun n cs y hy => zgK n cs y hy) h1
  obtain ⟨v2, l2, e2, hs2⟩ := zbt tu54 zaQ (by decide) (fun n cs y hy => zgI n cs y hy) h2
  simp at e0 e1 e2
  subst e0; subst e1; subst e2
  exact ⟨⟨l0, l1, l2⟩, _, _, _, rfl, hs0, hs1, hs2⟩
def wtB (P : Program) (t : TypeId) (d : DataW H) : Prop := ∀ n ∈ d.weights P t, n <= reachBytes
theorem wtB.field {P : Program} {t : TypeId} {fs : Array Field} {parts : List (DataW H)} (h : wtB P t (.agg parts)) (ht : P.underlying t = some (.struct fs)) {i : Nat} {f : Field} {d : DataW H} (hf : fs[i]? = some f) (hd : parts[i]? = some d) : wtB P f.type d := fun n hn => by
 refine h n ?_
 rw [DataW.weights, ht]
 exact DataW.weights_mem_each (j := i) (by simp [hf]) hd n hn
theorem qH {P : Program} {e : TypeId} {d : DataW H} {n : Nat} : ∀ {l : List (DataW H)}, d ∈ l -> n ∈ d.weights P e -> n ∈ DataW.weightsAll P e l
 | x :: l, h, hn => by
  rw [DataW.weightsAll, List.mem_append]
  rcases List.mem_cons.1 h with rfl | h
  . exact .inl hn
  . exact .inr (qH h hn)
theorem wtB.slice {P : Program} {t e : TypeId} {es rs : List (DataW H)} (h : wtB P t (.slice es rs)) (ht : P.underlying t = some (.slice e)) : es.length * P.bytesOf e <= reachBytes /\ ∀ d ∈ es, wtB P e d := by
 refine ⟨zme (Nat.mul_le_mul_right _ (Nat.le_add_right es.length rs.length)) (h _ (by rw [DataW.weights, ht]; exact zmc ..)), fun d hd n hn => h n ?_⟩
 rw [DataW.weights, ht]
 exact zmb _ (List.mem_append_left _ (qH hd hn))
theorem zi1 {P : Program} {ts : List TypeId} {ds : List (DataW H)} (h : (DataW.weightsEach P ts ds).all (· <= reachBytes) = true) {j : Nat} {t : TypeId} {d : DataW H} (ht : ts[j]? = some t) (hd : ds[j]? = some d) : wtB P t d := fun n hn => by
 simpa using List.all_eq_true.1 h _ (DataW.weights_mem_each ht hd n hn)
theorem zcp {P : Program} {fs : Array Field} {m : Nat} {cs : List Value} {xs : List (DataW H × List MemPlace)} (hx : xs.length = fs.size) (hat : ∀ (i : Nat) (f : Field), fs[i]? = some f -> DataW.trod enc P w base sp held m f.type ((cs.drop f.offset).take (P.cellsOf f.type)) = xs[i]?) (i : Nat) {f : Field} (hf : fs[i]? = some f) {c : Nat} (hc : P.cellsOf f.type = c) :
  ∃ y, DataW.trod enc P w base sp held m f.type ((cs.drop f.offset).take c) = some y /\ (xs.map (·.1))[i]? = some y.1 := by
 have h := hat i f hf
 have hi := (Array.getElem?_eq_some_iff.1 hf).1
 rw [zm8 (show i < xs.length by omega), hc] at h
 exact ⟨_, h, by rw [List.getElem?_map, zm8 (show i < xs.length by omega)]; rfl⟩
set_option maxRecDepth 100000 in
theorem zfm (k : Nat) (cs : List Value) (x : DataW H × List MemPlace) (h : DataW.trod enc Tryz.prog w base sp held k 33 cs = some x) : ∃ t, RQu (fun _ => True) w t cs /\ (wtB Tryz.prog 33 x.1 -> t.2.length <= 17592186044416) := by
 obtain ⟨xs, m, hk, rfl, hl, hx, hat⟩ := DataW.trod_struct tu33 h
 rw [show Tryz.prog.cellsOf 33 = 2 by kernel_rfl] at hl
 match cs, hl with
 | [c0, c1], _ =>
  obtain ⟨y0, h0⟩ := zq hx hat 0 rfl (c := 1) (by kernel_rfl)
  obtain ⟨y1, h1, hy1⟩ := zcp hx hat 1 rfl (c := 1) (by kernel_rfl)
  obtain ⟨n0, e0, _⟩ := DataW.trod_int tu3 h0
  obtain ⟨v1, l1, e1, hs1, hs2⟩ := zcu (fun _ => True) tu31 zaP (by decide) (fun _ _ _ _ _ => trivial) (fun n cs y _ hy => zcv tu3 hy) h1
  simp at e0 e1
  subst e0; subst e1
  refine ⟨(n0, l1), ⟨_, rfl, hs1⟩, fun hB => ?_⟩
  rcases hs2 with e | ⟨es, rs, e1, e2⟩
  . rw [e]; exact Nat.zero_le _
  ·
   have hb1 := hB.field (i := 1) tu33 rfl hy1
   rw [e1] at hb1
   have := (hb1.slice tu31).1
   rw [show Tryz.prog.bytesOf 3 = 8 by kernel_rfl, e2] at this
   have h3 : reachBytes < 2 ^ 47 := reachBytes_lt
   show l1.length <= 17592186044416
   omega
set_option maxRecDepth 100000 in
theorem zhq (k : Nat) (cs : List Value) (x : DataW H × List MemPlace) (h : DataW.trod enc Tryz.prog w base sp held k 37 cs = some x) : ∃ (a : Ac) (u1 u2 : Value), cs = [.int .i64 a.mode, .int .i64 a.budget, .int .i64 a.spent, u1, u2] /\ RAc (fun _ => True) w a u1 u2 /\ (wtB Tryz.prog 37 x.1 -> ∀ p ∈ a.asked, p.2.length <= 17592186044416) := by
 obtain ⟨xs, m, hk, rfl, hl, hx, hat⟩ := DataW.trod_struct tu37 h
 rw [show Tryz.prog.cellsOf 37 = 5 by kernel_rfl] at hl
 match cs, hl with
 | [c0, c1, c2, c3, c4], _ =>
  obtain ⟨y0, h0⟩ := zq hx hat 0 rfl (c := 1) (by kernel_rfl)
  obtain ⟨y1, h1⟩ := zq hx hat 1 rfl (c := 1) (by kernel_rfl)
  obtain ⟨y2, h2⟩ := zq hx hat 2 rfl (c := 1) (by kernel_rfl)
  obtain ⟨y3, h3⟩ := zq hx hat 3 rfl (c := 1) (by kernel_rfl)
  obtain ⟨y4, h4, hy4⟩ := zcp hx hat 4 rfl (c := 1) (by kernel_rfl)
  obtain ⟨n0, e0, _⟩ := DataW.trod_int Tryz.underlying22 h0
  obtain ⟨n1, e1, _⟩ := DataW.trod_int tu3 h1
  obtain ⟨n2, e2, _⟩ := DataW.trod_int tu3 h2
  obtain ⟨v3, l3, e3, hs3⟩ := zbt tu31 zaP (by decide) (fun n cs y hy => zcv tu3 hy) h3
  obtain ⟨v4, l4, e4, hs4, _⟩ := zcu (R := (fun D w q cs => RQu D w q cs /\ (wtB Tryz.prog 37 (DataW.agg (xs.map (·.1))) -> q.2.length <= 17592186044416) : Rel Qu)) (fun d => wtB Tryz.prog 37 (DataW.agg (xs.map (·.1))) -> wtB Tryz.prog 33 d) tu24 (show Tryz.prog.cellsOf 33 = 2 by kernel_rfl) (by decide) (fun es rs e d hd hB => by
   have hb4 := hB.field (i := 4) tu37 rfl hy4
   rw [e] at hb4
   exact (hb4.slice tu24).2 d hd) (fun n cs y hq hy => by
   obtain ⟨t, h1, h2⟩ := zfm n cs y hy
   exact ⟨t, h1, fun hB => h2 (hq hB)⟩) h4
  simp at e0 e1 e2 e3 e4
  subst e0; subst e1; subst e2; subst e3; subst e4
  refine ⟨⟨n0, n1, n2, l3, l4⟩, _, _, rfl, ⟨hs3, hs4.map fun _ _ _ h => h.1⟩, fun hB p hp => ?_⟩
  obtain ⟨a2, c2, rfl⟩ := hs4.form
  obtain ⟨i, hi⟩ := List.mem_iff_getElem?.1 hp
  obtain ⟨_, _, _, _, _, _, _, h8⟩ := hs4.at hi
  exact h8 hB
set_option maxRecDepth 100000 in
theorem zgo {r : Reach} {b0 : Nat} {v : Value} {d : DataW H} {ps : List MemPlace} (hval : Value.okWide Tryz.prog w r b0 37 v) (hd : DataW.Trod enc Tryz.prog w base sp held 37 v d ps) :
  ∃ (a : Ac) (u1 u2 : Value), v = .agg #[.int .i64 a.mode, .int .i64 a.budget, .int .i64 a.spent, u1, u2] /\ RAc (fun _ => True) w a u1 u2 /\ (wtB Tryz.prog 37 d -> ∀ p ∈ a.asked, p.2.length <= 17592186044416) := by
 unfold Value.okWide at hval
 rw [tu37] at hval
 obtain ⟨cs, rfl, hsz, _⟩ := hval
 obtain ⟨k, hn⟩ := hd
 obtain ⟨a, u1, u2, e, ha, hb⟩ := zhq k _ _ hn
 simp [Value.cells] at e
 exact ⟨a, u1, u2, by rw [<- e], ha, hb⟩
set_option maxRecDepth 100000 in
theorem ze5 {r : Reach} {b0 : Nat} {v : Value} {d : DataW H} {ps : List MemPlace} (hval : Value.okWide Tryz.prog w r b0 33 v) (hd : DataW.Trod enc Tryz.prog w base sp held 33 v d ps) :
  ∃ (q : Int × List Int) (u : Value), v = .agg #[.int .i64 q.1, u] /\ SlR 1 zF (fun _ => True) w u q.2 := by
 unfold Value.okWide at hval
 rw [tu33] at hval
 obtain ⟨cs, rfl, hsz, _⟩ := hval
 obtain ⟨k, hn⟩ := hd
 obtain ⟨q, ⟨u, e, ha⟩, _⟩ := zfm k _ _ hn
 simp [Value.cells] at e
 exact ⟨q, u, by rw [<- e], ha⟩
set_option maxRecDepth 100000 in
theorem zgp {r : Reach} {b0 : Nat} {v : Value} {d : DataW H} {ps : List MemPlace} (hval : Value.okWide Tryz.prog w r b0 23 v) (hd : DataW.Trod enc Tryz.prog w base sp held 23 v d ps) :
  ∃ l, SlR 3 RPg (fun _ => True) w v l := by
 obtain ⟨a, len, cap, rfl⟩ := okWide_slice Tryz.underlying23 hval
 obtain ⟨k, hn⟩ := hd
 obtain ⟨ev, es, hev, hsl⟩ := zbt Tryz.underlying23 (show Tryz.prog.cellsOf 56 = 3 by kernel_rfl) (by decide) (fun n cs y h => zhp n cs y h) hn
 simp [Value.cells] at hev
 subst hev
 exact ⟨es, hsl⟩
end
def zir {H : Type} : List (String × DataW H) := [("math/bits.deBruijn32tab", Rows.laid_math_bits_deBruijn32tab), ("math/bits.deBruijn64tab", Rows.laid_math_bits_deBruijn64tab), ("internal/strconv.uint64pow10", Rows.laid_internal_strconv_uint64pow10)]
theorem zi2 {W : World} (h : laidMet Tryz.prog zir W) : Tab W := by
 obtain ⟨ps, ⟨_, _, _, _, _, _, _, _, _, _, ⟨_, _, _, _, _, _, _, _, _, _, ⟨g, t, cs, fuel, p, q, hg, ht, hvar, hd, _, _⟩, _⟩, _⟩, _⟩ := h
 obtain rfl := Option.some.inj ((show Tryz.prog.globalNamed "internal/strconv.uint64pow10" = some 0 by kernel_rfl).symm.trans hg)
 obtain rfl := Option.some.inj ((show (Tryz.prog.globals[0]?).map (·.type) = some 259 by kernel_rfl).symm.trans ht)
 rw [show (Rows.laid_internal_strconv_uint64pow10 : DataW Unit) = Lib.tabData .u64 Lib.pow10Tab by kernel_rfl] at hd
 show W.var? _ _ = _
 have h1 := Lib.cells_of_tab (n := 20) (e := 204) (by kernel_rfl) (by kernel_rfl) (by kernel_rfl) (by kernel_rfl) hd
 rw [hvar, <- h1]
def zfn : DataW Unit -> Array Value
 | .agg l => (l.map fun d => match d with
  | .lit (.int k z) => Value.int k z
  | _ => .int .i64 0).toArray
 | _ => #[]
def zij (cs : Array Value) : Obj -> Obj
 | .cells _ t frozen => .cells cs t frozen
 | o => o
noncomputable def zfo (os : Os) : World :=
 let w0 := World.holding Tryz.prog os ⟨#[], #[], []⟩
 { w0 with heap := ((w0.heap.modify 0 (zij (zfn Rows.laid_internal_strconv_uint64pow10))).modify 1 (zij (zfn Rows.laid_math_bits_deBruijn32tab))).modify 2 (zij (zfn Rows.laid_math_bits_deBruijn64tab)) }
set_option maxRecDepth 100000 in
theorem zbo (os : Os) (args : Array Value) : laidMet Tryz.prog zir ((zfo os).forCall (fun _ _ => 0) ⟨#[], args, []⟩).memory :=
 laidMet_of_run' 8 (by kernel_rfl) (by kernel_rfl)
end Go.Proofs.YtbkhagigkglgoaaGreatDoor
