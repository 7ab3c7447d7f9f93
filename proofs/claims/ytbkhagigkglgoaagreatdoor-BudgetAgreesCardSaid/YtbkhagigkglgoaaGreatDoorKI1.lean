/-
  Contracts and the mathematics that the proof needs. Nothing here is a claim.
-/
import Derived.Test.YtbkhagigkglgoaaGreatDoorKV6
import Derived.WalkKit
import Derived.Deep.Quiet
import Derived.Deep.LoopGhost
import Derived.Below
import Derived.OrdersHeld
import Derived.KernelRfl
import Derived.WalkSpells
import Derived.ChangeKeysEq
import Derived.Lib.SliceRun
import Derived.Test.YtbkhagigkglgoaaGreatDoorRows
import Derived.ProofKit
import Derived.OpenShut
import Derived.ReadAgain
import Derived.ChangeBears
import Derived.Laws.Strings
import Derived.Test.YtbkhagigkglgoaaGreatDoorProg
import Derived.Maps.RangeRun
import Derived.MapKept
import Derived.Lib.AppendStr
import Derived.Lib.SmallJoins
import Derived.Lib.Builder
import Derived.Lib.UnsafeStr
import Derived.Laws.Externs
import Derived.Lib.ItoaNum
import Derived.Lib.ItoaMem
import Derived.Shelf.Strings.BuilderK
import Derived.Shelf.LaysM
import Derived.Shelf.Strconv.Itoa3
import Derived.Lib.ItoaLen
import Derived.Shelf.SlSortCmp.WholeK
import Derived.Ground.SlsfProg
import Derived.Shelf.SlSortCmp.NoneTotal
import Derived.Handed
import Derived.LaidLaws
import Derived.Test.YtbkhagigkglgoaaGreatDoorTie
import Derived.Test.YtbkhagigkglgoaaGreatDoorCards
namespace Go.GL
abbrev G.sb := @zle
abbrev VD.rs := @zlS
end Go.GL
namespace Go.GL
abbrev zou := @List.length_singleton
end Go.GL
namespace Go.GL
section
variable {P : Program} {env : Env} {w : World} {dst : Option Tmp} {ty : TypeId} {pos : String} {aft : Array Edge} {g : Option (Nat × Bool)}
theorem R.field {s : TypeId} {x : Operand} {fld : Nat} {fields : Array Field} {f : Field} {cs : List Value} {v : Value} (hu : ∀ w, (underlying s).run P w = .ok (.struct fields) w) (hf : fields[fld]? = some f) (ht : ∀ w, (isAgg f.type).run P w = .ok false w)
  (hx : ev env x = some (.agg cs.toArray)) (hv : cs[f.offset]? = some v) : yo P ⟨dst, .field s x fld, ty, pos, aft, g⟩ env w v w := by
 intro n a ha
 simp [execOp, ha.eval hx, Instr.field, hu, hf, asAgg, part, ht, hv]
end
open Go.RowKit
section
variable {P : Program} {n : Nat} {Q : Exit -> Act -> World -> Prop} {ks : List Fr} {env : Env} {pos : Pos} {A : Tgs} {H : Hp} {Bs : yc} {ops : Array Oper} {rest : List Oper} {v : Value}
variable {d : Nat} {op : Op} {ty : TypeId} {ps : String} {aft : Array Edge} {g : Option (Nat × Bool)}
theorem V.rl (k : Nat) {t tl : TypeId} {x : Operand} {b o m c : Nat} {xs : List Value} (j : Nat) (ht : ∀ w, (isAgg tl).run P w = .ok false w) (hn : (Nat.blt d n, gd ops env g, zo H k, ev env x) = (true, some true, some (.row t 1 (.slice (some ⟨b, 0, none⟩) m c) m xs), some (.pointer (some ⟨b, o, none⟩)))) (hj : o = j) (hv : xs[j]? = some v)
  (h : V P n Q ks (.o ops rest) ((d, v) :: env) ((d, none) :: A) H Bs) : V P n Q ks (.o ops (⟨some d, .load tl x, ty, ps, aft, g⟩ :: rest)) env A H Bs := by
 simp only [Prod.mk.injEq] at hn
 subst hj
 refine fun hA w hI => zlg hn.1 hn.2.1 (R.load ht hn.2.2.2 ?_) (h hA.none w hI)
 obtain ⟨sp, hB, _⟩ := zbl (show w.ownsRow 0 t 1 _ m xs from hI.at k hn.2.2.1)
 have := hB.cells o v (by rw [znp (zne.1 hv).1]; exact hv)
 simpa using this
end
open Go.RowKit
section
variable {P : Program} {T : Tab} {Z : Szs} {n : Nat} {Q : Exit -> Act -> World -> Prop} {ks : List Fr} {pos : Pos} {env : Env} {A : Tgs} {H Hs : Hp} {Bs B0 : yc} {ops : Array Oper} {rest : List Oper} {v : Value} {L : List Nat} {fuel : Nat} {listed : Array Bool}
variable {d : Nat} {op : Op} {ty : TypeId} {ps : String} {aft : Array Edge} {g : Option (Nat × Bool)}
theorem zop (is k : Nat) {t tl : TypeId} {x y : Operand} {b o m c : Nat} {xs : List Value} (q : Nat) (hs : ∀ w, (sizeOf tl).run P w = .ok 1 w) (hi : ops[is]? = some ⟨none, .store tl x y, ty, ps, aft, g⟩) (hr : Region.ready .any ops listed = [is])
  (hn : (gd ops env g, zo H k, qm H k, ev env x, ev env y, Go.GL.one v, L.contains is) = (some true, some (.row t 1 (.slice (some ⟨b, 0, none⟩) m c) m xs), none, some (.pointer (some ⟨b, o, none⟩)), some v, true, true)) (hj : o = q) (hl : q < xs.length)
  (h : VDx P n Q ks ops (VI B0 Hs) L fuel (listed.setIfInBounds is true) env A (hset H k (.row t 1 (.slice (some ⟨b, 0, none⟩) m c) m (xs.set q v))) Bs) : VD P n Q ks ops Hs B0 L (fuel + 1) listed env A H Bs := by
 simp only [Prod.mk.injEq] at hn
 subst hj
 obtain ⟨h2, h3, ha, h4, h5, h1, h6⟩ := hn
 intro hH hA w hI
 have ho : w.ownsRow 0 t 1 (.slice (some ⟨b, 0, none⟩) m c) m xs := hI.at k h3
 obtain ⟨sp, hB, hc, hcm, hlen⟩ := zbl ho
 have hm1 : xs.length = m := by have := ho.1; omega
 obtain ⟨c1, c2⟩ := jw h1
 refine zmj is hi hr h2 h6 (M.store hs h4 h5 c1 c2 hB (by rw [zn8]; omega)) ?_
 rintro w2 ⟨_, hB2, hk2⟩
 refine h (hA.res h3 ha) w2 (hI.set h3 (hk2.mono (fun q _ hq => by have hq : q = b := hq; subst hq; exact rfl)) ?_ trivial (fun _ h => h) fun q hq => ⟨.inl hq, by have hq : some b = some q := hq; cases hq; exact hB2.lt⟩)
 have := yv (k := 1) (n := m) (cap := c) hB2 hc hcm (by rw [List.length_set]; omega)
 rw [List.set_append_left _ _ hl, Nat.mul_one, List.take_append_of_le_length (by rw [List.length_set]; omega), List.take_of_length_le (by rw [List.length_set]; omega)] at this
 exact this
theorem zo8 {w : World} {t : TypeId} {b m c : Nat} {xs : List Value} {i : Nat} {v : Value} (h : (HE.row t 1 (.slice (some ⟨b, 0, none⟩) m c) m xs).holds w) (hv : xs[i]? = some v) : w.cell? ⟨b, 0 + (i : Int).toNat * 1, none⟩ = some v := by
 have := (jV (show w.ownsRow 0 t 1 _ m xs from h)).2.2 i v hv
 simpa using this
end
end Go.GL
namespace Go.Proofs
theorem Tryz.el4 : (Tryz.prog.info? 4).map (fun i => (i.zero, i.size, i.bytes)) = some (some ((Value.bool false)), 1, 1) := by kernel_rfl
theorem Tryz.el91 : (Tryz.prog.info? 91).map (fun i => (i.zero, i.size, i.bytes)) = some (some ((Value.agg #[Value.int IntKind.i64 0, Value.int IntKind.i64 0, Value.int IntKind.i64 0, Value.int IntKind.i64 0, Value.int IntKind.i64 0, Value.int IntKind.i64 0, Value.int IntKind.i64 0, Value.int IntKind.i64 0, Value.int IntKind.i64 0])), 9, 72) := by kernel_rfl
end Go.Proofs
namespace Go.GL
theorem St.plainB_eq (s : St) : s.plainB = ((if s.act = 3 then true else if s.act = 4 then s.els.isEmpty else s.thn.isEmpty && s.els.isEmpty) && zeW s.thn && zeW s.els) := by cases s; rw [St.plainB]; rfl
theorem znX {l : List St} (h : ∀ s ∈ l, s.plainB = true) : zeW l = true := by
 induction l with
 | nil => rfl
 | cons x r ih => rw [zeW, h x (zn4 ..), ih (fun s hs => h s (zn3 _ hs))]; rfl
end Go.GL
namespace Go.Proofs.YtbkhagigkglgoaaGreatDoor
open Go.GL
theorem znB {vs : List Vr} {nh : Nat} (l : List St) : ∀ top, zc vs nh l top = 0 -> zeW l = true := by
 induction l using zkS with
 | h l ih =>
 intro top h
 refine znX (fun s hs => ?_)
 obtain ⟨last, h2⟩ := xz l top h s hs
 obtain ⟨h3, _, _, h4, h5⟩ := qd h2
 rw [s.plainB_eq, (ih s hs).1 _ h4, (ih s hs).2 _ h5, Bool.and_true, Bool.and_true]
 split
 . rfl
 ·
  split
  . rename_i a4; rw [(h3.rep a4).2.2]; rfl
  . rename_i a3 a4; rw [(h3.free a3 a4).1, (h3.free a3 a4).2]; rfl
theorem znM {f : Fl} (h : zS f = 0) : zeW f.body = true := znB _ _ (yr h).2.2.2.1
section
variable {f : Fl} (V : Valid f)
include V
theorem Valid.plain : zeW f.body = true := znM V.ok
end
open Go.GL
def znS (a b : Int) : Int := if a < b then -1 else if b < a then 1 else 0
theorem znC : ∀ (i : Nat) (xs ys : List Int), xs.take i = ys.take i -> i <= xs.length -> i <= ys.length -> jL xs ys = jL (xs.drop i) (ys.drop i)
 | 0, _, _, _, _, _ => rfl
 | i + 1, [], _, _, h, _ => by simp at h
 | i + 1, _ :: _, [], _, _, h => by simp at h
 | i + 1, x :: xs, y :: ys, h, h1, h2 => by
  simp only [List.take_succ_cons, List.cons.injEq] at h
  obtain ⟨rfl, h⟩ := h
  simp only [zns] at h1 h2
  simp only [List.drop_succ_cons]
  rw [<- znC i xs ys h (by omega) (by omega)]
  simp [jL]
theorem zjk (a b : Int) (W : World) : Calls Tryz.prog 73 #[.int .i64 a, .int .i64 b] W (Ret fun r w' => r = .int .i64 (znS a b) /\ Ext W w') := by
 refine zlr Tryz.func73 O Tryz.ntmps73 O (zlC ?_)
 refine Vs 13 O ?_
 refine zjo O (fun h1 => ?_) (fun h1 => ?_)
 ·
  refine Vs 7 O ?_
  refine zjI Tryz.results73 O (fun w hI => ⟨_, rfl, by unfold znS; rw [znb h1], hI.k0⟩)
 ·
  refine Vs 7 O ?_
  refine zlT tc101 O (fun w hI => yk (decide (b < a)) w) ?_
  refine Vs 4 O ?_
  refine zjI Tryz.results73 O (fun w hI => ⟨_, rfl, by unfold znS; rw [zna h1]; by_cases h : b < a <;> simp [h], hI.k0⟩)
theorem zo9 {xs ys X Y : List Int} {t t' p q : Int} (h : jL xs ys = jL (p :: X) (q :: Y)) (hn : p ≠ q) : yD (xs, t) (ys, t') = znS p q := by
 have e : jL (p :: X) (q :: Y) = znS p q := by
  unfold znS
  simp only [jL]
  split
  . rfl
  ·
   split
   . rfl
   . omega
 have n : znS p q ≠ 0 := by
  unfold znS
  split
  . decide
  ·
   split
   . decide
   . omega
 unfold yD
 dsimp only
 rw [h, e, znb n]
theorem znG {xs ys : List Int} {t t' : Int} {i : Nat} (h : jL xs ys = jL (xs.drop i) (ys.drop i)) (h1 : i <= xs.length) (h2 : i <= ys.length) (hi : xs.length <= i \/ ys.length <= i) (hn : (xs.length : Int) ≠ ys.length) : yD (xs, t) (ys, t') = znS xs.length ys.length := by
 rcases hi with hi | hi
 ·
  obtain ⟨y, hy⟩ : ∃ y, ys[i]? = some y := ⟨_, zn0 (by omega)⟩
  rw [List.drop_of_length_le hi, qg hy] at h
  unfold yD znS
  dsimp only
  rw [h, znb (show (xs.length : Int) < ys.length by omega)]
  rfl
 ·
  obtain ⟨x, hx⟩ : ∃ x, xs[i]? = some x := ⟨_, zn0 (by omega)⟩
  rw [List.drop_of_length_le hi, qg hx] at h
  unfold yD znS
  dsimp only
  rw [h, zna (show ¬ (xs.length : Int) < ys.length by omega), znb (show (ys.length : Int) < xs.length by omega)]
  rfl
theorem zoa {xs ys : List Int} {t t' : Int} {i : Nat} (h : jL xs ys = jL (xs.drop i) (ys.drop i)) (hi : xs.length <= i) (hj : ys.length <= i) : yD (xs, t) (ys, t') = znS t t' := by
 rw [List.drop_of_length_le hi, List.drop_of_length_le hj] at h
 unfold yD znS
 dsimp only
 rw [h]
 rfl
theorem znw (x y : List Int × Int) (u v : Value) (D D' : Nat -> Prop) (W : World) (hx : SlR 1 zz D W u x.1) (hy : SlR 1 zz D' W v y.1) :
  Calls Tryz.prog 39 #[.agg #[u, .int .i64 x.2], .agg #[v, .int .i64 y.2]] W (Ret fun r w' => r = .int .i64 (yD x y) /\ Ext W w') := by
 obtain ⟨xs, t⟩ := x
 obtain ⟨ys, t'⟩ := y
 dsimp only at hx hy
 obtain ⟨ax, cx, rfl⟩ := hx.form
 obtain ⟨ay, cy, rfl⟩ := hy.form
 have hmx := hx.max
 have hmy := hy.max
 refine zlr Tryz.func39 O Tryz.ntmps39 O (zlC ?_)
 refine Vs 2 O ?_
 refine V.box 2 O O (fun b2 => ?_)
 refine V.box 3 O O (fun b3 => ?_)
 refine Vs 10 O ?_
 refine zm5 (σ := Nat) [2, 3] [2, 3] [2, 3] O (fun e i => (5, .int .i64 i) :: e) (fun e i => e) (fun i => (i <= xs.length /\ i <= ys.length) /\ xs.take i = ys.take i) (fun i => xs.length - i) (0) (zkZ O) (zl0 O) (fun _ => rfl) (fun _ => rfl) (fun _ => rfl) (⟨⟨znf _, znf _⟩, rfl⟩) ?_
 rintro i ⟨⟨hi, hj⟩, he⟩
 refine Vs 9 O ?_
 refine zld 11 O (fun b1 => ?_) (fun b1 => ?_)
 ·
  refine Vs 8 O ?_
  refine zjo O (fun b2 => ?_) (fun b2 => ?_)
  ·
   refine Vs 5 O ?_
   obtain ⟨p, he_p, hm_p⟩ := gE_ xs (i) (by omega)
   obtain ⟨b_p, o_p, c_p, ha_p, _, hc_p, hR_p⟩ := hx.at he_p
   obtain rfl := hR_p
   refine zm1 1000 0 O O hc_p ?_
   obtain ⟨q, he_q, hm_q⟩ := gE_ ys (i) (by omega)
   obtain ⟨b_q, o_q, c_q, ha_q, _, hc_q, hR_q⟩ := hy.at he_q
   obtain rfl := hR_q
   refine zm1 2000 0 O O hc_q ?_
   have hdx := qg he_p
   have hdy := qg he_q
   have hcc := znC i xs ys he hi hj
   rw [hdx, hdy] at hcc
   refine Vq (by kernel_rfl) ?_
   refine Vs 3 O ?_
   refine zlM 1000 tR31 ts3 O ha_p (by omega) (_) (rfl) O ?_
   refine Vs 4 O ?_
   refine zlM 2000 tR31 ts3 O ha_q (by omega) (_) (rfl) O ?_
   refine Vs 4 O ?_
   refine zjo O (fun b3 => ?_) (fun b3 => ?_)
   ·
    refine Vs 1 O ?_
    refine Vw [2, 3, 1000, 2000] [] O ?_
    refine Vd [0, 1, 2, 5, 6, 7] 0 (by kernel_rfl) O O O ?_
    refine zlL 3 1000 tR31 ts3 O (by kernel_rfl) O ha_p (by omega) (_) (rfl) O ?_
    refine Vd [4] 0 (by kernel_rfl) O O O ?_
    refine zlL 8 2000 tR31 ts3 O (by kernel_rfl) O ha_q (by omega) (_) (rfl) O ?_
    refine Vd [9] 0 (by kernel_rfl) O O O ?_
    refine zlU 10 0 Tryz.call73 O (by kernel_rfl) O O (fun w hI => zjk p q w) ?_
    refine Vd [11] 0 (by kernel_rfl) O O O ?_
    refine VD.done (by kernel_rfl) ?_
    refine Vs 7 O ?_
    refine zjI Tryz.results39 O (fun w hI => ⟨_, rfl, by rw [zo9 hcc b3], hI.k0⟩)
   ·
    refine Va 8 O (by omega) ?_
    refine zjz (i + 1) (zkZ O) (zl0 O) (⟨⟨by omega, by omega⟩, by rw [List.take_add_one, List.take_add_one, he, he_p, he_q, zn9.1 b3]⟩) (by first | omega | (dsimp only; omega)) 0 O O
  ·
   have hcc := znC i xs ys he hi hj
   refine Vs 17 O ?_
   refine zjo O (fun b3 => ?_) (fun b3 => ?_)
   ·
    refine Vs 8 O ?_
    refine zlT Tryz.call73 O (fun w hI => zjk xs.length ys.length w) ?_
    refine Vs 5 O ?_
    refine zjI Tryz.results39 O (fun w hI => ⟨_, rfl, by rw [znG hcc hi hj (by omega) b3], hI.k0⟩)
   . exact absurd (by omega) b3
 ·
  have hcc := znC i xs ys he hi hj
  refine Vs 26 O ?_
  refine zjo O (fun b3 => ?_) (fun b3 => ?_)
  ·
   refine Vs 8 O ?_
   refine zlT Tryz.call73 O (fun w hI => zjk xs.length ys.length w) ?_
   refine Vs 5 O ?_
   refine zjI Tryz.results39 O (fun w hI => ⟨_, rfl, by rw [znG hcc hi hj (by omega) b3], hI.k0⟩)
  ·
   refine Vs 8 O ?_
   refine zlT Tryz.call73 O (fun w hI => zjk t t' w) ?_
   refine Vs 4 O ?_
   refine zjI Tryz.results39 O (fun w hI => ⟨_, rfl, by rw [zoa hcc (by omega) (by omega)], hI.k0⟩)
theorem znH {l : List Ob} (h : Asc l) : l.Nodup := h.imp fun {a b} h e => by rw [e, kn] at h; omega
theorem znT {n s d : Int} (hn : 0 <= n) (h0 : 0 <= d) (h1 : d < s) : (n * s + d).tdiv s = n /\ (n * s + d).tmod s = d := by
 have hs : 0 < s := by omega
 have hm : 0 <= n * s := znu hn (by omega)
 rw [Int.tdiv_eq_ediv_of_nonneg (by omega), Int.tmod_eq_emod_of_nonneg (by omega)]
 refine ⟨?_, ?_⟩
 . rw [Int.add_comm, Int.add_mul_ediv_right _ _ (by omega), Int.ediv_eq_zero_of_lt h0 h1, Int.zero_add]
 . rw [Int.add_comm, Int.add_mul_emod_self_right, Int.emod_eq_of_lt h0 h1]
theorem znx : ∀ {vs : List Vr} {xs : List Int} {n r : Int}, xs.length = vs.length -> 0 <= n -> zdm vs xs n = some r -> zD vs r = (xs, n)
 | [], [], n, r, _, _, h => by
  simp only [zdm, Option.some.injEq] at h
  rw [<- h]; rfl
 | v :: vs, x :: xs, n, r, hl, hn, h => by
  unfold zdm at h
  split at h
  . cases h
  ·
   rename_i h1
   have hm : 0 <= n * (v.high - v.low + 1) := znu hn (by omega)
   have ih := znx (vs := vs) (xs := xs) (by simpa using hl) (show 0 <= n * (v.high - v.low + 1) + x - v.low by omega) h
   have hd := znT (n := n) (s := v.high - v.low + 1) (d := x - v.low) hn (by omega) (by omega)
   rw [show n * (v.high - v.low + 1) + (x - v.low) = n * (v.high - v.low + 1) + x - v.low by omega] at hd
   simp only [zD, ih, hd.1, hd.2]
   rw [show v.low + (x - v.low) = x by omega]
theorem znz : ∀ {vs : List Vr} {xs : List Int} {n r : Int}, xs.length = vs.length -> 0 <= n -> zdm vs xs n = some r -> n * jN vs <= r /\ r < (n + 1) * jN vs
 | [], [], n, r, _, _, h => by
  simp only [zdm, Option.some.injEq] at h
  rw [<- h, jN]; omega
 | v :: vs, x :: xs, n, r, hl, hn, h => by
  unfold zdm at h
  split at h
  . cases h
  ·
   rename_i h1
   have hm : 0 <= n * (v.high - v.low + 1) := znu hn (by omega)
   obtain ⟨h2, h3⟩ := znz (vs := vs) (xs := xs) (by simpa using hl) (show 0 <= n * (v.high - v.low + 1) + x - v.low by omega) h
   have hp : 0 <= jN vs := by
    rcases Int.lt_or_le (jN vs) 0 with hp | hp
    ·
     have := Int.mul_lt_mul_of_neg_right (show n * (v.high - v.low + 1) + x - v.low < n * (v.high - v.low + 1) + x - v.low + 1 by omega) hp
     omega
    . exact hp
   have e1 : n * (v.high - v.low + 1) * jN vs <= (n * (v.high - v.low + 1) + x - v.low) * jN vs := Int.mul_le_mul_of_nonneg_right (by omega) hp
   have e2 : (n * (v.high - v.low + 1) + x - v.low + 1) * jN vs <= ((n + 1) * (v.high - v.low + 1)) * jN vs := Int.mul_le_mul_of_nonneg_right (by rw [Int.add_mul]; omega) hp
   rw [jN, <- Int.mul_assoc, <- Int.mul_assoc]
   omega
theorem znN {k : Int} {vs : List Vr} {xs : List Int} (h : (qk k vs xs).2 = 0) : zl k vs (qk k vs xs).1 = 0 /\ (zD (zd k vs) (qk k vs xs).1).1 = xs := by
 unfold qk at h ⊢
 split at h
 ·
  rename_i hs
  split at h
  ·
   rename_i hl
   cases hr : zdm (zd k vs) xs 0 with
   | none => rw [hr] at h; cases h
   | some r =>
    rw [znb hs, znb hl]
    simp only []
    obtain ⟨m, hm⟩ := Option.isSome_iff_exists.1 hs
    have hb := znz hl (Int.le_refl _) hr
    rw [Int.zero_mul, Int.zero_add, Int.one_mul, <- zew hm] at hb
    refine ⟨?_, by rw [znx hl (Int.le_refl _) hr]⟩
    unfold zl
    rw [znb hs, hm]
    simp only [Option.getD_some]
    rw [zna (by omega)]
  . cases h
 . cases h
theorem znU (vs : List Vr) (k : Int) (r : List Int) (vv rv : Value) (D D' : Nat -> Prop) (W : World) (hk : 0 <= k /\ k <= 3) (hg : ∀ v ∈ vs, yg (v.low, v.high)) (hlen : vs.length <= 1000000) (hvs : SlR 5 RVr D W vv vs) (hr : SlR 1 zz D' W rv r) :
  Calls Tryz.prog 38 #[vv, .int .i64 k, rv] W (Ret fun rr w' => rr = .tuple #[.int .i64 (qk k vs r).1, .int .i64 (qk k vs r).2] /\ Ext W w') := by
 obtain ⟨ar, cr, rfl⟩ := hr.form
 have hmr := hr.max
 refine zls Tryz.func38 O Tryz.ntmps38 O (zlC ?_)
 refine Vs 10 O ?_
 refine zlT Tryz.call66 O (fun w hI => zdo vs k vv D w hk hg hlen (Tr1 hI.k0 hvs)) ?_
 refine Vs 14 O ?_
 refine zjo O (fun c0 => ?_) (fun c0 => ?_)
 ·
  have hc : ¬ (zk k vs).isSome = true := fun h => c0 (znb h)
  refine Vs 9 O ?_
  refine zjL Tryz.results38 O O (fun w hI => ⟨_, rfl, by unfold qk; rw [zna hc, zna hc], hI.k0⟩)
 ·
  have hc : (zk k vs).isSome = true := by
   cases h : (zk k vs).isSome with
   | true => rfl
   | false => rw [h] at c0; exact absurd (by decide) c0
  refine Vs 6 O ?_
  refine zlV Tryz.call72 O (fun w hI => zbJ vs k vv D w (Tr1 hI.k0 hvs) hlen) ?_
  rintro l w1 w2 hI1 hk12 hos hlow
  obtain ⟨al, cl, rfl⟩ := hos.form
  have hml := hos.max
  refine Vs 13 O ?_
  refine zjo O (fun c1 => ?_) (fun c1 => ?_)
  ·
   refine Vs 8 O ?_
   refine zjL Tryz.results38 O O (fun w hI => ⟨_, rfl, by unfold qk; rw [znb hc, zna (by omega)], hI.k1⟩)
  ·
   have hel : r.length = (zd k vs).length := by omega
   refine Vs 14 O ?_
   refine zm5 (σ := Nat × Int) [2, 10] [] [] O (fun e ⟨i, n⟩ => (11, .int .i64 n) :: (12, .int .i64 i) :: e) (fun e ⟨i, n⟩ => e) (fun ⟨i, n⟩ => i <= (zd k vs).length /\ zdm ((zd k vs).drop i) (r.drop i) n = zdm (zd k vs) r 0 /\ ∃ m, zQ k ((zd k vs).take i) 1 = some m /\ 0 <= n /\ n < m) (fun ⟨i, n⟩ => (zd k vs).length - i) ((0, 0)) (zkZ O) (zl0 O) (fun _ => rfl) (fun _ => rfl) (fun _ => rfl) (⟨znf _, rfl, 1, rfl, by omega, by omega⟩) ?_
   rintro ⟨i, n⟩ ⟨hi, hrk, m, hm, hn0, hn1⟩
   show V _ _ _ _ _ ((11, .int .i64 n) :: (12, .int .i64 i) :: _) _ (_) _
   refine Vs 9 O ?_
   refine zjo O (fun hlt => ?_) (fun hlt => ?_)
   ·
    refine Vs 6 O ?_
    obtain ⟨x, he_x, hm_x⟩ := gE_ (zd k vs) (i) (by omega)
    obtain ⟨b_x, o_x, c_x, ha_x, hd_x, hc_x, hR_x⟩ := hos.atD he_x
    obtain rfl := hR_x
    refine zm2 1000 0 O O (fun h_ => by have h1_ := hlow _ h_; have h2_ := hd_x; first | omega | exact h1_ h2_) hc_x ?_
    obtain ⟨y, he_y, hm_y⟩ := gE_ r (i) (by omega)
    obtain ⟨b_y, o_y, c_y, ha_y, _, hc_y, hR_y⟩ := hr.at he_y
    obtain rfl := hR_y
    refine zm1 2000 1 O O hc_y ?_
    have hgx := hg x (xS hm_x)
    unfold yg at hgx
    dsimp only at hgx
    have hdx := qg he_x
    have hdy := qg he_y
    refine Vq (by kernel_rfl) ?_
    refine Vs 2 O ?_
    refine zlM 2000 tR31 ts3 O ha_y (by omega) (_) (rfl) O ?_
    refine Vs 3 O ?_
    refine zlM 1000 tR52 ts120 O ha_x (by omega) (_) (rfl) O ?_
    refine Vs 4 O ?_
    refine zld 46 O (fun b1 => ?_) (fun b1 => ?_)
    ·
     refine Vs 27 O ?_
     refine zjL Tryz.results38 O O (fun w hI => ⟨_, rfl, by unfold qk; rw [znb hc, znb hel, <- hrk, hdx, hdy]; unfold zdm; rw [znb (by omega)], hI.k1⟩)
    ·
     refine Vs 2 O ?_
     refine zlM 2000 tR31 ts3 O ha_y (by omega) (_) (rfl) O ?_
     refine Vs 3 O ?_
     refine zlM 1000 tR52 ts120 O ha_x (by omega) (_) (rfl) O ?_
     refine Vs 6 O ?_
     refine zjo O (fun d1 => ?_) (fun d1 => ?_)
     ·
      refine Vs 13 O ?_
      refine zjL Tryz.results38 O O (fun w hI => ⟨_, rfl, by unfold qk; rw [znb hc, znb hel, <- hrk, hdx, hdy]; unfold zdm; rw [znb (by omega)], hI.k1⟩)
     ·
      obtain ⟨m', hm'⟩ := zeu hc (i + 1)
      have hp := ym k ((zd k vs).take (i + 1)) 1 m' (fun v hv => hg v (xS (List.mem_of_mem_take hv))) (by omega) (by omega) hm'
      have hst := hm'
      rw [zg he_x, zL, hm] at hst
      have hkx : x.kind = k := of_decide_eq_true (List.mem_filter.1 hm_x).2
      have hmm : m * (x.high - x.low + 1) = m' := by
       simp only [Option.bind, zQ] at hst
       rw [znb hkx] at hst
       split at hst
       . cases hst
       . exact Option.some.inj hst
      have hrs := zft (s := x.high - x.low + 1) (x := y) (l := x.low) hn0 hn1 (by omega) (by omega) (by omega)
      refine Vs 2 O ?_
      refine Vq (by kernel_rfl) ?_
      refine Vs 3 O ?_
      refine zlM 1000 tR52 ts120 O ha_x (by omega) (_) (rfl) O ?_
      refine Vs 4 O ?_
      refine zlM 1000 tR52 ts120 O ha_x (by omega) (_) (rfl) O ?_
      refine Va 7 O (by omega) ?_
      refine zlM 2000 tR31 ts3 O ha_y (by omega) (_) (rfl) O ?_
      refine Va 4 O (by omega) ?_
      refine zlM 1000 tR52 ts120 O ha_x (by omega) (_) (rfl) O ?_
      refine Va 12 O (by omega) ?_
      refine zjz ((i + 1, n * (x.high - x.low + 1) + y - x.low)) (zkZ O) (zl0 O) (⟨by omega, by rw [<- hrk, hdx, hdy]; conv => rhs; unfold zdm; rw [zna (by omega)], m', hm', by omega, by omega⟩) (by first | omega | (dsimp only; omega)) 0 O O
   ·
    have : i = (zd k vs).length := by omega
    subst this
    rw [List.drop_length, <- hel, List.drop_length] at hrk
    refine Vs 13 O ?_
    refine zjL Tryz.results38 O O (fun w hI => ⟨_, rfl, by unfold qk; rw [znb hc, znb hel, <- hrk]; rfl, hI.k1⟩)
theorem znD {α : Type} [DecidableEq α] : ∀ {l l' : List α}, l.Nodup -> (∀ x ∈ l, x ∈ l') -> l.length <= l'.length
 | [], _, _, _ => znf _
 | x :: l, l', hn, hs => by
  rw [List.nodup_cons] at hn
  have hx := hs x (zn4 ..)
  have h1 := znD (l' := l'.erase x) hn.2 fun y hy => (List.mem_erase_of_ne (fun e : y = x => hn.1 (e ▸ hy))).2 (hs y (zn3 _ hy))
  rw [List.length_erase_of_mem hx] at h1
  have := List.length_pos_of_mem hx
  rw [zns]; omega
theorem znY {a : Ac} {ps : List Fl} {q : Qu} {s : Int} (h : (zcI a ps q s).code = 0) (_ : ∀ i, zcH ps q.1 = none -> xC a ps q ≠ i \/ i ≠ 0) : ∃ f, zcH ps q.1 = some f /\ xC a ps q = 0 /\ s ∈ a.left /\ zK a f q <= a.budget.tdiv a.spent /\ zcI a ps q s = ziB a f q s := by
 unfold zcI at h ⊢
 by_cases h1 : xC a ps q = 0
 ·
  obtain ⟨_, f, hf, _⟩ := zcJ h1
  simp only [h1, ne_eq, not_true_eq_false, if_false] at h ⊢
  by_cases h2 : s ∈ a.left
  ·
   simp only [h2, not_true_eq_false, if_false, hf] at h ⊢
   split at h
   . cases h
   ·
    rename_i h3
    exact ⟨f, rfl, trivial, trivial, by omega, by rw [zna h3]⟩
  . rw [znb h2] at h; cases h
 . rw [znb h1] at h; exact absurd h h1
theorem znZ {f : Fl} {pub rs rs' : List Int} (h : ∀ s ∈ rs, s ∈ rs') : (ze2 f pub rs).length <= (ze2 f pub rs').length :=
 znD (znH (zcC _)) fun o ho => by
  obtain ⟨s, hs, rfl⟩ := List.mem_map.1 (mem_distO.1 ho)
  exact zgJ (h s hs)
theorem zob {ps : List Fl} {a : Ac} {f : Fl} {q : Qu} (hf : zcH ps q.1 = some f) (hi : xe f a.left) (hA : Agree ps a) : ((ze2 f q.2 a.left).length : Int) <= zK a f q := by
 unfold zK
 split
 . exact Int.le_refl _
 ·
  split
  ·
   rename_i h2
   have : (ze2 f q.2 a.left).length <= ([obN f q.2 (a.left.headD 0)]).length := znD (znH (zcC _)) fun o ho => by
    obtain ⟨s, hs, rfl⟩ := List.mem_map.1 (mem_distO.1 ho)
    cases hl : a.left with
    | nil => rw [hl] at hs; cases hs
    | cons x r => exact zni.2 (hA q h2 f hf s hs x (by rw [hl]; exact zn4 ..))
   simp only [zou] at this
   omega
  ·
   have := znZ (f := f) (pub := q.2) (rs := a.left) (rs' := ko f) fun s hs => mem_allR.2 (hi s hs)
   omega
theorem znI {α β : Type} [DecidableEq β] (P : β -> α -> Bool) (b : Int) (c : Int) (hc : 0 <= c) (hb : 0 <= b) : ∀ (ol : List β) (L : List α), (∀ t ∈ L, ∃ o ∈ ol, P o t = true) -> (∀ o ∈ ol, ((L.filter (P o)).length : Int) * c <= b) -> (L.length : Int) * c <= ol.length * b
 | [], L, h, _ => by
  cases L with
  | nil => simp
  | cons x r => obtain ⟨o, ho, _⟩ := h x (zn4 ..); cases ho
 | o :: r, L, h, h2 => by
  have h3 := znI P b c hc hb r (L.filter fun t => !P o t) (fun t ht => by
   obtain ⟨h4, h5⟩ := List.mem_filter.1 ht
   obtain ⟨o', ho', h6⟩ := h t h4
   rcases zng.1 ho' with rfl | ho'
   . rw [h6] at h5; cases h5
   . exact ⟨o', ho', h6⟩) (fun o' ho' => by
   have h7 := h2 o' (zn3 _ ho')
   have h8 : ((L.filter fun t => !P o t).filter (P o')).length <= (L.filter (P o')).length := by
    rw [List.filter_filter, show (L.filter fun a => P o' a && !P o a) = (L.filter (P o')).filter (fun a => !P o a) by rw [List.filter_filter]; congr 1; funext a; exact Bool.and_comm _ _]
    exact List.length_filter_le _ _
   have h9 : (((L.filter fun t => !P o t).filter (P o')).length : Int) * c <= ((L.filter (P o')).length : Int) * c := Int.mul_le_mul_of_nonneg_right (by omega) hc
   omega)
  have h10 := h2 o (zn4 ..)
  have h11 : (L.filter (P o)).length + (L.filter fun t => !P o t).length = L.length := by
   clear h h2 h3 h10
   induction L with
   | nil => rfl
   | cons x L ih => cases hp : P o x <;> simp [hp] <;> omega
  have h12 : (L.length : Int) * c = ((L.filter (P o)).length : Int) * c + ((L.filter fun t => !P o t).length : Int) * c := by rw [<- Int.add_mul]; congr 1; omega
  rw [h12, zns]
  have h13 : ((r.length + 1 : Nat) : Int) * b = r.length * b + b := by rw [Int.natCast_add, Int.add_mul]; simp
  omega
def zoo (r : Res) : Int := if r.code = 0 then 100 + r.answer % 65536 else r.code
def goN (t : Nn) (r : Res) : Option Int := t.next[((zoo r % 65536) % t.next.length).toNat]?
def trN (ps : List Fl) (T : List Nn) : Nat -> Ac -> Nat -> Int -> List Int
 | 0, _, _, _ => []
 | n + 1, a, i, s => match T[i]? with
  | none => []
  | some t => let r := zcI a ps t.q s
   r.code :: r.answer :: r.charge :: (if t.next = [] then [] else match goN t r with
    | none => []
    | some j => if j <= i then [] else trN ps T n (if r.code = 0 then r.ac else a) j.toNat s)
theorem znJ {α β : Type} {g : α -> β} {l : List α} (hn : l.Nodup) (hg : ∀ x ∈ l, ∀ y ∈ l, g x = g y -> x = y) : (l.map g).Nodup := by
 induction l with
 | nil => exact List.Pairwise.nil
 | cons x r ih =>
  rw [List.nodup_cons] at hn
  rw [List.map_cons, List.nodup_cons]
  refine ⟨fun h => ?_, ih hn.2 fun a ha b hb => hg a (zn3 _ ha) b (zn3 _ hb)⟩
  obtain ⟨y, hy, he⟩ := List.mem_map.1 h
  exact hn.1 (hg y (zn3 _ hy) x (zn4 ..) he ▸ hy)
theorem znE {α : Type} {L : List α} {x : α} (hn : L.Nodup) (h : ∀ t ∈ L, t = x) : L.length <= 1 := by
 match L, hn, h with
 | [], _, _ => exact znf _
 | [_], _, _ => exact zno _
 | a :: b :: r, hn, h => exact absurd ((h a (by simp)).trans (h b (by simp)).symm) (fun e => (List.nodup_cons.1 hn).1 (by simp [e]))
theorem zoc {a : Ac} {ps : List Fl} {q : Qu} {s t : Int} (hs : s ∈ a.left) (ht : t ∈ a.left) : (zcI a ps q s).code = (zcI a ps q t).code /\ (zcI a ps q s).charge = (zcI a ps q t).charge /\ ((zcI a ps q s).code ≠ 0 -> zcI a ps q s = zcI a ps q t) := by
 unfold zcI
 by_cases h : xC a ps q = 0
 ·
  simp only [h, hs, ht, ne_eq, not_true_eq_false, if_false]
  cases zcH ps q.1 with
  | none => exact ⟨rfl, rfl, fun _ => rfl⟩
  | some f =>
   simp only
   split
   . exact ⟨rfl, rfl, fun _ => rfl⟩
   . exact ⟨rfl, rfl, fun h => absurd O h⟩
 ·
  rw [znb h, znb h]
  exact ⟨rfl, rfl, fun _ => rfl⟩
theorem zo0 {l : List Ob} {o p : Ob} (ho : o ∈ l) (hp : p ∈ l) (h : zhQ l o = zhQ l p) : o = p := by
 unfold zhQ at h
 rw [znb ho, znb hp] at h
 have h1 : ∀ o, o ∈ l -> l[l.findIdx (fun x => decide (x = o))]? = some o := fun o ho => by
  have hlt : l.findIdx (fun x => decide (x = o)) < l.length := List.findIdx_lt_length_of_exists ⟨o, ho, by simp⟩
  rw [zn0 hlt]
  have := List.findIdx_getElem (w := hlt)
  simpa using this
 have h2 := h1 o ho
 rw [show l.findIdx (fun x => decide (x = o)) = l.findIdx (fun x => decide (x = p)) by omega, h1 p hp] at h2
 exact (Option.some.inj h2).symm
theorem zoj (ps : List Fl) (T : List Nn) : ∀ (n : Nat) (a : Ac) (i : Nat) (L : List (List Int)), ValidA a -> Agree ps a -> L.Nodup -> (∀ t ∈ L, ∃ s ∈ a.left, t = trN ps T n a i s) -> (L.length : Int) * a.spent <= a.budget
 | 0, a, i, L, hv, _, hn, h => by
  have h1 := znE (x := []) hn fun t ht => by obtain ⟨s, _, e⟩ := h t ht; exact e
  have h2 : (L.length : Int) * a.spent <= 1 * a.spent := Int.mul_le_mul_of_nonneg_right (by omega) (by have := hv.s1; omega)
  have := hv.s2
  omega
 | n + 1, a, i, L, hv, hA, hn, h => by
  have hs1 := hv.s1
  have hs2 := hv.s2
  have hone : L.length <= 1 -> (L.length : Int) * a.spent <= a.budget := fun h1 => by
   have h2 : (L.length : Int) * a.spent <= 1 * a.spent := Int.mul_le_mul_of_nonneg_right (by omega) (by omega)
   omega
  cases ht : T[i]? with
  | none => exact hone (znE (x := []) hn fun t ht' => by obtain ⟨s, _, e⟩ := h t ht'; rw [e, trN, ht])
  | some t =>
   have htr : ∀ s, trN ps T (n + 1) a i s = (zcI a ps t.q s).code :: (zcI a ps t.q s).answer :: (zcI a ps t.q s).charge :: (if t.next = [] then [] else match goN t (zcI a ps t.q s) with
    | none => []
    | some j => if j <= i then [] else trN ps T n (if (zcI a ps t.q s).code = 0 then (zcI a ps t.q s).ac else a) j.toNat s) := fun s => by rw [trN, ht]
   obtain ⟨s0, hs0⟩ : ∃ s, s ∈ a.left := ⟨a.left[0]'hv.l1, List.getElem_mem _⟩
   by_cases hc : (zcI a ps t.q s0).code = 0
   ·
    obtain ⟨f, hf, hq, _, hp, _⟩ := znY hc (fun i hg => by
     by_cases hi : i = 0
     ·
      left
      intro e
      obtain ⟨_, f, hf, _⟩ := zcJ (e.trans hi)
      rw [hg] at hf; cases hf
     ·
      exact .inr hi)
    obtain ⟨_, f', hf', _, _, hin⟩ := zcJ hq
    rw [hf] at hf'
    cases hf'
    have hr : ∀ s ∈ a.left, zcI a ps t.q s = ziB a f t.q s := fun s hs => by
     unfold zcI
     rw [zna (znm hq), zna (znm hs), hf]
     simp only
     rw [zna (by omega)]
    have hpp := zaL (q := t.q) hv hin
    have hge := zob hf hin hA
    have hparts := znI (fun (o : Ob) (u : List Int) => decide (u[1]? = some (zhQ (ze2 f t.q.2 (ko f)) o))) a.budget (a.spent * zK a f t.q) (znu (by omega) (by omega)) (by have := hv.b1; omega) (ze2 f t.q.2 a.left) L (fun u hu => by
     obtain ⟨s, hs, rfl⟩ := h u hu
     refine ⟨obN f t.q.2 s, zgJ hs, ?_⟩
     rw [htr, hr s hs]
     simp [ziB]) (fun o ho => by
     obtain ⟨so, hso, hoe⟩ := List.mem_map.1 (mem_distO.1 ho)
     have hval : ValidA (zaZ a f t.q (zK a f t.q) o) := hoe ▸ hv.ans hso hin hp
     have hL : ∀ u ∈ L.filter (fun u => decide (u[1]? = some (zhQ (ze2 f t.q.2 (ko f)) o))), ∃ s ∈ a.left, obN f t.q.2 s = o /\ u = trN ps T (n + 1) a i s := fun u hu => by
      obtain ⟨h1, h2⟩ := List.mem_filter.1 hu
      obtain ⟨s, hs, rfl⟩ := h u h1
      refine ⟨s, hs, ?_, rfl⟩
      have h2 := of_decide_eq_true h2
      rw [htr, hr s hs] at h2
      have h3 : zhQ (ze2 f t.q.2 (ko f)) (obN f t.q.2 s) = zhQ (ze2 f t.q.2 (ko f)) o := by simpa [ziB] using h2
      exact zo0 (zgJ (mem_allR.2 (hin s hs))) (hoe ▸ zgJ (mem_allR.2 (hin so hso))) h3
     have hnL : (L.filter (fun u => decide (u[1]? = some (zhQ (ze2 f t.q.2 (ko f)) o)))).Nodup := hn.filter _
     generalize L.filter (fun u => decide (u[1]? = some (zhQ (ze2 f t.q.2 (ko f)) o))) = M at hL hnL ⊢
     have hdrop : ∀ s ∈ a.left, obN f t.q.2 s = o -> trN ps T (n + 1) a i s = [0, zhQ (ze2 f t.q.2 (ko f)) o, zK a f t.q] ++ (trN ps T (n + 1) a i s).drop 3 := fun s hs he => by
      rw [htr, hr s hs, <- he]
      simp [ziB]
     have hnM : (M.map (List.drop 3)).Nodup := znJ hnL fun u hu v hv' e => by
      obtain ⟨s, hs, h1, rfl⟩ := hL u hu
      obtain ⟨s', hs', h1', rfl⟩ := hL v hv'
      rw [hdrop s hs h1, hdrop s' hs' h1', e]
     have hrest : ∀ s ∈ a.left, obN f t.q.2 s = o -> (trN ps T (n + 1) a i s).drop 3 = (if t.next = [] then [] else match t.next[(((100 + zhQ (ze2 f t.q.2 (ko f)) o % 65536) % 65536) % t.next.length).toNat]? with
       | none => []
       | some j => if j <= i then [] else trN ps T n (zaZ a f t.q (zK a f t.q) o) j.toNat s) := fun s hs he => by
      rw [htr, hr s hs]
      simp only [List.drop_succ_cons, List.drop_zero, ziB, if_true, he, goN, zoo]
     have hfin : (((M.map (List.drop 3)).length : Nat) : Int) * (zaZ a f t.q (zK a f t.q) o).spent <= (zaZ a f t.q (zK a f t.q) o).budget := by
      have hd : (∃ x, ∀ s ∈ a.left, obN f t.q.2 s = o -> (trN ps T (n + 1) a i s).drop 3 = x) \/ ∃ j : Nat, ∀ s ∈ a.left, obN f t.q.2 s = o -> (trN ps T (n + 1) a i s).drop 3 = trN ps T n (zaZ a f t.q (zK a f t.q) o) j s := by
       by_cases hx : t.next = []
       . exact .inl ⟨[], fun s hs he => by rw [hrest s hs he, znb hx]⟩
       ·
        cases hj : t.next[(((100 + zhQ (ze2 f t.q.2 (ko f)) o % 65536) % 65536) % t.next.length).toNat]? with
        | none => exact .inl ⟨[], fun s hs he => by rw [hrest s hs he, zna hx, hj]⟩
        | some j =>
         by_cases hji : j <= i
         . exact .inl ⟨[], fun s hs he => by rw [hrest s hs he, zna hx, hj]; simp only; rw [znb hji]⟩
         . exact .inr ⟨j.toNat, fun s hs he => by rw [hrest s hs he, zna hx, hj]; simp only; rw [zna hji]⟩
      rcases hd with ⟨x, hx⟩ | ⟨j, hj⟩
      ·
       have h1 := znE (x := x) hnM fun u hu => by
        obtain ⟨v, hv', rfl⟩ := List.mem_map.1 hu
        obtain ⟨s, hs, he, rfl⟩ := hL v hv'
        exact hx s hs he
       have h2 : (((M.map (List.drop 3)).length : Nat) : Int) * (zaZ a f t.q (zK a f t.q) o).spent <= 1 * (zaZ a f t.q (zK a f t.q) o).spent := Int.mul_le_mul_of_nonneg_right (by omega) (by have := hval.s1; omega)
       have := hval.s2
       omega
      ·
       refine zoj ps T n _ j _ hval (hA.ans hf) hnM fun u hu => ?_
       obtain ⟨v, hv', rfl⟩ := List.mem_map.1 hu
       obtain ⟨s, hs, he, rfl⟩ := hL v hv'
       exact ⟨s, List.mem_filter.2 ⟨hs, znc he⟩, hj s hs he⟩
     rw [znk] at hfin
     exact hfin)
    have h1 : ((ze2 f t.q.2 a.left).length : Int) * a.budget <= zK a f t.q * a.budget := Int.mul_le_mul_of_nonneg_right hge (by have := hv.b1; omega)
    have h2 : (L.length : Int) * (a.spent * zK a f t.q) = zK a f t.q * ((L.length : Int) * a.spent) := by
     rw [<- Int.mul_assoc, Int.mul_comm]
    rw [h2] at hparts
    exact Int.le_of_mul_le_mul_left (Int.le_trans hparts h1) (by omega)
   ·
    have hr : ∀ s ∈ a.left, zcI a ps t.q s = zcI a ps t.q s0 := fun s hs => ((zoc hs0 hs).2.2 hc).symm
    have hpre : ∀ s ∈ a.left, trN ps T (n + 1) a i s = [(zcI a ps t.q s0).code, (zcI a ps t.q s0).answer, (zcI a ps t.q s0).charge] ++ (trN ps T (n + 1) a i s).drop 3 := fun s hs => by
     rw [htr, hr s hs]; simp
    have hnM : (L.map (List.drop 3)).Nodup := znJ hn fun u hu v hv' e => by
     obtain ⟨s, hs, rfl⟩ := h u hu
     obtain ⟨s', hs', rfl⟩ := h v hv'
     rw [hpre s hs, hpre s' hs', e]
    have hrest : ∀ s ∈ a.left, (trN ps T (n + 1) a i s).drop 3 = (if t.next = [] then [] else match goN t (zcI a ps t.q s0) with
       | none => []
       | some j => if j <= i then [] else trN ps T n a j.toNat s) := fun s hs => by
     rw [htr, hr s hs]
     simp only [List.drop_succ_cons, List.drop_zero, zna hc]
    have hd : (∃ x, ∀ s ∈ a.left, (trN ps T (n + 1) a i s).drop 3 = x) \/ ∃ j : Nat, ∀ s ∈ a.left, (trN ps T (n + 1) a i s).drop 3 = trN ps T n a j s := by
     by_cases hx : t.next = []
     . exact .inl ⟨[], fun s hs => by rw [hrest s hs, znb hx]⟩
     ·
      cases hj : goN t (zcI a ps t.q s0) with
      | none => exact .inl ⟨[], fun s hs => by rw [hrest s hs, zna hx, hj]⟩
      | some j =>
       by_cases hji : j <= i
       . exact .inl ⟨[], fun s hs => by rw [hrest s hs, zna hx, hj]; simp only; rw [znb hji]⟩
       . exact .inr ⟨j.toNat, fun s hs => by rw [hrest s hs, zna hx, hj]; simp only; rw [zna hji]⟩
    rw [<- znk (List.drop 3)]
    rcases hd with ⟨x, hx⟩ | ⟨j, hj⟩
    ·
     have h1 := znE (x := x) hnM fun u hu => by
      obtain ⟨v, hv', rfl⟩ := List.mem_map.1 hu
      obtain ⟨s, hs, rfl⟩ := h v hv'
      exact hx s hs
     have h2 : (((L.map (List.drop 3)).length : Nat) : Int) * a.spent <= 1 * a.spent := Int.mul_le_mul_of_nonneg_right (by omega) (by omega)
     omega
    ·
     refine zoj ps T n a j _ hv hA hnM fun u hu => ?_
     obtain ⟨v, hv', rfl⟩ := List.mem_map.1 hu
     obtain ⟨s, hs, rfl⟩ := h v hv'
     exact ⟨s, hs, hj s hs⟩
theorem zo1 (f : Fl) (hlen : f.vars.length <= 1000000) (v1 v2 v3 : Value) (D : Nat -> Prop) (W : World) (hf : RFl D W f v1 v2 v3) : Calls Tryz.prog 43 #[.agg #[v1, v2, v3]] W (Ret fun r w' => r = .bool (decide (zd 3 f.vars ≠ [])) /\ Ext W w') := by
 refine zlq Tryz.func43 O Tryz.ntmps43 O (zlC ?_)
 refine Vs 2 O ?_
 refine V.box 1 O O (fun b1 => ?_)
 refine Vs 7 O ?_
 refine zlV Tryz.call72 O (fun w hI => zbJ f.vars 3 v1 D w (Tr1 hI.k0 hf.vars) hlen) ?_
 rintro l w1 w2 hI1 hk12 hos hlow
 obtain ⟨al, cl, rfl⟩ := hos.form
 refine Vs 6 O ?_
 refine zjI Tryz.results43 O (fun w hI => ⟨_, rfl, by rw [znr.2 (show (0 : Int) < ((zd 3 f.vars).length : Int) ↔ zd 3 f.vars ≠ [] by rw [<- List.length_pos_iff]; omega)], hI.k1⟩)
theorem zji (f : Fl) (vd : Valid f) (v1 v2 v3 : Value) (D : Nat -> Prop) (W : World) (hf : RFl D W f v1 v2 v3) : Calls Tryz.prog 33 #[.agg #[v1, v2, v3]] W (Ret fun r w' => r = .int .i64 (spN f) /\ Ext W w') := by
 have hl := vd.lens
 have hsp : (zk 1 f.vars).getD 0 = (spN f : Int) := by
  unfold spN
  cases h : zk 1 f.vars with
  | none => rfl
  | some m =>
   have := ym 1 f.vars 1 m vd.good (by omega) (by omega) h
   simp only [Option.getD_some]
   omega
 refine zlq Tryz.func33 O Tryz.ntmps33 O (zlC ?_)
 refine Vs 2 O ?_
 refine V.box 1 O O (fun b1 => ?_)
 refine Vs 7 O ?_
 refine zlT Tryz.call66 O (fun w hI => zdo f.vars 1 v1 D w (by decide) vd.good (by omega) (Tr1 hI.k0 hf.vars)) ?_
 refine Vs 14 O ?_
 refine zjI Tryz.results33 O (fun w hI => ⟨_, rfl, by rw [hsp], hI.k0⟩)
structure CaseOk (ps : List Fl) (qs_q : List Qu) (n : Int) : Prop where
 ps1 : 1 <= ps.length
 ps4 : ps.length <= 4
 qs8 : qs_q.length <= 8
 q20 : ∀ q ∈ qs_q, q.2.length <= 20
 sz : ∀ f ∈ ps, SzOk f
 an : ∀ f ∈ ps, za0 f = 0
 sp : ∀ f ∈ ps, (spN f : Int) = n
theorem znV (ps : List Fl) (qs_q : List Qu) (m b : Int) (pv qv : Value) (D1 D2 : Nat -> Prop) (W : World) (hps : SlR 3 RPg D1 W pv ps) (hqs : SlR 2 RQu D2 W qv qs_q) :
  Calls Tryz.prog 13 #[.agg #[.int .i64 m, .int .i64 b, pv, qv]] W (Ret fun r w' => (∃ (n : Int) (ok : Bool), r = .tuple #[.int .i64 n, .bool ok] /\ (ok = true -> CaseOk ps qs_q n)) /\ Ext W w') := by
 obtain ⟨ap, cp, rfl⟩ := hps.form
 obtain ⟨aq, cq, rfl⟩ := hqs.form
 have hmp := hps.max
 have hmq := hqs.max
 refine zlq Tryz.func13 O Tryz.ntmps13 O (zlC ?_)
 refine Vs 2 O ?_
 refine V.box 1 O O (fun b1 => ?_)
 refine Vs 5 O ?_
 refine zm6 (σ := Unit) [1] [1] [1] O (fun e u => e) (fun e u => e) (fun u => (1 <= ps.length /\ qs_q.length <= 8) /\ ps.length <= 4 /\ ∀ f ∈ ps, SzOk f) (fun _ => rfl) (fun _ => rfl) ?_ ?_
 ·
  refine Vs 7 O ?_
  refine zld 13 O (fun p0 => ?_) (fun p0 => ?_)
  ·
   refine Vs 24 O ?_
   refine zjL Tryz.results13 O O (fun w hI => ⟨_, rfl, ⟨_, _, rfl, fun h => by cases h⟩, hI.k0⟩)
  ·
   refine Vs 6 O ?_
   refine zld 19 O (fun p1 => ?_) (fun p1 => ?_)
   ·
    refine Vs 18 O ?_
    refine zjL Tryz.results13 O O (fun w hI => ⟨_, rfl, ⟨_, _, rfl, fun h => by cases h⟩, hI.k0⟩)
   ·
    refine zme [Value.int IntKind.i64 0, Value.int IntKind.i64 0, Value.int IntKind.i64 0, Value.slice none 0 0, Value.slice none 0 0] [(0, 1), (1, 1), (2, 1), (3, 1), (4, 1)] [] O O (fun _ => by kernel_rfl) ?_
    refine Vs 2 O ?_
    refine zlV Tryz.call19 O (fun w hI => zgW ac0 ps 0 0 0 _ _ _ (fun _ => True) D1 w ⟨SlR.nil, SlR.nil⟩ (Tr1 hI.k0 hps)) ?_
    rintro rr w1 w2 hI1 hk12 ⟨b0, rfl, hb0⟩ hlow
    refine zlh O (fun w hI => zkJ O (by first | exact za | rfl)) ?_
    refine Vs 3 O ?_
    refine V.bool O (fun q1 => ?_) (fun q1 => ?_)
    ·
     refine Vs 9 O ?_
     refine zjL Tryz.results13 O O (fun w hI => ⟨_, rfl, ⟨_, _, rfl, fun h => by cases h⟩, hI.k1⟩)
    ·
     have hb := hb0 (by simpa using q1)
     refine Vs 1 O ?_
     refine zjE (()) (zkZ O) (zl0 O) (⟨⟨by omega, by omega⟩, hb.1, hb.2.2.2⟩) 1 O O
 rintro u ⟨⟨hp1, hq8⟩, hp4, hz⟩
 refine Vs 16 O ?_
 refine zm5 (σ := Nat × Int) [1, 27, 28] [1] [1] O (fun e ⟨i, n⟩ => (29, .int .i64 i) :: (4, .int .i64 n) :: e) (fun e ⟨i, n⟩ => e) (fun ⟨i, n⟩ => StIn ps i n) (fun ⟨i, n⟩ => ps.length - i) ((0, 0)) (zkZ O) (zl0 O) (fun _ => rfl) (fun _ => rfl) (fun _ => rfl) (⟨znf _, fun j f h => absurd h (Nat.not_lt_zero _)⟩) ?_
 rintro ⟨i, n⟩ hin
 show V _ _ _ _ _ ((29, .int .i64 i) :: (4, .int .i64 n) :: _) _ (_) _
 have hile := hin.le
 refine Vs 6 O ?_
 refine zjo O (fun hlt => ?_) (fun hlt => ?_)
 ·
  refine Vs 7 O ?_
  obtain ⟨f, he_f, hm_f⟩ := gE_ ps (i) (by omega)
  obtain ⟨b_f, o_f, c_f, ha_f, _, hc_f, hR_f⟩ := hps.at he_f
  obtain ⟨v1_f, v2_f, v3_f, rfl, hf_f⟩ := hR_f
  obtain ⟨a1_f, n1_f, rfl⟩ := hf_f.vars.form
  obtain ⟨a2_f, n2_f, rfl⟩ := hf_f.hatches.form
  obtain ⟨a3_f, n3_f, rfl⟩ := hf_f.body.form
  refine zm1 1000 0 O O hc_f ?_
  refine zlK 1000 tR23 ts56 O ha_f (by omega) (_) (rfl) O ?_
  have hzf := hz f hm_f
  refine Vs 1 O ?_
  refine V.alloc 6 tz56 O O (fun b6 => ?_)
  refine Vs 8 O ?_
  refine zlT Tryz.call42 O (fun w hI => jd f _ _ _ D1 w (Tr1 hI.k0 hf_f) hzf.size hzf.bulk) ?_
  refine Vs 2 O ?_
  refine zld 37 O (fun c0 => ?_) (fun c0 => ?_)
  ·
   refine Vs 29 O ?_
   refine zjL Tryz.results13 O O (fun w hI => ⟨_, rfl, ⟨_, _, rfl, fun h => by cases h⟩, hI.k0⟩)
  ·
   have c0 := zn9.1 c0
   have vd := zj1 hzf c0
   have hvl := vd.lens
   refine Vs 1 O ?_
   refine zlT Tryz.call43 O (fun w hI => zo1 f (by omega) _ _ _ D1 w (Tr1 hI.k0 hf_f)) ?_
   refine Vs 2 O ?_
   refine zld 41 O (fun c1 => ?_) (fun c1 => ?_)
   ·
    refine Vs 25 O ?_
    refine zjL Tryz.results13 O O (fun w hI => ⟨_, rfl, ⟨_, _, rfl, fun h => by cases h⟩, hI.k0⟩)
   ·
    have ha : za0 f = 0 := by unfold za0; rw [zna (znm c0), zna c1]
    refine Vs 3 O ?_
    refine zld 44 O (fun c2 => ?_) (fun c2 => ?_)
    ·
     refine Vs 1 O ?_
     refine zlT Tryz.call33 O (fun w hI => zji f vd _ _ _ D1 w (Tr1 hI.k0 hf_f)) ?_
     refine Vs 6 O ?_
     refine zjo O (fun c3 => ?_) (fun c3 => ?_)
     ·
      refine Vs 13 O ?_
      refine zjL Tryz.results13 O O (fun w hI => ⟨_, rfl, ⟨_, _, rfl, fun h => by cases h⟩, hI.k0⟩)
     ·
      refine Vs 4 O ?_
      refine zlT Tryz.call33 O (fun w hI => zji f vd _ _ _ D1 w (Tr1 hI.k0 hf_f)) ?_
      have hnx := hin.next he_f ha (fun _ => by omega)
      refine Va 8 O (by omega) ?_
      refine zjz (⟨i + 1, (spN f : Int)⟩) (zkZ O) (zl0 O) (hnx) (by first | omega | (dsimp only; omega)) 0 O O
    ·
     refine Vs 13 O ?_
     refine zlT Tryz.call33 O (fun w hI => zji f vd _ _ _ D1 w (Tr1 hI.k0 hf_f)) ?_
     have hnx := hin.next he_f ha (fun h => by omega)
     refine Va 8 O (by omega) ?_
     refine zjz (⟨i + 1, (spN f : Int)⟩) (zkZ O) (zl0 O) (hnx) (by first | omega | (dsimp only; omega)) 0 O O
 ·
  obtain rfl : i = ps.length := by omega
  refine Vs 15 O ?_
  refine zm5 (σ := Nat) [4, 55, 56] [] [] O (fun e j => (57, .int .i64 j) :: e) (fun e j => e) (fun j => j <= qs_q.length /\ ∀ k q, k < j -> qs_q[k]? = some q -> q.2.length <= 20) (fun j => qs_q.length - j) (0) (zkZ O) (zl0 O) (fun _ => rfl) (fun _ => rfl) (fun _ => rfl) (⟨znf _, fun k q h => absurd h (Nat.not_lt_zero _)⟩) ?_
  rintro j ⟨hj, hall⟩
  refine Vs 6 O ?_
  refine zjo O (fun hlt2 => ?_) (fun hlt2 => ?_)
  ·
   refine Vs 6 O ?_
   obtain ⟨q, he_q, hm_q⟩ := gE_ qs_q (j) (by omega)
   obtain ⟨b_q, o_q, c_q, ha_q, _, hc_q, hR_q⟩ := hqs.at he_q
   obtain ⟨v1_q, rfl, hs_q⟩ := hR_q
   obtain ⟨a1_q, n1_q, rfl⟩ := hs_q.form
   refine zm1 2000 0 O O hc_q ?_
   refine zlK 2000 tR24 ts33 O ha_q (by omega) (_) (rfl) O ?_
   refine Vs 1 O ?_
   refine V.alloc 8 tz33 O O (fun b8 => ?_)
   refine Vs 11 O ?_
   refine zjo O (fun c0 => ?_) (fun c0 => ?_)
   ·
    refine Vs 12 O ?_
    refine zjL Tryz.results13 O O (fun w hI => ⟨_, rfl, ⟨_, _, rfl, fun h => by cases h⟩, hI.k0⟩)
   ·
    have hnx : j + 1 <= qs_q.length /\ ∀ k q, k < j + 1 -> qs_q[k]? = some q -> q.2.length <= 20 := ⟨by omega, fun k q' hk hq' => by
     by_cases e : k = j
     ·
      subst e
      rw [he_q] at hq'
      cases hq'
      omega
     ·
      exact hall k q' (by omega) hq'⟩
    refine Va 7 O (by omega) ?_
    refine zjz (j + 1) (zkZ O) (zl0 O) (hnx) (by first | omega | (dsimp only; omega)) 0 O O
  ·
   obtain rfl : j = qs_q.length := by omega
   have hres : CaseOk ps qs_q n := ⟨hp1, hp4, hq8, fun q hq => by
    obtain ⟨k, hk⟩ := List.mem_iff_getElem?.1 hq
    exact hall k q (zne.1 hk).1 hk, hz, fun f hf => by
    obtain ⟨k, hk⟩ := List.mem_iff_getElem?.1 hf
    exact (hin.ok k f (zne.1 hk).1 hk).1, fun f hf => by
    obtain ⟨k, hk⟩ := List.mem_iff_getElem?.1 hf
    exact (hin.ok k f (zne.1 hk).1 hk).2⟩
   refine Vs 13 O ?_
   refine zjL Tryz.results13 O O (fun w hI => ⟨_, rfl, ⟨_, _, rfl, fun _ => hres⟩, hI.k0⟩)
open Go.GL Go.ChangeShapes Go.WideShapes Go.ChangeAt Go.RowKit
section
variable {H : Type} {enc : TypeId × Value -> H} {w : World} {base : Nat} {sp : Nat -> Bool} {held : Bool}
theorem wtB.field {P : Program} {t : TypeId} {fs : Array Field} {parts : List (DataW H)} (h : wtB P t (.agg parts)) (ht : P.underlying t = some (.struct fs)) {i : Nat} {f : Field} {d : DataW H} (hf : fs[i]? = some f) (hd : parts[i]? = some d) : wtB P f.type d := fun n hn => by
 refine h n ?_
 rw [DataW.weights, ht]
 exact DataW.weights_mem_each (j := i) (by simp [hf]) hd n hn
theorem zo2 {P : Program} {fs : Array Field} {m : Nat} {cs : List Value} {xs : List (DataW H × List MemPlace)} (hx : xs.length = fs.size) (hat : ∀ (i : Nat) (f : Field), fs[i]? = some f -> DataW.trod enc P w base sp held m f.type ((cs.drop f.offset).take (P.cellsOf f.type)) = xs[i]?) (i : Nat) {f : Field} (hf : fs[i]? = some f) {c : Nat} (hc : P.cellsOf f.type = c) :
  ∃ y, DataW.trod enc P w base sp held m f.type ((cs.drop f.offset).take c) = some y /\ (xs.map (·.1))[i]? = some y.1 := by
 have h := hat i f hf
 have hi := (Array.getElem?_eq_some_iff.1 hf).1
 rw [zn0 (show i < xs.length by omega), hc] at h
 exact ⟨_, h, by rw [znh, zn0 (show i < xs.length by omega)]; rfl⟩
set_option maxRecDepth 100000 in
theorem zok (k : Nat) (cs : List Value) (x : DataW H × List MemPlace) (h : DataW.trod enc Tryz.prog w base sp held k 33 cs = some x) : ∃ t, RQu (fun _ => True) w t cs /\ (wtB Tryz.prog 33 x.1 -> t.2.length <= 17592186044416) := by
 obtain ⟨xs, m, hk, rfl, hl, hx, hat⟩ := DataW.trod_struct Tryz.underlying33 h
 rw [show Tryz.prog.cellsOf 33 = 2 by kernel_rfl] at hl
 match cs, hl with
 | [c0, c1], _ =>
  obtain ⟨y0, h0⟩ := zH hx hat 0 rfl (c := 1) (by kernel_rfl)
  obtain ⟨y1, h1, hy1⟩ := zo2 hx hat 1 rfl (c := 1) (by kernel_rfl)
  obtain ⟨n0, e0, _⟩ := DataW.trod_int tu3 h0
  obtain ⟨v1, l1, e1, hs1, hs2⟩ := zhr (fun _ => True) tu31 zgk (by decide) (fun _ _ _ _ _ => trivial) (fun n cs y _ hy => zhs tu3 hy) h1
  simp at e0 e1
  subst e0; subst e1
  refine ⟨(n0, l1), ⟨_, rfl, hs1⟩, fun hB => ?_⟩
  rcases hs2 with e | ⟨es, rs, e1, e2⟩
  . rw [e]; exact znf _
  ·
   have hb1 := hB.field (i := 1) Tryz.underlying33 rfl hy1
   rw [e1] at hb1
   have := (hb1.slice tu31).1
   rw [show Tryz.prog.bytesOf 3 = 8 by kernel_rfl, e2] at this
   have h3 : reachBytes < 2 ^ 47 := reachBytes_lt
   show l1.length <= 17592186044416
   omega
set_option maxRecDepth 100000 in
theorem zo3 {r : Reach} {b0 : Nat} {v : Value} {d : DataW H} {ps : List MemPlace} (hval : Value.okWide Tryz.prog w r b0 26 v) (hd : DataW.Trod enc Tryz.prog w base sp held 26 v d ps) :
  ∃ (m b : Int) (fs : List Fl) (qs_q : List Qu) (u1 u2 : Value), v = .agg #[.int .i64 m, .int .i64 b, u1, u2] /\ SlR 3 RPg (fun _ => True) w u1 fs /\ SlR 2 RQu (fun _ => True) w u2 qs_q := by
 unfold Value.okWide at hval
 rw [Tryz.underlying26] at hval
 obtain ⟨cs, rfl, hsz, _⟩ := hval
 obtain ⟨k, hn⟩ := hd
 obtain ⟨xs, m, hk, _, hl, hx, hat⟩ := DataW.trod_struct Tryz.underlying26 hn
 rw [show Tryz.prog.cellsOf 26 = 4 by kernel_rfl] at hl
 obtain ⟨l⟩ := cs
 match l, hl with
 | [c0, c1, c2, c3], _ =>
  obtain ⟨y0, h0⟩ := zH hx hat 0 rfl (c := 1) (by kernel_rfl)
  obtain ⟨y1, h1⟩ := zH hx hat 1 rfl (c := 1) (by kernel_rfl)
  obtain ⟨y2, h2⟩ := zH hx hat 2 rfl (c := 1) (by kernel_rfl)
  obtain ⟨y3, h3⟩ := zH hx hat 3 rfl (c := 1) (by kernel_rfl)
  obtain ⟨n0, e0, _⟩ := DataW.trod_int Tryz.underlying22 h0
  obtain ⟨n1, e1, _⟩ := DataW.trod_int tu3 h1
  obtain ⟨v2, l2, e2, hs2⟩ := zdD Tryz.underlying23 (show Tryz.prog.cellsOf 56 = 3 by kernel_rfl) (by decide) (fun n cs y h => zie n cs y h) h2
  obtain ⟨v3, l3, e3, hs3⟩ := zdD tu24 (show Tryz.prog.cellsOf 33 = 2 by kernel_rfl) (by decide) (fun n cs y h => (zok n cs y h).imp fun _ h => h.1) h3
  simp [Value.cells] at e0 e1 e2 e3
  subst e0; subst e1; subst e2; subst e3
  exact ⟨_, _, l2, l3, _, _, rfl, hs2, hs3⟩
end
theorem zod {n : Int} (h : (Lit.int .u8 n).wf = true) : 0 <= n /\ n <= 255 := by
 have h1 := of_decide_eq_true (Bool.and_eq_true_iff.1 h).1
 have h2 := of_decide_eq_true (Bool.and_eq_true_iff.1 h).2
 exact ⟨h1, h2⟩
open Go.GL
structure TrB (b : Ac) (m : Nat) : Prop where
 ll : b.left.length <= 5000
 al : b.asked.length <= m
 ql : ∀ p ∈ b.asked, p.2.length <= 17592186044416
theorem TrB.ask {b : Ac} {m : Nat} (h : TrB b m) (ps : List Fl) (q : Qu) (s : Int) (hq : q.2.length <= 20) (hc : (zcI b ps q s).code = 0) : TrB (zcI b ps q s).ac (m + 1) := by
 have h0 : TrB ac0 (m + 1) := ⟨by decide, znf _, fun p hp => by cases hp⟩
 unfold zcI at hc ⊢
 split at hc
 ·
  rename_i h1
  exact absurd hc h1
 ·
  rename_i h1
  rw [zna h1]
  split at hc
  . cases hc
  ·
   rename_i h2
   rw [zna h2]
   cases hg : zcH ps q.1 with
   | none => exact h0
   | some f =>
    rw [hg] at hc
    simp only at hc ⊢
    split at hc
    . cases hc
    ·
     rename_i h3
     rw [zna h3]
     refine ⟨zn6 (List.length_filter_le _ _) h.ll, ?_, fun p hp => ?_⟩
     ·
      show (if q ∈ b.asked then b.asked else b.asked ++ [q]).length <= _
      have := h.al
      split
      . omega
      . simp; omega
     ·
      have hp : p ∈ (if q ∈ b.asked then b.asked else b.asked ++ [q]) := hp
      split at hp
      . exact h.ql p hp
      ·
       rcases znj.1 hp with hp | hp
       . exact h.ql p hp
       . rw [zni.1 hp]; omega
theorem TrB.up {b : Ac} {m k : Nat} (h : TrB b m) (hk : m <= k) : TrB b k := ⟨h.ll, zn6 h.al hk, h.ql⟩
end Go.Proofs.YtbkhagigkglgoaaGreatDoor
namespace Go.GL
section
variable {P : Program} {env : Env} {w : World} {dst : Option Tmp} {ty : TypeId} {pos : String} {aft : Array Edge} {g : Option (Nat × Bool)}
theorem zoq {s d : TypeId} {ks kd : IntKind} {m : Int} {x : Operand} (hs : P.underlying s = some (.int ks)) (hd : P.underlying d = some (.int kd)) (hw : kd.wrap m = m) (hx : ev env x = some (.int ks m)) : yo P ⟨dst, .convert s d x, ty, pos, aft, g⟩ env w (.int kd m) w :=
 zmL hx (by simp [convert, run_underlying hs, run_underlying hd, Conv.intToInt, hw, Result.andThen])
end
end Go.GL
namespace Go.Proofs.YtbkhagigkglgoaaGreatDoor
open Go.GL
theorem znA {m b n : Int} (h : zge m b n = 0) : (m = 0 \/ m = 1) /\ 1 <= b /\ b <= 1048576 /\ 1 <= n /\ n <= 4096 := by
 unfold zge at h
 split at h
 . cases h
 ·
  rename_i h1
  split at h
  . cases h
  . exact ⟨zn9.1 h1, by omega⟩
theorem znO {m b n : Int} (h : zge m b n = 0) : zgf m b n = ⟨m, b, 1, qE n.toNat, []⟩ := znb h
theorem mem_rangeL {n : Nat} {x : Int} : x ∈ qE n ↔ 0 <= x /\ x < (n : Int) := by
 unfold qE
 rw [List.mem_map]
 constructor
 ·
  rintro ⟨i, hi, rfl⟩
  rw [List.mem_range] at hi
  omega
 ·
  intro h
  exact ⟨x.toNat, List.mem_range.2 (by omega), by omega⟩
theorem znW (n : Nat) : (qE n).Pairwise (· < ·) := by
 unfold qE
 rw [List.pairwise_map]
 exact List.pairwise_lt_range.imp fun h => by omega
structure RunA (ps : List Fl) (a : Ac) (k : Nat) : Prop where
 ok : ValidA a
 ag : Agree ps a
 tr : TrB a k
theorem zor {m b n : Int} (ps : List Fl) (h : zge m b n = 0) : RunA ps (zgf m b n) 0 := by
 obtain ⟨h1, h2, h3, h4, h5⟩ := znA h
 rw [znO h]
 have hl := zeH n.toNat
 exact ⟨⟨h1, h2, h3, Int.le_refl _, h2, by rw [hl]; omega, by rw [hl]; omega, fun x hx => by have := mem_rangeL.1 hx; omega, znW _⟩, fun q hq => by (cases hq), ⟨by rw [hl]; omega, zno _, fun q hq => by (cases hq)⟩⟩
theorem zny {ps : List Fl} {a : Ac} {q : Qu} {s : Int} (h : (zcI a ps q s).code = 0) : ∃ f, zcH ps q.1 = some f /\ xC a ps q = 0 /\ s ∈ a.left /\ zK a f q <= a.budget.tdiv a.spent /\ zcI a ps q s = ziB a f q s := znY h fun i hg => by
 by_cases hi : i = 0
 ·
  left
  intro e
  obtain ⟨_, f, hf, _⟩ := zcJ (e.trans hi)
  rw [hg] at hf; cases hf
 . exact .inr hi
theorem RunA.ask {ps : List Fl} {a : Ac} {k : Nat} {q : Qu} {s : Int} (h : RunA ps a k) (hq : q.2.length <= 20) (hc : (zcI a ps q s).code = 0) : RunA ps (zcI a ps q s).ac (k + 1) := by
 have ht := h.tr.ask ps q s hq hc
 obtain ⟨f, hf, hqc, hs, hp, e⟩ := zny hc
 obtain ⟨_, f', hf', _, _, hi⟩ := zcJ hqc
 rw [hf] at hf'
 cases hf'
 rw [e] at ht ⊢
 exact ⟨h.ok.ans hs hi hp, h.ag.ans hf, ht⟩
theorem RunA.up {ps : List Fl} {a : Ac} {k m : Nat} (h : RunA ps a k) (hk : k <= m) : RunA ps a m := ⟨h.ok, h.ag, h.tr.up hk⟩
theorem RunA.acB {ps : List Fl} {a : Ac} {k : Nat} (h : RunA ps a k) (hk : k <= 50000) : AcB a := ⟨h.tr.ll, by have := h.tr.al; omega, h.tr.ql⟩
def zom (m : Int) (a : Ac) : Ac := ⟨m, a.budget, a.spent, a.left, a.asked⟩
theorem RAc.md {D : Nat -> Prop} {w : World} {a : Ac} {u1 u2 : Value} (h : RAc D w a u1 u2) (m : Int) : RAc D w (zom m a) u1 u2 := ⟨h.left, h.asked⟩
theorem RunA.md {ps : List Fl} {a : Ac} {k : Nat} (h : RunA ps a k) {m : Int} (hm : m = 0 \/ m = 1) : ValidA (zom m a) := ⟨hm, h.ok.b1, h.ok.b2, h.ok.s1, h.ok.s2, h.ok.l1, h.ok.l2, h.ok.rng, h.ok.asc⟩
structure KrIn (ps : List Fl) (T : List Nn) (a : Ac) (i : Nat) (L : List (List Int)) : Prop where
 le : L.length <= i
 nd : L.Nodup
 all : ∀ t ∈ L, ∃ s ∈ a.left, t = trN ps T T.length a 0 s
theorem zos {ps : List Fl} {T : List Nn} {a : Ac} : KrIn ps T a 0 [] := ⟨zno _, List.Pairwise.nil, fun t ht => by cases ht⟩
theorem KrIn.old {ps : List Fl} {T : List Nn} {a : Ac} {i : Nat} {L : List (List Int)} (h : KrIn ps T a i L) : KrIn ps T a (i + 1) L := ⟨Nat.le_succ_of_le h.le, h.nd, h.all⟩
theorem KrIn.new {ps : List Fl} {T : List Nn} {a : Ac} {i : Nat} {L : List (List Int)} (h : KrIn ps T a i L) {s : Int} (hs : s ∈ a.left) (hn : trN ps T T.length a 0 s ∉ L) : KrIn ps T a (i + 1) (L ++ [trN ps T T.length a 0 s]) := by
 refine ⟨by rw [zn8]; have := h.le; simp only [zou]; omega, ?_, fun t ht => ?_⟩
 ·
  rw [List.nodup_append]
  exact ⟨h.nd, List.pairwise_singleton _ _, fun x hx y hy e => hn (by rw [<- zni.1 hy, <- e]; exact hx)⟩
 ·
  rcases znj.1 ht with ht | ht
  . exact h.all t ht
  . exact ⟨s, hs, zni.1 ht⟩
theorem KrIn.done {ps : List Fl} {T : List Nn} {m b n : Int} {i : Nat} {L : List (List Int)} (hc : zge m b n = 0) (h : KrIn ps T (zgf m b n) i L) : (L.length : Int) <= b := by
 have hr := zor ps hc
 have h1 := zoj ps T T.length _ 0 L hr.ok hr.ag h.nd h.all
 rw [znO hc] at h1
 simp only at h1
 omega
theorem zjh {ps : List Fl} {r : Rc} {b c : Ac} (h1 : r.charge ≠ 0) (h2 : kr b ps r = (c, 0)) : ∀ {rs : List Rc} {a : Ac}, yG ps a rs = (b, 0) -> yG ps a (rs ++ [r]) = (c, 0)
 | [], a, h => by
  rw [yG] at h
  obtain ⟨rfl, _⟩ := Prod.mk.inj h
  rw [List.nil_append, yG, zna h1, h2, zna (fun h => h rfl), yG]
 | x :: rs, a, h => by
  rw [yG] at h
  rw [List.cons_append, yG]
  split at h
  ·
   rename_i g
   rw [znb g]
   exact zjh h1 h2 h
  ·
   rename_i g
   rw [zna g]
   split at h
   ·
    rename_i g2
    exact absurd (Prod.mk.inj h).2 g2
   ·
    rename_i g2
    rw [zna g2]
    exact zjh h1 h2 h
theorem zo4 {l : List Ob} {o : Ob} (h : o ∈ l) : ∃ k : Nat, zhQ l o = (k : Int) /\ l[k]? = some o := by
 unfold zhQ
 rw [znb h]
 refine ⟨_, rfl, ?_⟩
 have hlt : l.findIdx (fun x => decide (x = o)) < l.length := List.findIdx_lt_length_of_exists ⟨o, h, by simp⟩
 rw [zn0 hlt]
 have := List.findIdx_getElem (w := hlt)
 simpa using this
abbrev rcO (q : Qu) (f : Fl) (r : Res) : Rc := ⟨0, 0, 0, 0, 0, q.1, (qk 2 f.vars q.2).1, r.answer, r.charge⟩
def zoh (a : Ac) (ps : List Fl) (q : Qu) (s : Int) (f : Fl) : Rc := rcO q f (zcI a ps q s)
structure AgIn (ps : List Fl) (a : Ac) (n k : Nat) (b : Ac) (rs : List Rc) (P : Int -> Bool) : Prop where
 run : RunA ps b k
 rl : rs.length <= k
 left : b.left = (qE n).filter P
 rp : yG ps a rs = (b, 0)
theorem zot {ps : List Fl} {m b n : Int} (h : zge m b n = 0) : AgIn ps (zgf m b n) n.toNat 0 (zgf m b n) [] (fun _ => true) := ⟨zor ps h, zno _, by rw [znO h]; exact (List.filter_eq_self.2 fun _ _ => rfl).symm, rfl⟩
theorem AgIn.up {ps : List Fl} {a b : Ac} {n k : Nat} {rs : List Rc} {P : Int -> Bool} (h : AgIn ps a n k b rs P) : AgIn ps a n (k + 1) b rs P := ⟨h.run.up (Nat.le_succ _), Nat.le_succ_of_le h.rl, h.left, h.rp⟩
theorem AgIn.next {ps : List Fl} {a b : Ac} {n k : Nat} {rs : List Rc} {P : Int -> Bool} (h : AgIn ps a n k b rs P) {q : Qu} {s : Int} {f : Fl} (hq : q.2.length <= 20) (hc : (zcI b ps q s).code = 0) (hf : zcH ps q.1 = some f) :
  AgIn ps a n (k + 1) (zcI b ps q s).ac (rs ++ [zoh b ps q s f]) (fun x => P x && decide (obN f q.2 x = (zcI b ps q s).ob)) := by
 have hr := h.run.ask hq hc
 obtain ⟨f', hf', hqc, hs, hp, e⟩ := zny hc
 rw [hf] at hf'
 cases hf'
 obtain ⟨hv, f', hf', ha, hrk, hi⟩ := zcJ hqc
 rw [hf] at hf'
 cases hf'
 refine ⟨hr, by rw [zn8]; have := h.rl; simp only [zou]; omega, ?_, zjh ?_ ?_ h.rp⟩
 ·
  rw [e]
  show yF f q.2 (obN f q.2 s) b.left = _
  unfold yF
  rw [h.left, List.filter_filter]
  congr 1
  funext x
  exact Bool.and_comm _ _
 ·
  show (zcI b ps q s).charge ≠ 0
  rw [e]
  have := zaL (q := q) hv hi
  show zK b f q ≠ 0
  omega
 ·
  obtain ⟨hu, hb⟩ := znN hrk
  have hrq : kq f (zoh b ps q s f) = q := by unfold kq zoh; rw [hb]
  obtain ⟨j, hj, hg⟩ := zo4 (l := ze2 f q.2 (ko f)) (o := obN f q.2 s) (zgJ (mem_allR.2 (hi s hs)))
  unfold kr
  rw [show (zoh b ps q s f).prog = q.1 from rfl, hf]
  simp only
  have hch : (zoh b ps q s f).charge = zK b f q := by unfold zoh; rw [e]; rfl
  rw [zh3 (k := j) (o := obN f q.2 s) ha hu hi (by rw [hrq, hch]; omega) (by unfold zoh; rw [e]; exact hj) (by rw [hrq]; exact hg) (by
   rw [hrq]
   exact List.ne_nil_of_mem (List.mem_filter.2 ⟨hs, znc rfl⟩)), hrq, hch, e]
  rfl
def fL (k : Nat) (P : Int -> Bool) : List Bool := (qE k).map P
theorem zjj (k : Nat) (P : Int -> Bool) : (fL k P).length = k := by simp [fL, zeH]
theorem znK {k : Nat} {P : Int -> Bool} {j : Nat} (h : j < k) : (fL k P)[j]? = some (P j) := by
 unfold fL
 rw [znh, zeG h]
 rfl
theorem znF {k : Nat} {P Q : Int -> Bool} (h : ∀ j : Nat, j < k -> P j = Q j) : fL k P = fL k Q := List.map_congr_left fun x hx => by
 have hx := mem_rangeL.1 hx
 have := h x.toNat (by omega)
 rwa [show ((x.toNat : Nat) : Int) = x by omega] at this
theorem zoi {k : Nat} {P Q : Int -> Bool} {j : Nat} (hQ : ∀ i : Nat, i < k -> i ≠ j -> Q i = P i) : ((fL k P).map Value.bool).set j (.bool (Q j)) = (fL k Q).map Value.bool := by
 apply List.ext_getElem?
 intro i
 rw [List.getElem?_set]
 by_cases hi : i < k
 ·
  rw [znh (l := fL k Q), znK hi]
  by_cases e : j = i
  ·
   subst e
   rw [znb rfl, znb (by rw [znk, zjj]; exact hi)]
   rfl
  . rw [zna e, znh, znK hi, hQ i hi (fun h => e h.symm)]
 ·
  have h1 : (List.map Value.bool (fL k Q))[i]? = none := znn (by rw [znk, zjj]; omega)
  rw [h1]
  split
  ·
   rename_i e
   rw [zna (by rw [znk, zjj]; omega)]
  . exact znn (by rw [znk, zjj]; omega)
theorem zoe {k : Nat} : (List.replicate k (Value.bool false)) = (fL k (fun x => decide (x < ((0 : Nat) : Int)))).map Value.bool := by
 apply List.ext_getElem?
 intro i
 by_cases hi : i < k
 ·
  rw [znh, znK hi, List.getElem?_replicate, znb hi]
  simp
 . rw [znn (by simp; omega), znn (by rw [znk, zjj]; omega)]
theorem zol {k j : Nat} : ((fL k (fun x => decide (x < (j : Int)))).map Value.bool).set j (.bool true) = (fL k (fun x => decide (x < ((j + 1 : Nat) : Int)))).map Value.bool := by
 rw [<- zoi (P := fun x => decide (x < (j : Int))) (Q := fun x => decide (x < ((j + 1 : Nat) : Int))) (j := j) (fun i _ hi => znr.2 (by omega)), znc (show (j : Int) < ((j + 1 : Nat) : Int) by omega)]
theorem zon {k : Nat} : fL k (fun x => decide (x < (k : Int))) = fL k (fun _ => true) := znF fun i hi => znc (by omega)
def znQ (P : Int -> Bool) (f : Fl) (pub : List Int) (o : Ob) (l : Nat) : Int -> Bool := fun x => if x < (l : Int) then P x && decide (obN f pub x = o) else P x
theorem zo5 {k : Nat} {P : Int -> Bool} {f : Fl} {pub : List Int} {o : Ob} : fL k P = fL k (znQ P f pub o 0) := znF fun i _ => (zna (by omega)).symm
theorem zo6 {k : Nat} {P : Int -> Bool} {f : Fl} {pub : List Int} {o : Ob} : fL k (znQ P f pub o k) = fL k (fun x => P x && decide (obN f pub x = o)) := znF fun i hi => znb (by omega)
theorem zof {k l : Nat} {P : Int -> Bool} {f : Fl} {pub : List Int} {o : Ob} (h : l < k) : (fL k (znQ P f pub o l))[l]? = some (P (l : Int)) := by
 rw [znK h]
 exact congrArg some (zna (by omega))
theorem znR {k l : Nat} {P : Int -> Bool} {f : Fl} {pub : List Int} {o : Ob} {c : Bool} (hc : (P (l : Int) && decide (obN f pub (l : Int) = o)) = c) : ((fL k (znQ P f pub o l)).map Value.bool).set l (.bool c) = (fL k (znQ P f pub o (l + 1))).map Value.bool := by
 have h1 : znQ P f pub o (l + 1) (l : Int) = c := by rw [<- hc]; exact znb (by omega)
 rw [<- zoi (P := znQ P f pub o l) (Q := znQ P f pub o (l + 1)) (j := l) (fun i _ hi => by
  unfold znQ
  by_cases e : i < l
  . rw [znb (by omega), znb (by omega)]
  ·
   rw [zna (by omega), zna (by omega)]), h1]
theorem znP {k j : Nat} {P : Int -> Bool} (h : j < k) : ((qE k).take (j + 1)).filter P = ((qE k).take j).filter P ++ if P (j : Int) then [(j : Int)] else [] := by
 rw [zg (zeG h), List.filter_append]
 congr 1
 by_cases hp : P (j : Int) = true
 . rw [znb hp]; simp [hp]
 . rw [zna hp]; simp [hp]
def zog (r : Rc) : List Value := [.int .i64 r.x0, .int .i64 r.x1, .int .i64 r.x2, .int .i64 r.x3, .int .i64 r.x4, .int .i64 r.prog, .int .i64 r.pub, .int .i64 r.ans, .int .i64 r.charge]
abbrev ac2 (FF : Nat -> Prop) (a : Ac) (x1 : Option Addr) (x2 : Nat) (x3 : Option Addr) (x4 : Nat) (b : Ac) (z1 : Option Addr) (z2 : Nat) (z3 : Option Addr) (z4 : Nat) : HE := .res FF (fun w => RAc FF w a (.slice x1 a.left.length x2) (.slice x3 a.asked.length x4) /\ RAc FF w b (.slice z1 b.left.length z2) (.slice z3 b.asked.length z4))
theorem zo7 {FF : Nat -> Prop} {a b : Ac} {x1 x3 z1 z3 : Option Addr} {x2 x4 z2 z4 : Nat} : (ac2 FF a x1 x2 x3 x4 b z1 z2 z3 z4).loc := fun _ _ _ hx hk hT => ⟨hx.1.stable (fun _ h => h) (fun b hb hlt => hk.block b hlt (hT b hlt hb)), hx.2.stable (fun _ h => h) (fun b hb hlt => hk.block b hlt (hT b hlt hb))⟩
theorem znL (m b : Int) (ps : List Fl) (qs_q : List Qu) (s : Int) (pv qv : Value) (D1 D2 : Nat -> Prop) (W : World) (hps : SlR 3 RPg D1 W pv ps) (hqs : SlR 2 RQu D2 W qv qs_q) (hs : 0 <= s /\ s <= 255) (ht : Tab W) :
  Calls Tryz.prog 11 #[.agg #[.int .i64 m, .int .i64 b, pv, qv], .int .u8 s] W (Ret fun r w' => r = .bool true /\ Ext W w') := by
 obtain ⟨ap, cp, rfl⟩ := hps.form
 obtain ⟨aq, cq, rfl⟩ := hqs.form
 have hmp := hps.max
 have hmq := hqs.max
 refine zlr Tryz.func11 O Tryz.ntmps11 O (zlC ?_)
 refine Vs 2 O ?_
 refine V.box 2 O O (fun b2 => ?_)
 refine Vs 6 O ?_
 refine zlT Tryz.call12 O (fun w hI => zeI w (Tr1 hI.k0 ht)) ?_
 refine zlh O (fun w hI => zkJ O (by first | exact za | rfl)) ?_
 refine Vs 2 O ?_
 refine V.bool O (fun k0 => ?_) (fun k0 => ?_)
 . cases k0
 ·
  refine Vs 5 O ?_
  refine zlV Tryz.call13 O (fun w hI => znV ps qs_q m b _ _ D1 D2 w (Tr1 hI.k0 hps) (Tr1 hI.k0 hqs)) ?_
  rintro rr w1 w2 hI1 hk12 ⟨n, ok, rfl, hok⟩ hlow
  refine Vs 11 O ?_
  refine zlh O (fun w hI => zkJ O (by first | exact za | rfl)) ?_
  refine Vs 2 O ?_
  refine V.bool O (fun q1 => ?_) (fun q1 => ?_)
  ·
   refine Vs 7 O ?_
   refine zjI Tryz.results11 O (fun w hI => ⟨_, rfl, rfl, hI.k1⟩)
  ·
   have hcs := hok (by simpa using q1)
   refine Vs 9 O ?_
   refine zmn [] (Hn := fun y : Y5 => [(910, acY y.2.2.2.2 (zgf m b n) y)]) [(2, some (2, 0)), (39, some (2, 0)), (41, some (2, 1))] Tryz.call14 O (fun _ _ => rfl) (fun _ => rfl) (fun w hI => ziP 910 O O) ?_
   rintro _ ⟨x1, x2, x3, x4, G⟩ rfl
   refine Vs 3 O ?_
   refine V.alloc 7 tz37 O O (fun b7 => ?_)
   refine Vs 11 O ?_
   refine zjo O (fun e0 => ?_) (fun e0 => ?_)
   ·
    refine Vs 7 O ?_
    refine zjI Tryz.results11 O (fun w hI => ⟨_, rfl, rfl, hI.k1⟩)
   ·
    have e0 := zn9.1 e0
    have hst := zot (ps := ps) e0
    obtain ⟨_, _, _, hn1, hn2⟩ := znA e0
    obtain ⟨k, rfl⟩ : ∃ k : Nat, n = (k : Int) := ⟨n.toNat, by omega⟩
    rw [znl] at hst
    have hq8 := hcs.qs8
    refine zmh 910 (e' := ac2 G (zgf m b (k : Int)) x1 x2 x3 x4 (zgf m b (k : Int)) x1 x2 x3 x4) O (fun w hI => ⟨hI.at 910 rfl, hI.at 910 rfl⟩) (zo7) (fun _ h => h) (fun q hq => hq) ?_
    refine Vs 5 O ?_
    refine V.alloc 9 tz37 O O (fun b9 => ?_)
    refine Vs 5 O ?_
    refine zmc 50 Tryz.runUnderlying84 Tryz.sizeOf91 O (fun b50 => ?_)
    refine Vs 6 O ?_
    refine zkl 52 Tryz.underlying87 Tryz.el4 O (by omega) (by omega) (zs := List.replicate k (.bool false)) (ziV _ _ O) (by simp) (fun b52 => ?_)
    refine zm4 52 O (e' := .row 4 1 (.slice (some ⟨b52, 0, none⟩) k k) k ((fL k (fun x => decide (x < ((0 : Nat) : Int)))).map Value.bool)) (by rw [zoe]) ?_
    refine Vs 12 O ?_
    refine zm5 (σ := Nat) [1, 2, 5, 7, 9, 10, 11, 54] [2, 7, 9, 50, 910] [2, 7, 9] O (fun e j => (55, .int .i64 j) :: e) (fun e j => (52, .row 4 1 (.slice (some ⟨b52, 0, none⟩) k k) k ((fL k (fun x => decide (x < (j : Int)))).map Value.bool)) :: e) (fun j => j <= k) (fun j => k - j) (0) (zkZ O) (zl0 O) (fun _ => rfl) (fun _ => rfl) (fun _ => rfl) (znf _) ?_
    rintro j hj
    refine Vs 6 O ?_
    refine zjo O (fun hlt => ?_) (fun hlt => ?_)
    ·
     refine Va 14 O (by omega) ?_
     refine V.rs 52 (j) ts4 O (by omega) (by simp [zjj]; omega) ?_
     refine zm4 52 O (e' := .row 4 1 (.slice (some ⟨b52, 0, none⟩) k k) k ((fL k (fun x => decide (x < ((j + 1 : Nat) : Int)))).map Value.bool)) (by rw [zol]) ?_
     refine Va 7 O (by omega) ?_
     refine zjz (j + 1) (zkZ O) (zl0 O) (by omega) (by first | omega | (dsimp only; omega)) 0 O O
    ·
     obtain rfl : j = k := by omega
     refine zm4 52 O (e' := .row 4 1 (.slice (some ⟨b52, 0, none⟩) j j) j ((fL j (fun _ => true)).map Value.bool)) (by rw [zon]) ?_
     refine Vs 15 O ?_
     refine zm5 (σ := Nat × Value × List Rc × (Int -> Bool) × Ac × Y5) [1, 2, 5, 7, 9, 11, 63, 64] [2, 7] [2, 7, 9] O (fun e ⟨i, v, rs, P, a, ax, cx, az, cz, FF⟩ => (65, .int .i64 i) :: (10, v) :: e) (fun e ⟨i, v, rs, P, a, ax, cx, az, cz, FF⟩ => (9, .own b9 [.int .i64 a.mode, .int .i64 a.budget, .int .i64 a.spent, .slice ax a.left.length cx, .slice az a.asked.length cz] 37) :: (910, ac2 FF (zgf m b (j : Int)) x1 x2 x3 x4 a ax cx az cz) :: (50, .row 91 9 v rs.length (rs.flatMap zog)) :: (52, .row 4 1 (.slice (some ⟨b52, 0, none⟩) j j) j ((fL j P).map Value.bool)) :: e) (fun ⟨i, v, rs, P, a, ax, cx, az, cz, FF⟩ => i <= qs_q.length /\ AgIn ps (zgf m b (j : Int)) j i a rs P) (fun ⟨i, v, rs, P, a, ax, cx, az, cz, FF⟩ => qs_q.length - i) ((0, _, [], fun _ => true, zgf m b (j : Int), x1, x2, x3, x4, G)) (zkZ O) (zl0 O) (fun _ => rfl) (fun _ => rfl) (fun _ => rfl) (⟨znf _, hst⟩) ?_
     rintro ⟨i, v, rs, P, a, ax, cx, az, cz, FF⟩ ⟨hi, hin⟩
     show V _ _ _ _ _ ((65, .int .i64 i) :: (10, v) :: _) _ ((9, .own b9 [.int .i64 a.mode, .int .i64 a.budget, .int .i64 a.spent, .slice ax a.left.length cx, .slice az a.asked.length cz] 37) :: (910, ac2 FF (zgf m b (j : Int)) x1 x2 x3 x4 a ax cx az cz) :: (50, .row 91 9 v rs.length (rs.flatMap zog)) :: (52, .row 4 1 (.slice (some ⟨b52, 0, none⟩) j j) j ((fL j P).map Value.bool)) :: _) _
     have hrl := hin.rl
     refine Vs 6 O ?_
     refine zjo O (fun hlt2 => ?_) (fun hlt2 => ?_)
     ·
      refine Vs 6 O ?_
      obtain ⟨p, he_p, hm_p⟩ := gE_ qs_q (i) (by omega)
      obtain ⟨b_p, o_p, c_p, ha_p, _, hc_p, hR_p⟩ := hqs.at he_p
      obtain ⟨v1_p, rfl, hs_p⟩ := hR_p
      obtain ⟨a1_p, n1_p, rfl⟩ := hs_p.form
      refine zm1 1000 1 O O hc_p ?_
      refine zlK 1000 tR24 ts33 O ha_p (by omega) (_) (rfl) O ?_
      have hp20 := hcs.q20 p hm_p
      have hB := hin.run.acB (by omega)
      refine Vs 1 O ?_
      refine V.alloc 14 tz33 O O (fun b14 => ?_)
      refine Vs 4 O ?_
      refine Vw [2, 7, 9, 1000, 14] [] O ?_
      refine Vd [0, 1, 2, 3, 4, 6] 0 (by kernel_rfl) O O O ?_
      refine zmg 5 O (by kernel_rfl) O (fun w => zoq Tryz.underlying5 tu3 (xw (by omega)) O) ?_
      refine zmg 7 O (by kernel_rfl) O (fun w => R.rem O O (by omega) (by omega)) ?_
      have hpt := zny (ps := ps) (a := a) (q := p) (s := s.tmod (j : Int))
      have hnx := fun f hc hf => hin.next (q := p) (s := s.tmod (j : Int)) (f := f) hp20 hc hf
      unfold zoh at hnx
      generalize hR : zcI a ps p (s.tmod (j : Int)) = RR at hnx hpt
      refine zmX 5 0 [(8, 78, [], false), (9, 69, [78], true), (10, 79, [78, 69], true), (11, 80, [78, 69], true), (12, 81, [78, 69], true), (13, 82, [78, 69], true), (14, 83, [78, 69], true), (15, 15, [], false), (16, 18, [], false)] (psi [(78, fun _ v hx => ∃ y : Y8, v = .tuple #[.agg #[.int .i64 RR.ac.mode, .int .i64 RR.ac.budget, .int .i64 RR.ac.spent, .slice y.1 RR.ac.left.length y.2.1, .slice y.2.2.1 RR.ac.asked.length y.2.2.2.1], .int .i64 RR.answer, .int .i64 RR.charge, .agg #[.slice y.2.2.2.2.1 RR.ob.1.length y.2.2.2.2.2.1, .int .i64 RR.ob.2], .int .i64 RR.code] /\ hx = [(903, aoY y.2.2.2.2.2.2 RR y)]), (69, phM 78), (79, phX 69 0), (80, phX 69 1), (81, phX 69 2), (82, phX 69 3), (83, phX 69 4), (15, phA 15 [Value.int IntKind.i64 0, Value.int IntKind.i64 0, Value.int IntKind.i64 0, Value.slice none 0 0, Value.slice none 0 0] 37), (18, phA 18 [Value.slice none 0 0, Value.int IntKind.i64 0] 60)]) (by kernel_rfl) (by kernel_rfl) O O ⟨?_, ?_, ?_, ?_, ?_, ?_, ?_, ?_, ?_, True.intro⟩ ?_
      . exact zmW O O (fun _ _ _ _ _ h => h) (fun val hn _ w hI => Does.call (F.call Tryz.call24 (yh O)) (kw (H := []) ((by have h := zfZ a hB ps hcs.sz p (by omega) (s.tmod (j : Int)) _ _ _ _ FF D1 D2 w (show RAc _ _ _ _ _ /\ RAc _ _ _ _ _ from hI.at 910 O).2 (Tr1 hI.k1 hps) (Tr1 hI.k1 hs_p) (Tr1 hI.k1 ht); rw [hR] at h; exact ziO 903 h))))
      . exact MP.move 78 O O O
      . exact MP.ext 69 0 O O O (by decide) (fun _ => rfl) (fun val hn h => by obtain ⟨⟨_, e78, _⟩, ⟨e69, _⟩, _⟩ := h; exact ⟨_, _, e69.trans e78, rfl⟩)
      . exact MP.ext 69 1 O O O (by decide) (fun _ => rfl) (fun val hn h => by obtain ⟨⟨_, e78, _⟩, ⟨e69, _⟩, _⟩ := h; exact ⟨_, _, e69.trans e78, rfl⟩)
      . exact MP.ext 69 2 O O O (by decide) (fun _ => rfl) (fun val hn h => by obtain ⟨⟨_, e78, _⟩, ⟨e69, _⟩, _⟩ := h; exact ⟨_, _, e69.trans e78, rfl⟩)
      . exact MP.ext 69 3 O O O (by decide) (fun _ => rfl) (fun val hn h => by obtain ⟨⟨_, e78, _⟩, ⟨e69, _⟩, _⟩ := h; exact ⟨_, _, e69.trans e78, rfl⟩)
      . exact MP.ext 69 4 O O O (by decide) (fun _ => rfl) (fun val hn h => by obtain ⟨⟨_, e78, _⟩, ⟨e69, _⟩, _⟩ := h; exact ⟨_, _, e69.trans e78, rfl⟩)
      . exact MP.alloc 15 O O tz37 O O
      . exact MP.alloc 18 O O tz60 O O
      rintro val hn ⟨⟨⟨z1, z2, z3, z4, z5, z6, G1⟩, e78, n78⟩, ⟨e69, n69⟩, ⟨e79, n79⟩, ⟨e80, n80⟩, ⟨e81, n81⟩, ⟨e82, n82⟩, ⟨e83, n83⟩, ⟨b15, e15, n15⟩, ⟨b18, e18, n18⟩, _⟩
      have q69 := e69.trans e78
      have q79 := exq e79 q69 rfl
      have q80 := exq e80 q69 rfl
      have q81 := exq e81 q69 rfl
      have q82 := exq e82 q69 rfl
      have q83 := exq e83 q69 rfl
      refine zmZ [(2, some (2, 0)), (7, some (7, 0)), (9, some (9, 0)), (14, some (14, 0)), (67, some (1000, 0)), (71, some (2, 2)), (15, some (15, 0)), (18, some (18, 0))] _ _ (yu e78 (yu q69 (yu q79 (yu q80 (yu q81 (yu q82 (yu q83 (yu e15 (yu e18 (rfl)))))))))) (qn n78 (qn n69 (qn n79 (qn n80 (qn n81 (qn n82 (qn n83 (qn n15 (qn n18 (rfl)))))))))) O O O ?_
      clear n78 q69 n69 q79 n79 q80 n80 q81 n81 q82 n82 q83 n83 n15 n18
      refine Ve 17 0 O (by kernel_rfl) O O O ?_
      refine Vd [18, 19] 0 (by kernel_rfl) O O O ?_
      refine Ve 20 0 O (by kernel_rfl) O O O ?_
      refine Vd [21] 0 (by kernel_rfl) O O O ?_
      refine VD.done (by kernel_rfl) ?_
      refine Vs 8 O ?_
      refine zjo O (fun c0 => ?_) (fun c0 => ?_)
      ·
       have hup := hin.up
       refine Va 8 O (by omega) ?_
       refine zjz (⟨i + 1, v, rs, P, a, ax, cx, az, cz, FF⟩) (zkZ O) (zl0 O) (⟨by omega, hup⟩) (by first | omega | (dsimp only; omega)) 0 O O
      ·
       have c0 := zn9.1 c0
       obtain ⟨f0, hf0, hqc, hsl, hpr, heq⟩ := hpt c0
       obtain ⟨_, f', hf', han, hrk, hins⟩ := zcJ hqc
       rw [hf0] at hf'
       cases hf'
       obtain ⟨k', hk', hgk⟩ := zh5 hf0
       have hkl := (zne.1 hgk).1
       refine Vs 9 O ?_
       refine zld 89 O (fun g0 => ?_) (fun g0 => ?_)
       . omega
       ·
        refine Vs 9 O ?_
        refine zjo O (fun g1 => ?_) (fun g1 => ?_)
        . omega
        ·
         obtain ⟨f, he_f, hm_f⟩ := gE_ ps (k') (by omega)
         obtain ⟨b_f, o_f, c_f, ha_f, _, hc_f, hR_f⟩ := hps.at he_f
         obtain ⟨v1_f, v2_f, v3_f, rfl, hf_f⟩ := hR_f
         obtain ⟨a1_f, n1_f, rfl⟩ := hf_f.vars.form
         obtain ⟨a2_f, n2_f, rfl⟩ := hf_f.hatches.form
         obtain ⟨a3_f, n3_f, rfl⟩ := hf_f.body.form
         refine zm1 2000 1 O O hc_f ?_
         rw [he_f] at hgk
         obtain rfl := Option.some.inj hgk
         obtain ⟨vd, hr3⟩ := zaM (hcs.sz f hm_f) han
         have hs2 := zcW vd.ok
         have hvl := vd.lens
         refine Vs 8 O ?_
         refine zlK 2000 tR23 ts56 O ha_f (by omega) (k') (by omega) O ?_
         refine Vs 1 O ?_
         refine V.alloc 20 tz56 O O (fun b20 => ?_)
         refine Vs 9 O ?_
         refine zlT Tryz.call38 O (fun w hI => znU f.vars 2 p.2 _ _ _ _ w (by omega) vd.good (by omega) (Tr1 hI.k1 hf_f.vars) (Tr1 hI.k1 hs_p)) ?_
         refine Vs 14 O ?_
         refine zjo O (fun r0 => ?_) (fun r0 => ?_)
         . exact absurd hrk r0
         ·
          have hnext := hnx f c0 hf0
          refine Vs 10 O ?_
          refine zme [Value.int IntKind.i64 0, Value.int IntKind.i64 0, Value.int IntKind.i64 0, Value.int IntKind.i64 0, Value.int IntKind.i64 0, Value.int IntKind.i64 0, Value.int IntKind.i64 0, Value.int IntKind.i64 0, Value.int IntKind.i64 0] [(0, 1), (1, 1), (2, 1), (3, 1), (4, 1), (5, 1), (6, 1), (7, 1), (8, 1)] [(5, _), (6, _), (7, _), (8, _)] O O (fun _ => by kernel_rfl) ?_
          refine zm8 120 [(0, _)] Tryz.runUnderlying84 Tryz.sizeOf91 Tryz.zeroValue91 (by decide) O O (by kernel_rfl) (fun b120 => ?_)
          refine zlO 50 120 Tryz.underlying84 Tryz.el91 O (by decide) O O (by omega) (by omega) (fun u50 => ?_)
          refine Vs 5 O ?_
          refine zm4 50 O (e' := .row 91 9 u50 (rs ++ [rcO p f RR]).length ((rs ++ [rcO p f RR]).flatMap zog)) (by rw [zn8, List.flatMap_append]; rfl) ?_
          refine zm4 52 O (e' := .row 4 1 (.slice (some ⟨b52, 0, none⟩) j j) j ((fL j (znQ P f p.2 RR.ob 0)).map Value.bool)) (by rw [zo5]) ?_
          refine Vs 7 O ?_
          refine zm5 (σ := Nat) [1, 2, 5, 7, 9, 10, 11, 14, 15, 18, 20, 63, 64, 65, 123] [2, 7, 9, 14, 15, 18, 20, 50, 903, 910] [2, 7, 9, 14, 15, 18, 20] O (fun e l => (124, .int .i64 l) :: e) (fun e l => (52, .row 4 1 (.slice (some ⟨b52, 0, none⟩) j j) j ((fL j (znQ P f p.2 RR.ob l)).map Value.bool)) :: e) (fun l => l <= j) (fun l => j - l) (0) (zkZ O) (zl0 O) (fun _ => rfl) (fun _ => rfl) (fun _ => rfl) (znf _) ?_
          rintro l hl
          refine Vs 6 O ?_
          refine zjo O (fun hlt3 => ?_) (fun hlt3 => ?_)
          ·
           have zo : (fL j (znQ P f p.2 RR.ob l))[l]? = some (P (l : Int)) := zof (by omega)
           refine Vs 10 O ?_
           refine Vw [2, 7, 9, 14, 15, 18, 20, 52] [17] O ?_
           refine Vb [0, 1, 2, 3, 4] 0 (by kernel_rfl) O O O (by omega) ?_
           refine zmi 5 O (by kernel_rfl) O 0 O O (fun w hI => R.load tg4 O (zo8 (hI.at 52 O) (show _ = some (Value.bool (P (l : Int))) by rw [znh, zo]; rfl))) ?_
           refine Vd [6] 0 (by kernel_rfl) O O O ?_
           refine VD.sb 133 O (fun g => ?_) (fun g => ?_)
           ·
            refine Vd [7, 8, 9, 10, 12] 0 (by kernel_rfl) O O O ?_
            refine zlW 11 0 Tryz.call40 O (by kernel_rfl) O O (fun w hI => zbK f vd hr3 hs2 p.2 (l : Int) _ _ _ _ D1 D2 w (Tr1 hI.k1 hf_f) (Tr1 hI.k1 hs_p)) ?_
            rintro r5 w5 w6 hI5 hk56 ⟨ov, rfl, hob⟩ hlow5
            obtain ⟨ao, co, rfl⟩ := hob.form
            refine zlU 13 1 Tryz.call39 O (by kernel_rfl) O O (fun w hI => znw (obN f p.2 (l : Int)) RR.ob _ _ _ _ w (hob.keep zb hI.k0 (fun b hb _ hs => by have := hlow5 b hs; omega)) (show RAc _ _ _ _ _ /\ SlR 1 zz _ _ _ _ from hI.at 903 O).2) ?_
            refine Vb [14, 15, 16] 1 (by kernel_rfl) O O O (by omega) ?_
            refine zop 17 52 (l) ts4 O (by kernel_rfl) O (by omega) (by simp [zjj]; omega) ?_
            refine VDx.done (by kernel_rfl) ?_
            refine Va 6 O (by omega) ?_
            refine zm4 52 O (e' := .row 4 1 (.slice (some ⟨b52, 0, none⟩) j j) j ((fL j (znQ P f p.2 RR.ob (l + 1))).map Value.bool)) (by rw [znR (by rw [g, Bool.true_and, znr.2 (cmpOb_iff (x := obN f p.2 (l : Int)) (y := RR.ob))])]) ?_
            refine zjz (l + 1) (zkZ O) (zl0 O) (by omega) (by first | omega | (dsimp only; omega)) 1 O O
           ·
            refine Vd [7, 8, 9, 10, 12] 0 (by kernel_rfl) O O O ?_
            refine VD.skip 11 0 O (by kernel_rfl) O O ?_
            refine VD.skip 13 0 O (by kernel_rfl) O O ?_
            refine Vb [14, 15, 16] 0 (by kernel_rfl) O O O (by omega) ?_
            refine zop 17 52 (l) ts4 O (by kernel_rfl) O (by omega) (by simp [zjj]; omega) ?_
            refine VDx.done (by kernel_rfl) ?_
            refine Va 6 O (by omega) ?_
            refine zm4 52 O (e' := .row 4 1 (.slice (some ⟨b52, 0, none⟩) j j) j ((fL j (znQ P f p.2 RR.ob (l + 1))).map Value.bool)) (by rw [znR (by rw [g, Bool.false_and])]) ?_
            refine zjz (l + 1) (zkZ O) (zl0 O) (by omega) (by first | omega | (dsimp only; omega)) 0 O O
          ·
           obtain rfl : l = j := by omega
           refine Va 15 O (by omega) ?_
           refine V.mrg 910 903 (e' := ac2 (fun q => FF q \/ G1 q) (zgf m b (l : Int)) x1 x2 x3 x4 RR.ac z1 z2 z3 z4) [(2, some (2, 0)), (7, some (7, 0)), (9, some (9, 0)), (14, some (14, 0)), (15, some (15, 0)), (18, some (18, 0)), (20, some (20, 0))] O O O (fun w hI => ⟨(show RAc _ _ _ _ _ /\ RAc _ _ _ _ _ from hI.at 910 O).1.wide (fun q hq => .inl hq), (show RAc _ _ _ _ _ /\ _ from hI.at 903 O).1.wide (fun q hq => .inr hq)⟩) (zo7) (fun _ h => h) (fun q hq => hq) ?_
           refine zm4 52 O (e' := .row 4 1 (.slice (some ⟨b52, 0, none⟩) l l) l ((fL l (fun x => P x && decide (obN f p.2 x = RR.ob))).map Value.bool)) (by rw [<- zo6]) ?_
           refine zjz (⟨i + 1, u50, rs ++ [rcO p f RR], fun x => P x && decide (obN f p.2 x = RR.ob), RR.ac, z1, z2, z3, z4, fun q => FF q \/ G1 q⟩) (zkZ O) (zl0 O) (⟨by omega, hnext⟩) (by first | omega | (dsimp only; omega)) 0 O O
     ·
      have hll := hin.left
      have hvd := (zor ps e0).ok
      have hql := (zor ps e0).tr.ql
      have hal := (zor ps e0).tr.al
      have hrp : jo (zgf m b (j : Int)) ps rs = (a, 0) := (zeE hvd).trans hin.rp
      have hrno : (zgf m b (j : Int)).asked.length + rs.length <= 100000 := by omega
      refine Vs 7 O ?_
      refine zmc 147 tR31 ts3 O (fun b147 => ?_)
      refine Vs 12 O ?_
      refine zm5 (σ := Nat × Value × List Int) [2, 7, 9, 10, 148, 149] [2, 7, 9, 50, 52, 910] [2, 7, 9] O (fun e ⟨l, v2, xs⟩ => (150, .int .i64 l) :: (24, v2) :: e) (fun e ⟨l, v2, xs⟩ => (147, .row 3 1 v2 xs.length (xs.map ze)) :: e) (fun ⟨l, v2, xs⟩ => l <= j /\ xs.length <= l /\ xs = ((qE j).take l).filter P) (fun ⟨l, v2, xs⟩ => j - l) ((0, _, [])) (zkZ O) (zl0 O) (fun _ => rfl) (fun _ => rfl) (fun _ => rfl) (⟨znf _, zno _, rfl⟩) ?_
      rintro ⟨l, v2, xs⟩ ⟨hl, hxl, hxs⟩
      show V _ _ _ _ _ ((150, .int .i64 l) :: (24, v2) :: _) _ ((147, .row 3 1 v2 xs.length (xs.map ze)) :: _) _
      refine Vs 6 O ?_
      refine zjo O (fun hlt3 => ?_) (fun hlt3 => ?_)
      ·
       have htf := znP (P := P) (show l < j by omega)
       refine Va 8 O (by omega) ?_
       refine V.rl 52 (l) tg4 O (by omega) (show _ = some (Value.bool (P (l : Int))) by rw [znh, znK (by omega)]; rfl) ?_
       refine Vs 9 O ?_
       refine V.bool O (fun g => ?_) (fun g => ?_)
       ·
        rw [znb g, <- hxs] at htf
        refine Vs 3 O ?_
        refine zm8 158 [(0, _)] tR31 ts3 tz3 (by decide) O O (by kernel_rfl) (fun b158 => ?_)
        refine zlO 147 158 tu31 Tryz.el3 O (by decide) O O (by omega) (by omega) (fun u147 => ?_)
        refine Va 8 O (by omega) ?_
        refine zm4 147 O (e' := .row 3 1 u147 (xs ++ [(l : Int)]).length ((xs ++ [(l : Int)]).map ze)) (by rw [zn8, List.map_append]; rfl) ?_
        refine zjz (⟨l + 1, u147, xs ++ [(l : Int)]⟩) (zkZ O) (zl0 O) (⟨by omega, by rw [zn8]; simp only [zou]; omega, htf.symm⟩) (by first | omega | (dsimp only; omega)) 0 O O
       ·
        rw [zna (by rw [g]; decide), List.append_nil, <- hxs] at htf
        refine Va 7 O (by omega) ?_
        refine zjz (⟨l + 1, v2, xs⟩) (zkZ O) (zl0 O) (⟨by omega, by omega, htf.symm⟩) (by first | omega | (dsimp only; omega)) 0 O O
      ·
       obtain rfl : l = j := by omega
       rw [List.take_of_length_le (by rw [zeH]; exact zno _), <- hll] at hxs
       refine Vs 11 O ?_
       refine zmn [] (Hn := fun y : Y5 => [(920, acY y.2.2.2.2 a y)]) [(2, some (2, 0)), (7, some (7, 0)), (9, some (9, 0)), (163, some (2, 2))] Tryz.call36 O (fun _ _ => rfl) (fun _ => rfl) (fun w hI => (by have h := zdB (zgf m b (l : Int)) ps hcs.sz rs hrno hql _ _ _ _ FF D1 (fun _ => True) w (show RAc _ _ _ _ _ /\ RAc _ _ _ _ _ from hI.at 910 O).1 (Tr1 hI.k1 hps) (zky (by decide) zog (fun _ => rfl) (fun _ _ => rfl) (hI.at 50 O) (fun _ _ => trivial)) (Tr1 hI.k1 ht); rw [hrp] at h; exact zg4 (A := (a, 0)) 920 h)) ?_
       rintro _ ⟨z1, z2, z3, z4, G1⟩ rfl
       refine Vs 3 O ?_
       refine V.alloc 27 tz37 O O (fun b27 => ?_)
       refine Vs 9 O ?_
       refine zlT tc18 O (fun w hI => qP a.left xs _ _ _ _ w (show RAc _ _ _ _ _ /\ RAc _ _ _ _ _ from hI.at 910 O).2.left (zkx (D := fun _ => True) ze (fun _ _ => rfl) (hI.at 147 O) (fun _ _ => trivial))) ?_
       refine Vs 1 O ?_
       refine zld 173 O (fun k1 => ?_) (fun k1 => ?_)
       ·
        refine Vs 4 O ?_
        refine zld 177 O (fun k2 => ?_) (fun k2 => ?_)
        ·
         refine Vs 2 O ?_
         refine zlT Tryz.call27 O (fun w hI => zgZ a a _ _ _ _ _ _ w (show RAc _ _ _ _ _ /\ RAc _ _ _ _ _ from hI.at 910 O).2 (show RAc _ _ _ _ _ from hI.at 920 O)) ?_
         refine Vs 5 O ?_
         refine zjI Tryz.results11 O (fun w hI => ⟨_, rfl, by rw [znc rfl], hI.k1⟩)
        . exact absurd O k2
       . exact absurd hxs.symm k1
end Go.Proofs.YtbkhagigkglgoaaGreatDoor
