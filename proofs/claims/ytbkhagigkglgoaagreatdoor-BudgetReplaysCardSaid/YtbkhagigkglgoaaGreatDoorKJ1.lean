/-
  Contracts and the mathematics that the proof needs. Nothing here is a claim.
-/
import Derived.Test.YtbkhagigkglgoaaGreatDoorKV6
import Derived.WalkKit
import Derived.Deep.Quiet
import Derived.Deep.LoopGhost
import Derived.Below
import Derived.OrdersHeld
import Derived.KernelRfl
import Derived.WalkSpells
import Derived.ChangeKeysEq
import Derived.Lib.SliceRun
import Derived.Test.YtbkhagigkglgoaaGreatDoorRows
import Derived.ProofKit
import Derived.OpenShut
import Derived.ReadAgain
import Derived.ChangeBears
import Derived.Laws.Strings
import Derived.Test.YtbkhagigkglgoaaGreatDoorProg
import Derived.Maps.RangeRun
import Derived.MapKept
import Derived.Lib.AppendStr
import Derived.Lib.SmallJoins
import Derived.Lib.Builder
import Derived.Lib.UnsafeStr
import Derived.Laws.Externs
import Derived.Lib.ItoaNum
import Derived.Lib.ItoaMem
import Derived.Shelf.Strings.BuilderK
import Derived.Shelf.LaysM
import Derived.Shelf.Strconv.Itoa3
import Derived.Lib.ItoaLen
import Derived.Shelf.SlSortCmp.WholeK
import Derived.Ground.SlsfProg
import Derived.Shelf.SlSortCmp.NoneTotal
import Derived.Handed
import Derived.LaidLaws
import Derived.Test.YtbkhagigkglgoaaGreatDoorTie
import Derived.Test.YtbkhagigkglgoaaGreatDoorCards
namespace Go.GL
abbrev G.sp := @zlb
abbrev WD.sp := @zlc
abbrev V.sp := @zld
abbrev G.sb := @zle
end Go.GL
namespace Go.GL
section
variable {P : Program} {env : Env} {w : World} {dst : Option Tmp} {ty : TypeId} {pos : String} {aft : Array Edge} {g : Option (Nat × Bool)}
theorem R.field {s : TypeId} {x : Operand} {fld : Nat} {fields : Array Field} {f : Field} {cs : List Value} {v : Value} (hu : ∀ w, (underlying s).run P w = .ok (.struct fields) w) (hf : fields[fld]? = some f) (ht : ∀ w, (isAgg f.type).run P w = .ok false w)
  (hx : ev env x = some (.agg cs.toArray)) (hv : cs[f.offset]? = some v) : yo P ⟨dst, .field s x fld, ty, pos, aft, g⟩ env w v w := by
 intro n a ha
 simp [execOp, ha.eval hx, Instr.field, hu, hf, asAgg, part, ht, hv]
end
theorem St.plainB_eq (s : St) : s.plainB = ((if s.act = 3 then true else if s.act = 4 then s.els.isEmpty else s.thn.isEmpty && s.els.isEmpty) && zeW s.thn && zeW s.els) := by cases s; rw [St.plainB]; rfl
theorem znU {l : List St} (h : ∀ s ∈ l, s.plainB = true) : zeW l = true := by
 induction l with
 | nil => rfl
 | cons x r ih => rw [zeW, h x (zn4 ..), ih (fun s hs => h s (zn3 _ hs))]; rfl
end Go.GL
namespace Go.Proofs.YtbkhagigkglgoaaGreatDoor
open Go.GL
theorem znA {vs : List Vr} {nh : Nat} (l : List St) : ∀ top, zc vs nh l top = 0 -> zeW l = true := by
 induction l using zkS with
 | h l ih =>
 intro top h
 refine znU (fun s hs => ?_)
 obtain ⟨last, h2⟩ := xz l top h s hs
 obtain ⟨h3, _, _, h4, h5⟩ := qd h2
 rw [s.plainB_eq, (ih s hs).1 _ h4, (ih s hs).2 _ h5, Bool.and_true, Bool.and_true]
 split
 . rfl
 ·
  split
  . rename_i a4; rw [(h3.rep a4).2.2]; rfl
  . rename_i a3 a4; rw [(h3.free a3 a4).1, (h3.free a3 a4).2]; rfl
theorem znJ {f : Fl} (h : zS f = 0) : zeW f.body = true := znA _ _ (yr h).2.2.2.1
section
variable {f : Fl} (V : Valid f)
include V
theorem Valid.plain : zeW f.body = true := znJ V.ok
end
open Go.GL
def znQ (a b : Int) : Int := if a < b then -1 else if b < a then 1 else 0
theorem znB : ∀ (i : Nat) (xs ys : List Int), xs.take i = ys.take i -> i <= xs.length -> i <= ys.length -> jL xs ys = jL (xs.drop i) (ys.drop i)
 | 0, _, _, _, _, _ => rfl
 | i + 1, [], _, _, h, _ => by simp at h
 | i + 1, _ :: _, [], _, _, h => by simp at h
 | i + 1, x :: xs, y :: ys, h, h1, h2 => by
  simp only [List.take_succ_cons, List.cons.injEq] at h
  obtain ⟨rfl, h⟩ := h
  simp only [zns] at h1 h2
  simp only [List.drop_succ_cons]
  rw [<- znB i xs ys h (by omega) (by omega)]
  simp [jL]
theorem zjk (a b : Int) (W : World) : Calls Tryz.prog 73 #[.int .i64 a, .int .i64 b] W (Ret fun r w' => r = .int .i64 (znQ a b) /\ Ext W w') := by
 refine zlr Tryz.func73 O Tryz.ntmps73 O (zlC ?_)
 refine Vs 13 O ?_
 refine zjo O (fun h1 => ?_) (fun h1 => ?_)
 ·
  refine Vs 7 O ?_
  refine zjI Tryz.results73 O (fun w hI => ⟨_, rfl, by unfold znQ; rw [znb h1], hI.k0⟩)
 ·
  refine Vs 7 O ?_
  refine zlT tc101 O (fun w hI => yk (decide (b < a)) w) ?_
  refine Vs 4 O ?_
  refine zjI Tryz.results73 O (fun w hI => ⟨_, rfl, by unfold znQ; rw [zna h1]; by_cases h : b < a <;> simp [h], hI.k0⟩)
theorem zo0 {xs ys X Y : List Int} {t t' p q : Int} (h : jL xs ys = jL (p :: X) (q :: Y)) (hn : p ≠ q) : yD (xs, t) (ys, t') = znQ p q := by
 have e : jL (p :: X) (q :: Y) = znQ p q := by
  unfold znQ
  simp only [jL]
  split
  . rfl
  ·
   split
   . rfl
   . omega
 have n : znQ p q ≠ 0 := by
  unfold znQ
  split
  . decide
  ·
   split
   . decide
   . omega
 unfold yD
 dsimp only
 rw [h, e, znb n]
theorem znE {xs ys : List Int} {t t' : Int} {i : Nat} (h : jL xs ys = jL (xs.drop i) (ys.drop i)) (h1 : i <= xs.length) (h2 : i <= ys.length) (hi : xs.length <= i \/ ys.length <= i) (hn : (xs.length : Int) ≠ ys.length) : yD (xs, t) (ys, t') = znQ xs.length ys.length := by
 rcases hi with hi | hi
 ·
  obtain ⟨y, hy⟩ : ∃ y, ys[i]? = some y := ⟨_, zn0 (by omega)⟩
  rw [List.drop_of_length_le hi, qg hy] at h
  unfold yD znQ
  dsimp only
  rw [h, znb (show (xs.length : Int) < ys.length by omega)]
  rfl
 ·
  obtain ⟨x, hx⟩ : ∃ x, xs[i]? = some x := ⟨_, zn0 (by omega)⟩
  rw [List.drop_of_length_le hi, qg hx] at h
  unfold yD znQ
  dsimp only
  rw [h, zna (show ¬ (xs.length : Int) < ys.length by omega), znb (show (ys.length : Int) < xs.length by omega)]
  rfl
theorem zo1 {xs ys : List Int} {t t' : Int} {i : Nat} (h : jL xs ys = jL (xs.drop i) (ys.drop i)) (hi : xs.length <= i) (hj : ys.length <= i) : yD (xs, t) (ys, t') = znQ t t' := by
 rw [List.drop_of_length_le hi, List.drop_of_length_le hj] at h
 unfold yD znQ
 dsimp only
 rw [h]
 rfl
theorem zji (x y : List Int × Int) (u v : Value) (D D' : Nat -> Prop) (W : World) (hx : SlR 1 zz D W u x.1) (hy : SlR 1 zz D' W v y.1) :
  Calls Tryz.prog 39 #[.agg #[u, .int .i64 x.2], .agg #[v, .int .i64 y.2]] W (Ret fun r w' => r = .int .i64 (yD x y) /\ Ext W w') := by
 obtain ⟨xs, t⟩ := x
 obtain ⟨ys, t'⟩ := y
 dsimp only at hx hy
 obtain ⟨ax, cx, rfl⟩ := hx.form
 obtain ⟨ay, cy, rfl⟩ := hy.form
 have hmx := hx.max
 have hmy := hy.max
 refine zlr Tryz.func39 O Tryz.ntmps39 O (zlC ?_)
 refine Vs 2 O ?_
 refine V.box 2 O O (fun b2 => ?_)
 refine V.box 3 O O (fun b3 => ?_)
 refine Vs 10 O ?_
 refine zm5 (σ := Nat) [2, 3] [2, 3] [2, 3] O (fun e i => (5, .int .i64 i) :: e) (fun e i => e) (fun i => (i <= xs.length /\ i <= ys.length) /\ xs.take i = ys.take i) (fun i => xs.length - i) (0) (zkZ O) (zl0 O) (fun _ => rfl) (fun _ => rfl) (fun _ => rfl) (⟨⟨znf _, znf _⟩, rfl⟩) ?_
 rintro i ⟨⟨hi, hj⟩, he⟩
 refine Vs 9 O ?_
 refine zld 11 O (fun b1 => ?_) (fun b1 => ?_)
 ·
  refine Vs 8 O ?_
  refine zjo O (fun b2 => ?_) (fun b2 => ?_)
  ·
   refine Vs 5 O ?_
   obtain ⟨p, he_p, hm_p⟩ := gE_ xs (i) (by omega)
   obtain ⟨b_p, o_p, c_p, ha_p, _, hc_p, hR_p⟩ := hx.at he_p
   obtain rfl := hR_p
   refine zm1 1000 0 O O hc_p ?_
   obtain ⟨q, he_q, hm_q⟩ := gE_ ys (i) (by omega)
   obtain ⟨b_q, o_q, c_q, ha_q, _, hc_q, hR_q⟩ := hy.at he_q
   obtain rfl := hR_q
   refine zm1 2000 0 O O hc_q ?_
   have hdx := qg he_p
   have hdy := qg he_q
   have hcc := znB i xs ys he hi hj
   rw [hdx, hdy] at hcc
   refine Vq (by kernel_rfl) ?_
   refine Vs 3 O ?_
   refine zlM 1000 tR31 ts3 O ha_p (by omega) (_) (rfl) O ?_
   refine Vs 4 O ?_
   refine zlM 2000 tR31 ts3 O ha_q (by omega) (_) (rfl) O ?_
   refine Vs 4 O ?_
   refine zjo O (fun b3 => ?_) (fun b3 => ?_)
   ·
    refine Vs 1 O ?_
    refine Vw [2, 3, 1000, 2000] [] O ?_
    refine Vd [0, 1, 2, 5, 6, 7] 0 (by kernel_rfl) O O O ?_
    refine zlL 3 1000 tR31 ts3 O (by kernel_rfl) O ha_p (by omega) (_) (rfl) O ?_
    refine Vd [4] 0 (by kernel_rfl) O O O ?_
    refine zlL 8 2000 tR31 ts3 O (by kernel_rfl) O ha_q (by omega) (_) (rfl) O ?_
    refine Vd [9] 0 (by kernel_rfl) O O O ?_
    refine zlU 10 0 Tryz.call73 O (by kernel_rfl) O O (fun w hI => zjk p q w) ?_
    refine Vd [11] 0 (by kernel_rfl) O O O ?_
    refine VD.done (by kernel_rfl) ?_
    refine Vs 7 O ?_
    refine zjI Tryz.results39 O (fun w hI => ⟨_, rfl, by rw [zo0 hcc b3], hI.k0⟩)
   ·
    refine Va 8 O (by omega) ?_
    refine zjz (i + 1) (zkZ O) (zl0 O) (⟨⟨by omega, by omega⟩, by rw [List.take_add_one, List.take_add_one, he, he_p, he_q, zn9.1 b3]⟩) (by first | omega | (dsimp only; omega)) 0 O O
  ·
   have hcc := znB i xs ys he hi hj
   refine Vs 17 O ?_
   refine zjo O (fun b3 => ?_) (fun b3 => ?_)
   ·
    refine Vs 8 O ?_
    refine zlT Tryz.call73 O (fun w hI => zjk xs.length ys.length w) ?_
    refine Vs 5 O ?_
    refine zjI Tryz.results39 O (fun w hI => ⟨_, rfl, by rw [znE hcc hi hj (by omega) b3], hI.k0⟩)
   . exact absurd (by omega) b3
 ·
  have hcc := znB i xs ys he hi hj
  refine Vs 26 O ?_
  refine zjo O (fun b3 => ?_) (fun b3 => ?_)
  ·
   refine Vs 8 O ?_
   refine zlT Tryz.call73 O (fun w hI => zjk xs.length ys.length w) ?_
   refine Vs 5 O ?_
   refine zjI Tryz.results39 O (fun w hI => ⟨_, rfl, by rw [znE hcc hi hj (by omega) b3], hI.k0⟩)
  ·
   refine Vs 8 O ?_
   refine zlT Tryz.call73 O (fun w hI => zjk t t' w) ?_
   refine Vs 4 O ?_
   refine zjI Tryz.results39 O (fun w hI => ⟨_, rfl, by rw [zo1 hcc (by omega) (by omega)], hI.k0⟩)
theorem znR (vs : List Vr) (k : Int) (r : List Int) (vv rv : Value) (D D' : Nat -> Prop) (W : World) (hk : 0 <= k /\ k <= 3) (hg : ∀ v ∈ vs, yg (v.low, v.high)) (hlen : vs.length <= 1000000) (hvs : SlR 5 RVr D W vv vs) (hr : SlR 1 zz D' W rv r) :
  Calls Tryz.prog 38 #[vv, .int .i64 k, rv] W (Ret fun rr w' => rr = .tuple #[.int .i64 (qk k vs r).1, .int .i64 (qk k vs r).2] /\ Ext W w') := by
 obtain ⟨ar, cr, rfl⟩ := hr.form
 have hmr := hr.max
 refine zls Tryz.func38 O Tryz.ntmps38 O (zlC ?_)
 refine Vs 10 O ?_
 refine zlT Tryz.call66 O (fun w hI => zdo vs k vv D w hk hg hlen (Tr1 hI.k0 hvs)) ?_
 refine Vs 14 O ?_
 refine zjo O (fun c0 => ?_) (fun c0 => ?_)
 ·
  have hc : ¬ (zk k vs).isSome = true := fun h => c0 (znb h)
  refine Vs 9 O ?_
  refine zjL Tryz.results38 O O (fun w hI => ⟨_, rfl, by unfold qk; rw [zna hc, zna hc], hI.k0⟩)
 ·
  have hc : (zk k vs).isSome = true := by
   cases h : (zk k vs).isSome with
   | true => rfl
   | false => rw [h] at c0; exact absurd (by decide) c0
  refine Vs 6 O ?_
  refine zlV Tryz.call72 O (fun w hI => zbJ vs k vv D w (Tr1 hI.k0 hvs) hlen) ?_
  rintro l w1 w2 hI1 hk12 hos hlow
  obtain ⟨al, cl, rfl⟩ := hos.form
  have hml := hos.max
  refine Vs 13 O ?_
  refine zjo O (fun c1 => ?_) (fun c1 => ?_)
  ·
   refine Vs 8 O ?_
   refine zjL Tryz.results38 O O (fun w hI => ⟨_, rfl, by unfold qk; rw [znb hc, zna (by omega)], hI.k1⟩)
  ·
   have hel : r.length = (zd k vs).length := by omega
   refine Vs 14 O ?_
   refine zm5 (σ := Nat × Int) [2, 10] [] [] O (fun e ⟨i, n⟩ => (11, .int .i64 n) :: (12, .int .i64 i) :: e) (fun e ⟨i, n⟩ => e) (fun ⟨i, n⟩ => i <= (zd k vs).length /\ zdm ((zd k vs).drop i) (r.drop i) n = zdm (zd k vs) r 0 /\ ∃ m, zQ k ((zd k vs).take i) 1 = some m /\ 0 <= n /\ n < m) (fun ⟨i, n⟩ => (zd k vs).length - i) ((0, 0)) (zkZ O) (zl0 O) (fun _ => rfl) (fun _ => rfl) (fun _ => rfl) (⟨znf _, rfl, 1, rfl, by omega, by omega⟩) ?_
   rintro ⟨i, n⟩ ⟨hi, hrk, m, hm, hn0, hn1⟩
   show V _ _ _ _ _ ((11, .int .i64 n) :: (12, .int .i64 i) :: _) _ (_) _
   refine Vs 9 O ?_
   refine zjo O (fun hlt => ?_) (fun hlt => ?_)
   ·
    refine Vs 6 O ?_
    obtain ⟨x, he_x, hm_x⟩ := gE_ (zd k vs) (i) (by omega)
    obtain ⟨b_x, o_x, c_x, ha_x, hd_x, hc_x, hR_x⟩ := hos.atD he_x
    obtain rfl := hR_x
    refine zm2 1000 0 O O (fun h_ => by have h1_ := hlow _ h_; have h2_ := hd_x; first | omega | exact h1_ h2_) hc_x ?_
    obtain ⟨y, he_y, hm_y⟩ := gE_ r (i) (by omega)
    obtain ⟨b_y, o_y, c_y, ha_y, _, hc_y, hR_y⟩ := hr.at he_y
    obtain rfl := hR_y
    refine zm1 2000 1 O O hc_y ?_
    have hgx := hg x (xS hm_x)
    unfold yg at hgx
    dsimp only at hgx
    have hdx := qg he_x
    have hdy := qg he_y
    refine Vq (by kernel_rfl) ?_
    refine Vs 2 O ?_
    refine zlM 2000 tR31 ts3 O ha_y (by omega) (_) (rfl) O ?_
    refine Vs 3 O ?_
    refine zlM 1000 tR52 ts120 O ha_x (by omega) (_) (rfl) O ?_
    refine Vs 4 O ?_
    refine zld 46 O (fun b1 => ?_) (fun b1 => ?_)
    ·
     refine Vs 27 O ?_
     refine zjL Tryz.results38 O O (fun w hI => ⟨_, rfl, by unfold qk; rw [znb hc, znb hel, <- hrk, hdx, hdy]; unfold zdm; rw [znb (by omega)], hI.k1⟩)
    ·
     refine Vs 2 O ?_
     refine zlM 2000 tR31 ts3 O ha_y (by omega) (_) (rfl) O ?_
     refine Vs 3 O ?_
     refine zlM 1000 tR52 ts120 O ha_x (by omega) (_) (rfl) O ?_
     refine Vs 6 O ?_
     refine zjo O (fun d1 => ?_) (fun d1 => ?_)
     ·
      refine Vs 13 O ?_
      refine zjL Tryz.results38 O O (fun w hI => ⟨_, rfl, by unfold qk; rw [znb hc, znb hel, <- hrk, hdx, hdy]; unfold zdm; rw [znb (by omega)], hI.k1⟩)
     ·
      obtain ⟨m', hm'⟩ := zeu hc (i + 1)
      have hp := ym k ((zd k vs).take (i + 1)) 1 m' (fun v hv => hg v (xS (List.mem_of_mem_take hv))) (by omega) (by omega) hm'
      have hst := hm'
      rw [zg he_x, zL, hm] at hst
      have hkx : x.kind = k := of_decide_eq_true (List.mem_filter.1 hm_x).2
      have hmm : m * (x.high - x.low + 1) = m' := by
       simp only [Option.bind, zQ] at hst
       rw [znb hkx] at hst
       split at hst
       . cases hst
       . exact Option.some.inj hst
      have hrs := zft (s := x.high - x.low + 1) (x := y) (l := x.low) hn0 hn1 (by omega) (by omega) (by omega)
      refine Vs 2 O ?_
      refine Vq (by kernel_rfl) ?_
      refine Vs 3 O ?_
      refine zlM 1000 tR52 ts120 O ha_x (by omega) (_) (rfl) O ?_
      refine Vs 4 O ?_
      refine zlM 1000 tR52 ts120 O ha_x (by omega) (_) (rfl) O ?_
      refine Va 7 O (by omega) ?_
      refine zlM 2000 tR31 ts3 O ha_y (by omega) (_) (rfl) O ?_
      refine Va 4 O (by omega) ?_
      refine zlM 1000 tR52 ts120 O ha_x (by omega) (_) (rfl) O ?_
      refine Va 12 O (by omega) ?_
      refine zjz ((i + 1, n * (x.high - x.low + 1) + y - x.low)) (zkZ O) (zl0 O) (⟨by omega, by rw [<- hrk, hdx, hdy]; conv => rhs; unfold zdm; rw [zna (by omega)], m', hm', by omega, by omega⟩) (by first | omega | (dsimp only; omega)) 0 O O
   ·
    have : i = (zd k vs).length := by omega
    subst this
    rw [List.drop_length, <- hel, List.drop_length] at hrk
    refine Vs 13 O ?_
    refine zjL Tryz.results38 O O (fun w hI => ⟨_, rfl, by unfold qk; rw [znb hc, znb hel, <- hrk]; rfl, hI.k1⟩)
end Go.Proofs.YtbkhagigkglgoaaGreatDoor
namespace Go.GL
section
variable {P : Program} {n : Nat} {Q : Exit -> Act -> World -> Prop} {ks : List Fr} {env : Env} {A : Tgs} {H Hs : Hp} {Bs B0 : yc} {ops : Array Oper} {L : List Nat} {fuel : Nat} {listed : Array Bool}
variable {d : Nat} {ty : TypeId} {ps : String} {aft : Array Edge}
theorem zo5 {H : Hp} {f : FuncId} {args : Array Value} {w : World} {v : Value} (hc : Calls P f args w (Ret fun r w' => r = v /\ Ext w w')) : Calls P f args w (Ret fun r w' => ∃ _x : Unit, r = v /\ Hands H [] [] w w') := by
 refine hc.mono ?_
 rintro _ w' ⟨r, rfl, rfl, hk⟩
 exact ⟨_, rfl, (), rfl, hk.mono (fun q _ h => h.elim), (fun x hx => by cases hx), List.Pairwise.nil⟩
end
end Go.GL
namespace Go.Proofs.YtbkhagigkglgoaaGreatDoor
open Go.GL
theorem znS (x o : Ob) (u ov : Value) (b : Nat) (D D' : Nat -> Prop) (W : World) (hx : SlR 1 zz D W u x.1) (ho : SlR 1 zz D' W ov o.1) (hB : Cells W b 0 [ov, .int .i64 o.2]) :
  Calls Tryz.prog 92 #[.agg #[u, .int .i64 x.2], .pointer (some ⟨b, 0, none⟩)] W (Ret fun r w' => r = .bool (decide (x = o)) /\ Ext W w') := by
 obtain ⟨a1, c1, rfl⟩ := hx.form
 obtain ⟨a2, c2, rfl⟩ := ho.form
 refine zlr Tryz.func92 O Tryz.ntmps92 O (zlC ?_)
 refine zm2 900 0 O O (fun h => h) hB ?_
 refine zlJ 1 900 0 O O ?_
 refine Vs 2 O ?_
 refine V.box 2 O O (fun b2 => ?_)
 refine Vs 7 O ?_
 refine zlT Tryz.call39 O (fun w hI => zji x o _ _ D D' w (Tr1 hI.k0 hx) (Tr1 hI.k0 ho)) ?_
 refine Vs 5 O ?_
 refine zjI Tryz.results92 O (fun w hI => ⟨_, rfl, by rw [znr.2 (cmpOb_iff (x := x) (y := o))], hI.k0⟩)
theorem znF (l : List Ob) (o : Ob) (v ov : Value) (D D' : Nat -> Prop) (W : World) (hl : SlR 2 ROb D W v l) (ho : SlR 1 zz D' W ov o.1) :
  Calls Tryz.prog 60 #[v, .agg #[ov, .int .i64 o.2]] W (Ret fun r w' => r = .int .i64 (zhQ l o) /\ Ext W w') := by
 obtain ⟨a2, c2, rfl⟩ := ho.form
 refine zlr Tryz.func60 O Tryz.ntmps60 O (zlC ?_)
 refine Vs 2 O ?_
 refine V.box 3 O O (fun b3 => ?_)
 refine Vs 7 O ?_
 refine zlT Tryz.call50 O (fun w hI => zgN (fun x => decide (x = o)) l v D _ _ w Tryz.call92 (Tr1 hI.k0 hl) (fun x u w' hE _ hd => znS x o u _ b3 D D' w' hd (Tr1 ((hI.k0).trans hE (fun _ _ h => h)) ho) (hE.cells (Blk.cells (hI.at 3 O)) (fun h => h)))) ?_
 refine Vs 4 O ?_
 refine zjI Tryz.results60 O (fun w hI => ⟨_, rfl, by rw [zhY], hI.k0⟩)
theorem idxOb_neg {l : List Ob} {o : Ob} : zhQ l o < 0 ↔ o ∉ l := by
 unfold zhQ
 split
 . rename_i h; exact ⟨fun h' => by omega, fun h' => absurd h h'⟩
 . rename_i h; exact ⟨fun _ => h, fun _ => by omega⟩
theorem zjh (f : Fl) (vd : Valid f) (hr3 : zd 3 f.vars = []) (hs2 : (zk 2 f.vars).isSome = true) (pub rs : List Int) (v1 v2 v3 pv rv : Value) (D D' D2 : Nat -> Prop) (W : World) (hlen : rs.length <= 5000) (hf : RFl D W f v1 v2 v3) (hp : SlR 1 zz D' W pv pub) (hr : SlR 1 zz D2 W rv rs) :
  Calls Tryz.prog 35 #[.agg #[v1, v2, v3], pv, rv] W (Ret fun r w' => SlR 2 ROb (fun b => W.heap.size <= b) w' r (ze2 f pub rs) /\ Ext W w') := by
 obtain ⟨ap, cp, rfl⟩ := hp.form
 obtain ⟨ar, cr, rfl⟩ := hr.form
 refine zls Tryz.func35 O Tryz.ntmps35 O (zlC ?_)
 refine Vs 2 O ?_
 refine V.box 3 O O (fun b3 => ?_)
 refine Vs 5 O ?_
 refine zmc 11 tR76 ts60 O (fun b11 => ?_)
 refine Vs 11 O ?_
 refine zmh 11 (e' := OwP 60 2 ROb (fun _ => False) (.slice (some ⟨b11, 0, none⟩) 0 0) []) O (fun w hI => ⟨⟨[], hI.at 11 rfl, fun i x h => by simp at h⟩, fun _ h => h.elim⟩) OwP.loc (fun _ h => h) (fun q hq => hq.elim id False.elim) ?_
 refine Vs 1 O ?_
 refine zm5 (σ := Nat × Value × (Nat -> Prop) × List Ob) [1, 3, 12, 13] [3] [3] O (fun e ⟨i, v, F, l⟩ => (14, .int .i64 i) :: (7, v) :: e) (fun e ⟨i, v, F, l⟩ => (11, OwP 60 2 ROb F v l) :: e) (fun ⟨i, v, F, l⟩ => i <= rs.length /\ l.Nodup /\ l.length <= i /\ (∀ o, o ∈ l ↔ o ∈ (rs.take i).map (obN f pub))) (fun ⟨i, v, F, l⟩ => rs.length - i) ((0, .slice (some ⟨b11, 0, none⟩) 0 0, fun _ => False, [])) (zkZ O) (zl0 O) (fun _ => rfl) (fun _ => rfl) (fun _ => rfl) (⟨znf _, List.Pairwise.nil, znf _, fun o => by simp⟩) ?_
 rintro ⟨i, v, F, l⟩ ⟨hi, hn, hli, hmem⟩
 show V _ _ _ _ _ ((14, .int .i64 i) :: (7, v) :: _) _ ((11, OwP 60 2 ROb F v l) :: _) _
 refine Vs 6 O ?_
 refine zjo O (fun hlt => ?_) (fun hlt => ?_)
 ·
  refine Vs 6 O ?_
  obtain ⟨x, he_x, hm_x⟩ := gE_ rs (i) (by omega)
  obtain ⟨b_x, o_x, c_x, ha_x, _, hc_x, hR_x⟩ := hr.at he_x
  obtain rfl := hR_x
  refine zm1 1000 0 O O hc_x ?_
  refine zlK 1000 tR31 ts3 O ha_x (by omega) (_) (rfl) O ?_
  have htk : ∀ o, o ∈ (rs.take (i + 1)).map (obN f pub) ↔ o ∈ (rs.take i).map (obN f pub) \/ o = obN f pub x := fun o => by rw [zg he_x, List.map_append]; exact zbT
  refine Vs 9 O ?_
  refine zmn [] (Hn := fun y : Option Addr × Nat × (Nat -> Prop) => [(905, obE (obN f pub x) y)]) [(3, some (3, 0)), (16, some (1000, 0))] Tryz.call40 O (fun _ _ => rfl) (fun _ => rfl) (fun w hI => zhV 905 (zbK f vd hr3 hs2 pub x v1 v2 v3 _ D D' w (Tr1 hI.k0 hf) (Tr1 hI.k0 hp))) ?_
  rintro _ ⟨ao, co, G⟩ rfl
  refine V.alloc 10 tz60 O O (fun b10 => ?_)
  refine Vs 7 O ?_
  refine zlT Tryz.call60 O (fun w hI => znF l (obN f pub x) v _ _ G w ((show OwH _ _ _ _ _ _ _ from hI.at 11 O).sl (by omega) (fun q hq => hq)) (zfI (hI.at 905 O))) ?_
  refine Vs 3 O ?_
  refine zjo O (fun c => ?_) (fun c => ?_)
  ·
   have c := idxOb_neg.1 c
   refine Vs 3 O ?_
   refine zm8 28 [(0, _)] tR76 ts60 tz60 (by decide) O O (by kernel_rfl) (fun b28 => ?_)
   refine zmv [11, 905] (Hn := fun u => [(11, OwP 60 2 ROb (fun q => F q \/ G q) u (l ++ [obN f pub x]))]) (u := fun u => u) [(3, some (3, 0)), (10, some (10, 0)), (16, some (1000, 0))] O (fun _ => rfl) (fun _ => rfl) (fun w hI => zmx 11 905 28 hI O O O O Tryz.underlying76 Tryz.el60 O (by decide) O O O (fun D x cs h => zhi D x cs h) (by omega) (by omega)) (fun u11 => ?_)
   refine Va 8 O (by omega) ?_
   refine zjz (⟨i + 1, u11, fun q => F q \/ G q, l ++ [obN f pub x]⟩) (zkZ O) (zl0 O) (⟨by omega, List.nodup_append.2 ⟨hn, by simp, fun a ha b hb e => c (by rw [zni] at hb; rw [<- hb, <- e]; exact ha)⟩, by rw [zn8, List.length_singleton]; omega, fun o => by rw [zbT, hmem, htk]⟩) (by first | omega | (dsimp only; omega)) 0 O O
  ·
   have c := zn9.1 (fun h => c (idxOb_neg.2 h))
   refine Va 7 O (by omega) ?_
   refine zjz (⟨i + 1, v, F, l⟩) (zkZ O) (zl0 O) (⟨by omega, hn, by omega, fun o => by rw [htk, <- hmem]; exact ⟨.inl, fun h => h.elim id (fun h => by rw [h]; exact c)⟩⟩) (by first | omega | (dsimp only; omega)) 0 O O
 ·
  obtain rfl : i = rs.length := by omega
  rw [zn5] at hmem
  refine Vs 8 O ?_
  refine zlX 11 (E := fun l' => OwP 60 2 ROb F v l') Tryz.call67 O (fun _ => ⟨OwP.loc, fun _ h => h⟩) (fun w hI => zhW (k := 11) hI O (by omega) Tryz.call39 (fun x y u v D D' W hx hy => zji x y u v D D' W hx hy)) ?_
  rintro _ l' ⟨rfl, hperm, hpw⟩
  have hres := zcD hperm hn hpw hmem
  refine Vs 9 O ?_
  refine zjI Tryz.results35 O (fun w hI => ⟨_, rfl, by show SlR 2 ROb _ _ _ (zdn _); rw [<- hres]; exact (show OwH _ _ _ _ _ _ _ from hI.at 11 O).sl (by omega) (fun q hq => hI.own 11 0 O O q hq), hI.k0⟩)
theorem znG (f : Fl) (hlen : f.vars.length <= 1000000) (v1 v2 v3 : Value) (D : Nat -> Prop) (W : World) (hf : RFl D W f v1 v2 v3) : Calls Tryz.prog 43 #[.agg #[v1, v2, v3]] W (Ret fun r w' => r = .bool (decide (zd 3 f.vars ≠ [])) /\ Ext W w') := by
 refine zlq Tryz.func43 O Tryz.ntmps43 O (zlC ?_)
 refine Vs 2 O ?_
 refine V.box 1 O O (fun b1 => ?_)
 refine Vs 7 O ?_
 refine zlV Tryz.call72 O (fun w hI => zbJ f.vars 3 v1 D w (Tr1 hI.k0 hf.vars) hlen) ?_
 rintro l w1 w2 hI1 hk12 hos hlow
 obtain ⟨al, cl, rfl⟩ := hos.form
 refine Vs 6 O ?_
 refine zjI Tryz.results43 O (fun w hI => ⟨_, rfl, by rw [znr.2 (show (0 : Int) < ((zd 3 f.vars).length : Int) ↔ zd 3 f.vars ≠ [] by rw [<- List.length_pos_iff]; omega)], hI.k1⟩)
theorem znT (f : Fl) (hz : SzOk f) (pub : List Int) (v1 v2 v3 pv : Value) (D D' : Nat -> Prop) (W : World) (hf : RFl D W f v1 v2 v3) (hp : SlR 1 zz D' W pv pub) : Calls Tryz.prog 32 #[.agg #[v1, v2, v3], pv] W (Ret fun r w' => r = .int .i64 (zcG f pub) /\ Ext W w') := by
 refine zlr Tryz.func32 O Tryz.ntmps32 O (zlC ?_)
 refine Vs 2 O ?_
 refine V.box 2 O O (fun b2 => ?_)
 refine Vs 7 O ?_
 refine zlT Tryz.call42 O (fun w hI => jd f v1 v2 v3 D w (Tr1 hI.k0 hf) hz.size hz.bulk) ?_
 refine Vs 9 O ?_
 refine zjo O (fun c0 => ?_) (fun c0 => ?_)
 ·
  have ha : za0 f = zS f := znb c0
  refine Vs 8 O ?_
  refine zjI Tryz.results32 O (fun w hI => ⟨_, rfl, by unfold zcG; rw [ha, znb c0], hI.k0⟩)
 ·
  have c0 := zn9.1 c0
  have vd := zj1 hz c0
  have hl := vd.lens
  refine Vs 6 O ?_
  refine zlT Tryz.call43 O (fun w hI => znG f (by omega) v1 v2 v3 D w (Tr1 hI.k0 hf)) ?_
  refine Vs 2 O ?_
  refine zjo O (fun c1 => ?_) (fun c1 => ?_)
  ·
   have ha : za0 f = 14 := by unfold za0; rw [zna (znm c0), znb c1]
   refine Vs 7 O ?_
   refine zjI Tryz.results32 O (fun w hI => ⟨_, rfl, by unfold zcG; rw [ha]; rfl, hI.k0⟩)
  ·
   have ha : za0 f = 0 := by unfold za0; rw [zna (znm c0), zna c1]
   refine Vs 7 O ?_
   refine zlT Tryz.call38 O (fun w hI => znR f.vars 2 pub v1 pv D D' w (by decide) vd.good (by omega) (Tr1 hI.k0 hf.vars) (Tr1 hI.k0 hp)) ?_
   refine Vs 14 O ?_
   refine zjI Tryz.results32 O (fun w hI => ⟨_, rfl, by unfold zcG; rw [ha]; rfl, hI.k0⟩)
theorem znz (f : Fl) (vd : Valid f) (v1 v2 v3 : Value) (D : Nat -> Prop) (W : World) (hf : RFl D W f v1 v2 v3) : Calls Tryz.prog 33 #[.agg #[v1, v2, v3]] W (Ret fun r w' => r = .int .i64 (spN f) /\ Ext W w') := by
 have hl := vd.lens
 have hsp : (zk 1 f.vars).getD 0 = (spN f : Int) := by
  unfold spN
  cases h : zk 1 f.vars with
  | none => rfl
  | some m =>
   have := ym 1 f.vars 1 m vd.good (by omega) (by omega) h
   simp only [Option.getD_some]
   omega
 refine zlq Tryz.func33 O Tryz.ntmps33 O (zlC ?_)
 refine Vs 2 O ?_
 refine V.box 1 O O (fun b1 => ?_)
 refine Vs 7 O ?_
 refine zlT Tryz.call66 O (fun w hI => zdo f.vars 1 v1 D w (by decide) vd.good (by omega) (Tr1 hI.k0 hf.vars)) ?_
 refine Vs 14 O ?_
 refine zjI Tryz.results33 O (fun w hI => ⟨_, rfl, by rw [hsp], hI.k0⟩)
theorem znN (f : Fl) (vd : Valid f) (v1 v2 v3 : Value) (D : Nat -> Prop) (W : World) (hf : RFl D W f v1 v2 v3) : Calls Tryz.prog 48 #[.agg #[v1, v2, v3]] W (Ret fun r w' => SlR 1 zz (fun b => W.heap.size <= b) w' r (ko f) /\ Ext W w') := by
 have hsp := ze7 vd
 have hla : (ko f).length = spN f := by simp [ko]
 refine zlq Tryz.func48 O Tryz.ntmps48 O (zlC ?_)
 refine Vs 2 O ?_
 refine V.box 1 O O (fun b1 => ?_)
 refine Vs 5 O ?_
 refine zmc 5 tR31 ts3 O (fun b5 => ?_)
 refine Vs 7 O ?_
 refine zlT Tryz.call33 O (fun w hI => znz f vd v1 v2 v3 D w (Tr1 hI.k0 hf)) ?_
 refine Vs 4 O ?_
 refine zm5 (σ := Nat × Value) [7] [] [] O (fun e ⟨i, v⟩ => (8, .int .i64 i) :: (3, v) :: e) (fun e ⟨i, v⟩ => (5, .row 3 1 v i (((ko f).take i).map ze)) :: e) (fun ⟨i, v⟩ => i <= spN f) (fun ⟨i, v⟩ => spN f - i) ((0, .slice (some ⟨b5, 0, none⟩) 0 0)) (zkZ O) (zl0 O) (fun _ => rfl) (fun _ => rfl) (fun _ => rfl) (znf _) ?_
 rintro ⟨i, v⟩ hi
 show V _ _ _ _ _ ((8, .int .i64 i) :: (3, v) :: _) _ ((5, .row 3 1 v i (((ko f).take i).map ze)) :: _) _
 refine Vs 6 O ?_
 refine zjo O (fun hlt => ?_) (fun hlt => ?_)
 ·
  have zo : (ko f)[i]? = some (i : Int) := by simp [ko, List.getElem?_range (show i < spN f by omega)]
  refine Vs 13 O ?_
  refine zm8 13 [(0, _)] tR31 ts3 tz3 (by decide) O O (by kernel_rfl) (fun b13 => ?_)
  refine zlO 5 13 tu31 Tryz.el3 O (by decide) O O (by omega) (by omega) (fun u5 => ?_)
  refine Va 8 O (by omega) ?_
  refine zm4 5 O (e' := .row 3 1 u5 (i + 1) (((ko f).take (i + 1)).map ze)) (by rw [List.take_add_one, zo, List.map_append]; rfl) ?_
  refine zjz (⟨i + 1, u5⟩) (zkZ O) (zl0 O) (by omega) (by first | omega | (dsimp only; omega)) 0 O O
 ·
  obtain rfl : i = spN f := by omega
  refine zm4 5 O (e' := .row 3 1 v (ko f).length ((ko f).map ze)) (by rw [<- hla, zn5]) ?_
  refine Vs 12 O ?_
  refine zjI Tryz.results48 O (fun w hI => ⟨_, rfl, zkx ze (fun _ _ => rfl) (hI.at 5 O) (fun b hb => hI.own 5 0 O O b hb), hI.k0⟩)
theorem znO {α : Type} {R : Rel α} {D : Nat -> Prop} {w : World} (h1 : ∀ x cs, R D w x cs -> ∀ u ∈ cs, u.oneCell' = true) {ao : Option Addr} : ∀ (l : List α) (k : Nat), (∀ (i : Nat) x, l[i]? = some x -> ∃ b o cs, ao = some ⟨b, o, none⟩ /\ D b /\ cs.length = 2 /\ Cells w b (o + (k + i) * 2) cs /\ R D w x cs) -> ∃ css : List Cl2, css.length = l.length /\ (∀ (i : Nat) c, css[i]? = some c -> ∃ b o, ao = some ⟨b, o, none⟩ /\ D b /\ Cells w b (o + (k + i) * 2) c.1) /\ ∀ (i : Nat) x, l[i]? = some x -> R D w x (((css.flatMap Subtype.val).drop (i * 2)).take 2)
 | [], k, _ => ⟨[], rfl, fun i c h => by simp at h, fun i x h => by simp at h⟩
 | x :: l, k, h => by
  obtain ⟨b, o, cs, e1, e2, e3, e4, e5⟩ := h 0 x rfl
  obtain ⟨css, g1, g2, g3⟩ := znO h1 l (k + 1) (fun i y hy => by
   obtain ⟨b, o, cs, e1, e2, e3, e4, e5⟩ := h (i + 1) y (by simpa using hy)
   exact ⟨b, o, cs, e1, e2, e3, by rw [show k + 1 + i = k + (i + 1) by omega]; exact e4, e5⟩)
  refine ⟨⟨cs, e3, h1 x cs e5⟩ :: css, by simp [g1], fun i c hc => ?_, fun i y hy => ?_⟩
  ·
   cases i with
   | zero =>
    simp only [List.getElem?_cons_zero, Option.some.injEq] at hc
    subst hc
    exact ⟨b, o, e1, e2, e4⟩
   | succ i =>
    obtain ⟨b, o, a1, a2, a3⟩ := g2 i c (by simpa using hc)
    exact ⟨b, o, a1, a2, by rw [show k + (i + 1) = k + 1 + i by omega]; exact a3⟩
  ·
   cases i with
   | zero =>
    simp only [List.getElem?_cons_zero, Option.some.injEq] at hy
    subst hy
    simp only [List.flatMap_cons, Nat.zero_mul, List.drop_zero]
    rw [List.take_append_of_le_length (by omega), List.take_of_length_le (by omega)]
    exact e5
   | succ i =>
    have := g3 i y (by simpa using hy)
    simp only [List.flatMap_cons]
    rw [Nat.succ_mul, List.drop_append, List.drop_of_length_le (by omega), List.nil_append, e3, Nat.add_sub_cancel]
    exact this
theorem zo9 {l : List (Int × List Int)} {v : Value} {D : Nat -> Prop} {W : World} (hl : SlR 2 RQu D W v l) : ∃ css : List Cl2, css.length = l.length /\ SlR 2 RCl D W v css /\ ∀ (i : Nat) x, l[i]? = some x -> RQu D W x (((css.flatMap Subtype.val).drop (i * 2)).take 2) := by
 obtain ⟨ao, cap, rfl, q2, q3, q4⟩ := hl
 obtain ⟨css, c1, c2, c3⟩ := znO (fun x cs h => zfw D x cs h) l 0 (fun i x hx => by rw [Nat.zero_add]; exact q4 i x hx)
 exact ⟨css, c1, ⟨_, _, by rw [c1], by rw [c1]; exact q2, q3, fun i c hc => by
  obtain ⟨b, o, a1, a2, a3⟩ := c2 i c hc
  rw [Nat.zero_add] at a3
  exact ⟨b, o, c.1, a1, a2, c.2.1, a3, rfl⟩⟩, c3⟩
theorem znV (l : List Cl2) (hlen : l.length <= 1048576) (v : Value) (D : Nat -> Prop) (W : World) (hl : SlR 2 RCl D W v l) : Calls Tryz.prog 91 #[v] W (Ret fun r w' => (w'.ownsRow 0 33 2 r l.length (l.flatMap Subtype.val) /\ ∀ q, r.ownBlock = some q -> W.heap.size <= q) /\ Ext W w') := by
 obtain ⟨ao, co, rfl⟩ := hl.form
 refine zlq Tryz.func91 O Tryz.ntmps91 O (zlC ?_)
 refine Vs 9 O ?_
 refine zlh O (fun w hI => zkD tu24 O) ?_
 cases ao
 ·
  obtain rfl := zgX hl
  refine Vs 2 O ?_
  refine V.bool O (fun h => ?_) (fun h => ?_)
  ·
   refine Vs 7 O ?_
   refine zjI Tryz.results91 O (fun w hI => ⟨_, rfl, ⟨za5 _ _ _, (fun q hq => by cases hq)⟩, hI.k0⟩)
  . cases h
 ·
  refine Vs 2 O ?_
  refine V.bool O (fun h => ?_) (fun h => ?_)
  . cases h
  ·
   refine Vs 4 O ?_
   refine zmc 5 tR24 ts33 O (fun b5 => ?_)
   refine Vs 1 O ?_
   refine zma 5 Subtype.val (fun x => x.2.1) (fun x => x.2.2) (fun _ _ _ _ h => h) tu24 Tryz.el33 O (by decide) O (fun w hI => ⟨_, Tr1 hI.k0 hl⟩) (by omega) (by omega) (fun u5 => ?_)
   refine zm4 5 O (e' := .row 33 2 u5 l.length (l.flatMap Subtype.val)) (by rw [Nat.zero_add, List.nil_append]) ?_
   refine Vs 4 O ?_
   refine zjI Tryz.results91 O (fun w hI => ⟨_, rfl, ⟨hI.at 5 rfl, fun b hb => hI.own 5 0 O O b hb⟩, hI.k0⟩)
theorem znw {H : Hp} {l : List Cl2} (k : Nat) (hlen : l.length <= 1048576) {v : Value} {D : Nat -> Prop} {w : World} (hl : SlR 2 RCl D w v l) : Calls Tryz.prog 91 #[v] w (Ret fun r w' => ∃ y : Option Addr × Nat, r = .slice y.1 l.length y.2 /\ Hands H [] [(k, .row 33 2 (.slice y.1 l.length y.2) l.length (l.flatMap Subtype.val))] w w') := by
 refine (znV l hlen v D w hl).mono ?_
 rintro _ w' ⟨r, rfl, ⟨h1, h2⟩, hk⟩
 obtain ⟨ao, co, rfl⟩ := qH h1
 refine ⟨_, rfl, (ao, co), rfl, hk.mono fun q _ h => h.elim, fun x hx => ?_, List.pairwise_singleton _ _⟩
 rw [zni] at hx
 subst hx
 exact ⟨h1, trivial, fun _ h => h, fun q hq => ⟨.inr (h2 q hq), xj h1 hq⟩⟩
theorem znx (a : Ac) (u1 u2 : Value) (D : Nat -> Prop) (W : World) (ha : RAc D W a u1 u2) : Calls Tryz.prog 23 #[.agg #[.int .i64 a.mode, .int .i64 a.budget, .int .i64 a.spent, u1, u2]] W (Ret fun r w' => r = .bool (decide (ValidA a)) /\ Ext W w') := by
 have hl := ha.left
 obtain ⟨al, cl, rfl⟩ := hl.form
 obtain ⟨aq, cq, hq⟩ := ha.asked.form
 subst hq
 have hmx := hl.max
 refine zlq Tryz.func23 O Tryz.ntmps23 O (zlC ?_)
 refine Vs 2 O ?_
 refine V.box 1 O O (fun b1 => ?_)
 refine Vs 5 O ?_
 refine zm6 (σ := Unit) [1] [1] [1] O (fun e u => (46, .bool (decide (zi0 a \/ a.left.length < 1 \/ 4096 < a.left.length))) :: e) (fun e u => e) (fun u => True) (fun _ => rfl) (fun _ => rfl) ?_ ?_
 ·
  refine Vs 5 O ?_
  refine zld 8 O (fun k1_ => ?_) (fun k1_ => ?_)
  ·
   refine Vs 5 O ?_
   refine zld 13 O (fun k2_ => ?_) (fun k2_ => ?_)
   ·
    refine Vs 34 O ?_
    refine zjE (()) (Sub.cons (by first | exact yI (by omega) | exact yJ (by omega) | exact yK (by omega)) (zkZ O)) (zl0 O) (trivial) 0 O O
   ·
    refine Vs 5 O ?_
    refine zld 18 O (fun k3_ => ?_) (fun k3_ => ?_)
    ·
     refine Vs 29 O ?_
     refine zjE (()) (Sub.cons (by first | exact yI (by omega) | exact yJ (by omega) | exact yK (by omega)) (zkZ O)) (zl0 O) (trivial) 0 O O
    ·
     refine Vs 5 O ?_
     refine zld 23 O (fun k4_ => ?_) (fun k4_ => ?_)
     ·
      refine Vs 24 O ?_
      refine zjE (()) (Sub.cons (by first | exact yI (by omega) | exact yJ (by omega) | exact yK (by omega)) (zkZ O)) (zl0 O) (trivial) 0 O O
     ·
      refine Vs 5 O ?_
      refine zld 28 O (fun k5_ => ?_) (fun k5_ => ?_)
      ·
       refine Vs 19 O ?_
       refine zjE (()) (Sub.cons (by first | exact yI (by omega) | exact yJ (by omega) | exact yK (by omega)) (zkZ O)) (zl0 O) (trivial) 0 O O
      ·
       refine Vs 7 O ?_
       refine zld 35 O (fun k6_ => ?_) (fun k6_ => ?_)
       ·
        refine Vs 12 O ?_
        refine zjE (()) (Sub.cons (by first | exact yI (by omega) | exact yJ (by omega) | exact yK (by omega)) (zkZ O)) (zl0 O) (trivial) 0 O O
       ·
        refine Vs 6 O ?_
        refine zld 41 O (fun k7_ => ?_) (fun k7_ => ?_)
        ·
         refine Vs 6 O ?_
         refine zjE (()) (Sub.cons (by first | exact yI (by omega) | exact yJ (by omega) | exact yK (by omega)) (zkZ O)) (zl0 O) (trivial) 0 O O
        ·
         refine Vs 6 O ?_
         refine zjE (()) (Sub.cons (by first | exact yI (by omega) | exact yJ (by omega) | exact yK (by omega)) (zkZ O)) (zl0 O) (trivial) 0 O O
  ·
   refine Vs 10 O ?_
   refine zld 18 O (fun k2_ => ?_) (fun k2_ => ?_)
   ·
    refine Vs 29 O ?_
    refine zjE (()) (Sub.cons (by first | exact yI (by omega) | exact yJ (by omega) | exact yK (by omega)) (zkZ O)) (zl0 O) (trivial) 0 O O
   ·
    refine Vs 5 O ?_
    refine zld 23 O (fun k3_ => ?_) (fun k3_ => ?_)
    ·
     refine Vs 24 O ?_
     refine zjE (()) (Sub.cons (by first | exact yI (by omega) | exact yJ (by omega) | exact yK (by omega)) (zkZ O)) (zl0 O) (trivial) 0 O O
    ·
     refine Vs 5 O ?_
     refine zld 28 O (fun k4_ => ?_) (fun k4_ => ?_)
     ·
      refine Vs 19 O ?_
      refine zjE (()) (Sub.cons (by first | exact yI (by omega) | exact yJ (by omega) | exact yK (by omega)) (zkZ O)) (zl0 O) (trivial) 0 O O
     ·
      refine Vs 7 O ?_
      refine zld 35 O (fun k5_ => ?_) (fun k5_ => ?_)
      ·
       refine Vs 12 O ?_
       refine zjE (()) (Sub.cons (by first | exact yI (by omega) | exact yJ (by omega) | exact yK (by omega)) (zkZ O)) (zl0 O) (trivial) 0 O O
      ·
       refine Vs 6 O ?_
       refine zld 41 O (fun k6_ => ?_) (fun k6_ => ?_)
       ·
        refine Vs 6 O ?_
        refine zjE (()) (Sub.cons (by first | exact yI (by omega) | exact yJ (by omega) | exact yK (by omega)) (zkZ O)) (zl0 O) (trivial) 0 O O
       ·
        refine Vs 6 O ?_
        refine zjE (()) (Sub.cons (by first | exact yI (by omega) | exact yJ (by omega) | exact yK (by omega)) (zkZ O)) (zl0 O) (trivial) 0 O O
 rintro u _
 refine Vs 1 O ?_
 refine zjo O (fun c0 => ?_) (fun c0 => ?_)
 ·
  rcases c0 with c1 | c2
  ·
   refine Vs 7 O ?_
   refine zjI Tryz.results23 O (fun w hI => ⟨_, rfl, by rw [zi1 c1], hI.k0⟩)
  ·
   refine Vs 7 O ?_
   refine zjI Tryz.results23 O (fun w hI => ⟨_, rfl, by rw [ziF c2], hI.k0⟩)
 ·
  have c1 : ¬ zi0 a := fun h => c0 (.inl h)
  have c2 : ¬ (a.left.length < 1 \/ 4096 < a.left.length) := fun h => c0 (.inr h)
  refine Vs 12 O ?_
  refine zm5 (σ := Nat) [1, 48, 49] [1] [1] O (fun e i => (50, .int .i64 i) :: e) (fun e i => e) (fun i => AscT a.left i) (fun i => a.left.length - i) (0) (zkZ O) (zl0 O) (fun _ => rfl) (fun _ => rfl) (fun _ => rfl) (⟨znf _, by simp, by simp⟩) ?_
  rintro i hA
  have hle := hA.le
  refine Vs 6 O ?_
  refine zjo O (fun hlt => ?_) (fun hlt => ?_)
  ·
   refine Vs 7 O ?_
   obtain ⟨x, he_x, hm_x⟩ := gE_ a.left (i) (by omega)
   obtain ⟨b_x, o_x, c_x, ha_x, _, hc_x, hR_x⟩ := hl.at he_x
   obtain rfl := hR_x
   refine zm1 1000 0 O O hc_x ?_
   refine zlK 1000 tR31 ts3 O ha_x (by omega) (_) (rfl) O ?_
   refine Vs 10 O ?_
   refine zld 57 O (fun b1 => ?_) (fun b1 => ?_)
   ·
    refine Vs 31 O ?_
    refine zjI Tryz.results23 O (fun w hI => ⟨_, rfl, by rw [zhl he_x (.inl b1)], hI.k0⟩)
   ·
    refine Vs 4 O ?_
    refine zld 61 O (fun b2 => ?_) (fun b2 => ?_)
    ·
     refine Vs 27 O ?_
     refine zjI Tryz.results23 O (fun w hI => ⟨_, rfl, by rw [zhl he_x (.inr b2)], hI.k0⟩)
    ·
     refine Vs 3 O ?_
     refine zld 64 O (fun b3 => ?_) (fun b3 => ?_)
     ·
      obtain ⟨y, he_y, hm_y⟩ := gE_ a.left (i-1) (by omega)
      obtain ⟨b_y, o_y, c_y, ha_y, _, hc_y, hR_y⟩ := hl.at he_y
      obtain rfl := hR_y
      refine zm1 2000 0 O O hc_y ?_
      refine Va 5 O (by omega) ?_
      refine zlK 2000 tR31 ts3 O ha_y (by omega) (i - 1) (by omega) O ?_
      refine Vs 6 O ?_
      refine zjo O (fun b4 => ?_) (fun b4 => ?_)
      ·
       refine Vs 11 O ?_
       refine zjI Tryz.results23 O (fun w hI => ⟨_, rfl, by rw [ziG (by omega) he_x he_y b4], hI.k0⟩)
      ·
       refine Va 7 O (by omega) ?_
       refine zjz (i + 1) (zkZ O) (zl0 O) (hA.next he_x (by omega) fun p _ hp => by rw [he_y] at hp; cases hp; omega) (by first | omega | (dsimp only; omega)) 0 O O
     ·
      refine Va 20 O (by omega) ?_
      refine zjz (i + 1) (zkZ O) (zl0 O) (hA.next he_x (by omega) fun p h0 _ => absurd h0 (by omega)) (by first | omega | (dsimp only; omega)) 0 O O
  ·
   obtain rfl : i = a.left.length := by omega
   refine Vs 11 O ?_
   refine zjI Tryz.results23 O (fun w hI => ⟨_, rfl, by rw [zfO c1 c2 hA], hI.k0⟩)
theorem znW (p q : Int × List Int) (u v : Value) (b : Nat) (D D' : Nat -> Prop) (W : World) (hp : SlR 1 zz D W u p.2) (hq : SlR 1 zz D' W v q.2) (hB : Cells W b 0 [.int .i64 q.1, v]) : Calls Tryz.prog 85 #[.agg #[.int .i64 p.1, u], .pointer (some ⟨b, 0, none⟩)] W (Ret fun r w' => r = .bool (decide (p = q)) /\ Ext W w') := by
 obtain ⟨a1, c1, rfl⟩ := hp.form
 obtain ⟨a2, c2, rfl⟩ := hq.form
 refine zlr Tryz.func85 O Tryz.ntmps85 O (zlC ?_)
 refine zm2 900 0 O O (fun h => h) hB ?_
 refine zlJ 1 900 0 O O ?_
 refine Vs 2 O ?_
 refine V.box 2 O O (fun b2 => ?_)
 refine Vs 11 O ?_
 refine zld 9 O (fun e => ?_) (fun e => ?_)
 ·
  refine Vs 4 O ?_
  refine zlT tc18 O (fun w hI => qP p.2 q.2 _ _ D D' w (Tr1 hI.k0 hp) (Tr1 hI.k0 hq)) ?_
  refine Vs 5 O ?_
  refine zjI Tryz.results85 O (fun w hI => ⟨_, rfl, by rw [znr.2]; rw [Prod.ext_iff]; simp [e], hI.k0⟩)
 ·
  refine Vs 10 O ?_
  refine zjI Tryz.results85 O (fun w hI => ⟨_, rfl, by rw [znd (fun h => e (by rw [h]))], hI.k0⟩)
theorem znP (l : List (Int × List Int)) (q : Int × List Int) (lv v : Value) (D D' : Nat -> Prop) (W : World) (hl : SlR 2 RQu D W lv l) (hq : SlR 1 zz D' W v q.2) : Calls Tryz.prog 47 #[lv, .agg #[.int .i64 q.1, v]] W (Ret fun r w' => r = .bool (decide (q ∈ l)) /\ Ext W w') := by
 obtain ⟨a2, c2, rfl⟩ := hq.form
 refine zlr Tryz.func47 O Tryz.ntmps47 O (zlC ?_)
 refine Vs 2 O ?_
 refine V.box 3 O O (fun b3 => ?_)
 refine Vs 7 O ?_
 refine zlT Tryz.call84 O (fun w hI => zgP (fun p => decide (p = q)) l lv D _ _ w Tryz.call85 (Tr1 hI.k0 hl) (fun x u w' hE _ hd => znW x q u _ b3 D D' w' hd (Tr1 ((hI.k0).trans hE (fun _ _ h => h)) hq) (hE.cells (Blk.cells (hI.at 3 O)) (fun h => h)))) ?_
 refine Vs 4 O ?_
 refine zjI Tryz.results47 O (fun w hI => ⟨_, rfl, by rw [zi2], hI.k0⟩)
theorem znK {a : Ac} {f : Fl} {y : Int} (hv : ValidA a) (hy : a.left[a.left.length - 1]? = some y) : xe f a.left ↔ y < (spN f : Int) := by
 have hl := hv.l1
 constructor
 . intro h; exact (h y (zn1 hy)).2
 ·
  intro h x hx
  refine ⟨(hv.rng x hx).1, ?_⟩
  obtain ⟨i, hi⟩ := List.mem_iff_getElem?.1 hx
  obtain ⟨l1, e1⟩ := zne.1 hi
  obtain ⟨l2, e2⟩ := zne.1 hy
  rcases Nat.lt_or_ge i (a.left.length - 1) with h3 | h3
  ·
   have := List.pairwise_iff_getElem.1 hv.asc i (a.left.length - 1) l1 l2 h3
   omega
  ·
   have : i = a.left.length - 1 := by omega
   subst this
   omega
theorem znL (a : Ac) (ps : List Fl) (hz : ∀ f ∈ ps, SzOk f) (q : Qu) (u1 u2 pv qv : Value) (D D1 D2 : Nat -> Prop) (W : World) (ha : RAc D W a u1 u2) (hps : SlR 3 RPg D1 W pv ps) (hq : SlR 1 zz D2 W qv q.2) :
  Calls Tryz.prog 21 #[.agg #[.int .i64 a.mode, .int .i64 a.budget, .int .i64 a.spent, u1, u2], pv, .agg #[.int .i64 q.1, qv]] W (Ret fun r w' => r = .int .i64 (xC a ps q) /\ Ext W w') := by
 obtain ⟨qp, pub⟩ := q
 dsimp only at hq
 obtain ⟨a1, c1, h1⟩ := ha.left.form
 obtain ⟨a2, c2, h2⟩ := ha.asked.form
 have hal := ha.left
 subst h1 h2
 obtain ⟨ap, cp, rfl⟩ := hps.form
 obtain ⟨aq, cq, rfl⟩ := hq.form
 have hmp := hps.max
 have hma := hal.max
 refine zls Tryz.func21 O Tryz.ntmps21 O (zlC ?_)
 refine Vs 2 O ?_
 refine V.box 3 O O (fun b3 => ?_)
 refine V.box 5 O O (fun b5 => ?_)
 refine Vs 7 O ?_
 refine zlT Tryz.call23 O (fun w hI => znx a _ _ D w (Tr1 hI.k0 ha)) ?_
 refine zlh O (fun w hI => zkJ O (by first | exact za | rfl)) ?_
 refine Vs 2 O ?_
 refine zjo O (fun v0 => ?_) (fun v0 => ?_)
 ·
  refine Vs 7 O ?_
  refine zjI Tryz.results21 O (fun w hI => ⟨_, rfl, by rw [zeB v0], hI.k0⟩)
 ·
  have v0 := zn9.1 v0
  have hl1 := v0.l1
  refine Vs 4 O ?_
  refine zm6 (σ := Unit) [1, 3, 5] [3, 5] [3, 5] O (fun e u => (21, .bool (decide (qp < 0 \/ (ps.length : Int) <= qp))) :: e) (fun e u => e) (fun u => True) (fun _ => rfl) (fun _ => rfl) ?_ ?_
  ·
   refine Vs 5 O ?_
   refine zld 15 O (fun k1_ => ?_) (fun k1_ => ?_)
   ·
    refine Vs 7 O ?_
    refine zjE (()) (Sub.cons (by first | exact yI (by omega) | exact yJ (by omega) | exact yK (by omega)) (zkZ O)) (zl0 O) (trivial) 0 O O
   ·
    refine Vs 7 O ?_
    refine zjE (()) (Sub.cons (by first | exact yI (by omega) | exact yJ (by omega) | exact yK (by omega)) (zkZ O)) (zl0 O) (trivial) 0 O O
  rintro u _
  refine Vs 1 O ?_
  refine zjo O (fun q0 => ?_) (fun q0 => ?_)
  ·
   refine Vs 7 O ?_
   refine zjI Tryz.results21 O (fun w hI => ⟨_, rfl, by rw [zeC v0 q0], hI.k0⟩)
  ·
   obtain ⟨k, rfl⟩ : ∃ k : Nat, qp = (k : Int) := ⟨qp.toNat, by omega⟩
   refine Vs 7 O ?_
   obtain ⟨f, he_f, hm_f⟩ := gE_ ps (k) (by omega)
   obtain ⟨b_f, o_f, c_f, ha_f, _, hc_f, hR_f⟩ := hps.at he_f
   obtain ⟨v1_f, v2_f, v3_f, rfl, hf_f⟩ := hR_f
   obtain ⟨a1_f, n1_f, rfl⟩ := hf_f.vars.form
   obtain ⟨a2_f, n2_f, rfl⟩ := hf_f.hatches.form
   obtain ⟨a3_f, n3_f, rfl⟩ := hf_f.body.form
   refine zm1 1000 0 O O hc_f ?_
   refine zlK 1000 tR23 ts56 O ha_f (by omega) (_) (rfl) O ?_
   have hzf := hz f hm_f
   rw [zfQ v0 he_f]
   refine Vs 1 O ?_
   refine V.alloc 7 tz56 O O (fun b7 => ?_)
   refine Vs 9 O ?_
   refine zlT Tryz.call32 O (fun w hI => znT f hzf pub _ _ _ _ D1 D2 w (Tr1 hI.k0 hf_f) (Tr1 hI.k0 hq)) ?_
   refine Vs 9 O ?_
   refine zjo O (fun p0 => ?_) (fun p0 => ?_)
   ·
    refine Vs 8 O ?_
    refine zjI Tryz.results21 O (fun w hI => ⟨_, rfl, by unfold qPC; rw [znb p0], hI.k0⟩)
   ·
    have p0 := zn9.1 p0
    have vd := (zaM hzf (zfL p0).1).1
    refine Vs 4 O ?_
    obtain ⟨y, he_y, hm_y⟩ := gE_ a.left (a.left.length-1) (by omega)
    obtain ⟨b_y, o_y, c_y, ha_y, _, hc_y, hR_y⟩ := hal.at he_y
    obtain rfl := hR_y
    refine zm1 2000 0 O O hc_y ?_
    refine Vw [3, 5, 1000, 7, 2000] [] O ?_
    refine Vb [0, 1, 2, 3, 4, 5, 8] 0 (by kernel_rfl) O O O (by omega) ?_
    refine zlL 6 2000 tR31 ts3 O (by kernel_rfl) O ha_y (by omega) (a.left.length - 1) (by omega) O ?_
    refine Vd [7] 0 (by kernel_rfl) O O O ?_
    refine zlU 9 0 Tryz.call33 O (by kernel_rfl) O O (fun w hI => znz f vd _ _ _ D1 w (Tr1 hI.k0 hf_f)) ?_
    have hil := znK (f := f) v0 he_y
    refine Vd [10] 0 (by kernel_rfl) O O O ?_
    refine VD.done (by kernel_rfl) ?_
    refine Vs 1 O ?_
    refine zjo O (fun i0 => ?_) (fun i0 => ?_)
    ·
     refine Vs 7 O ?_
     refine zjI Tryz.results21 O (fun w hI => ⟨_, rfl, by unfold qPC; rw [zna (znm p0), zna (fun h => by have := hil.1 h; omega)], hI.k0⟩)
    ·
     refine Vs 8 O ?_
     refine zjI Tryz.results21 O (fun w hI => ⟨_, rfl, by unfold qPC; rw [zna (znm p0), znb (hil.2 (by omega))], hI.k0⟩)
theorem zjj (a : Ac) (hla : a.left.length <= 5000) (f : Fl) (vd : Valid f) (hr3 : zd 3 f.vars = []) (hs2 : (zk 2 f.vars).isSome = true) (q : Qu) (u1 u2 v1 v2 v3 qv : Value) (D D1 D2 : Nat -> Prop) (W : World) (ha : RAc D W a u1 u2) (hf : RFl D1 W f v1 v2 v3) (hq : SlR 1 zz D2 W qv q.2) :
  Calls Tryz.prog 22 #[.agg #[.int .i64 a.mode, .int .i64 a.budget, .int .i64 a.spent, u1, u2], .agg #[v1, v2, v3], .agg #[.int .i64 q.1, qv]] W (Ret fun r w' => r = .int .i64 (zK a f q) /\ Ext W w') := by
 obtain ⟨a1, c1, h1⟩ := ha.left.form
 obtain ⟨a2, c2, h2⟩ := ha.asked.form
 subst h1 h2
 obtain ⟨aq, cq, rfl⟩ := hq.form
 have hsp := ze7 vd
 have hal := zbU f
 refine zls Tryz.func22 O Tryz.ntmps22 O (zlC ?_)
 refine Vs 2 O ?_
 refine V.box 3 O O (fun b3 => ?_)
 refine V.box 4 O O (fun b4 => ?_)
 refine V.box 5 O O (fun b5 => ?_)
 refine Vs 11 O ?_
 refine zjo O (fun m0 => ?_) (fun m0 => ?_)
 ·
  refine Vs 7 O ?_
  refine zlV Tryz.call35 O (fun w hI => zjh f vd hr3 hs2 q.2 a.left v1 v2 v3 _ _ D1 D2 D w hla (Tr1 hI.k0 hf) (Tr1 hI.k0 hq) (Tr1 hI.k0 ha.left)) ?_
  rintro r2 w3 w4 hI3 hk34 hobs hlow2
  obtain ⟨ao, co, rfl⟩ := hobs.form
  refine Vs 6 O ?_
  refine zjI Tryz.results22 O (fun w hI => ⟨_, rfl, by unfold zK; rw [znb m0], hI.k1⟩)
 ·
  refine Vs 8 O ?_
  refine zlT Tryz.call47 O (fun w hI => znP a.asked q _ _ D D2 w (Tr1 hI.k0 ha.asked) (Tr1 hI.k0 hq)) ?_
  refine Vs 2 O ?_
  refine zjo O (fun b0 => ?_) (fun b0 => ?_)
  ·
   refine Vs 7 O ?_
   refine zjI Tryz.results22 O (fun w hI => ⟨_, rfl, by unfold zK; rw [zna m0, znb b0], hI.k0⟩)
  ·
   refine Vs 3 O ?_
   refine Vw [3, 4, 5] [] O ?_
   refine Vd [0, 1, 2, 3] 0 (by kernel_rfl) O O O ?_
   refine zlW 4 0 Tryz.call48 O (by kernel_rfl) O O (fun w hI => znN f vd v1 v2 v3 D1 w (Tr1 hI.k0 hf)) ?_
   rintro r1 w1 w2 hI1 hk12 hall hlow
   obtain ⟨al, cl, rfl⟩ := hall.form
   refine zlW 5 1 Tryz.call35 O (by kernel_rfl) O O (fun w hI => zjh f vd hr3 hs2 q.2 (ko f) v1 v2 v3 _ _ D1 D2 _ w (by omega) (Tr1 hI.k1 hf) (Tr1 hI.k1 hq) (hall.keep zb hI.k0 (fun b hb _ hs => by have := hlow b hs; omega))) ?_
   rintro r2 w3 w4 hI3 hk34 hobs hlow2
   obtain ⟨ao, co, rfl⟩ := hobs.form
   refine Vd [6, 7] 2 (by kernel_rfl) O O O ?_
   refine VD.done (by kernel_rfl) ?_
   refine Vs 2 O ?_
   refine zjI Tryz.results22 O (fun w hI => ⟨_, rfl, by unfold zK; rw [zna m0, zna b0], hI.k2⟩)
theorem znX : ∀ {vs : List Vr} {r : Int}, 0 <= r -> (∀ v ∈ vs, 1 <= v.high - v.low + 1) -> 0 <= (zD vs r).2 := fun h0 h => by
 rw [zaK h0 h]
 exact Int.ediv_nonneg h0 (by have := jO h; omega)
theorem zny {r : Int} (h0 : 0 <= r) : ∀ {vs : List Vr}, (∀ v ∈ vs, 1 <= v.high - v.low + 1) -> zdm vs (zD vs r).1 (zD vs r).2 = some r
 | [], _ => rfl
 | v :: vs, h => by
  have h1 := h v (zn4 ..)
  have hn := znX h0 fun x hx => h x (zn3 _ hx)
  have ih := zny h0 (vs := vs) fun x hx => h x (zn3 _ hx)
  simp only [zD, zdm]
  generalize (zD vs r).2 = m at hn ih
  have hs : 0 < v.high - v.low + 1 := by omega
  have e1 := Int.tmod_lt_of_pos m hs
  have e2 := Int.tmod_nonneg (v.high - v.low + 1) hn
  have e3 := Int.tdiv_mul_add_tmod m (v.high - v.low + 1)
  rw [zna (by omega), show m.tdiv (v.high - v.low + 1) * (v.high - v.low + 1) + (v.low + m.tmod (v.high - v.low + 1)) - v.low = m by omega]
  exact ih
theorem znC {f : Fl} (vd : Valid f) {r : Int} (h : zl 2 f.vars r = 0) : (qk 2 f.vars (zD (zd 2 f.vars) r).1).2 = 0 := by
 have hs := zcW vd.ok
 have hg : ∀ v ∈ zd 2 f.vars, 1 <= v.high - v.low + 1 := fun v hv => by have := vd.good v (List.mem_filter.1 hv).1; unfold yg at this; dsimp only at this; omega
 obtain ⟨m, hm⟩ := Option.isSome_iff_exists.1 hs
 have hp := zew hm
 unfold zl at h
 rw [znb hs, hm] at h
 simp only [Option.getD_some] at h
 split at h
 . cases h
 ·
  have h0 : 0 <= r := by omega
  have h1 : (zD (zd 2 f.vars) r).2 = 0 := by rw [zaK h0 hg]; exact Int.ediv_eq_zero_of_lt h0 (by omega)
  have h2 := zny h0 hg
  rw [h1] at h2
  unfold qk
  rw [znb hs, znb (xB _ _), h2]
theorem znY {a : Ac} {ps : List Fl} {f : Fl} {k : Nat} {r : Rc} (hv : ValidA a) (hk : ps[k]? = some f) (hr : r.prog = (k : Int)) (hz : SzOk f) (h : za0 f = 0) (h1 : zl 2 f.vars r.pub = 0) : xC a ps (kq f r) = if xe f a.left then 0 else 2 := by
 unfold kq
 rw [hr, zfQ hv hk]
 unfold qPC zcG
 rw [zna (znm h), znC (zaM hz h).1 h1, zna (by decide)]
theorem zo4 {w : World} {D : Nat -> Prop} {W : World} {v : Value} {l : List Qu} {xs : List Value} (hk : Ext W w) (h : w.ownsRow 0 33 2 v l.length xs) (hx : ∀ (i : Nat) x, l[i]? = some x -> RQu D W x ((xs.drop (i * 2)).take 2)) {D' : Nat -> Prop} (h1 : ∀ q, D q -> D' q) (h2 : ∀ q, v.ownBlock = some q -> D' q) : SlR 2 RQu D' w v l :=
 OwnR.sl (e := 33) (D := D) ⟨xs, h, fun i x hi => xT D D W w (fun _ h => h) (fun b _ hb => hk.block b hb (fun h => h)) x _ (hx i x hi)⟩ (by omega) xT h1 h2
theorem zo2 {D D2 : Nat -> Prop} {W : World} {l : List Qu} {xs : List Value} {q : Qu} {v : Value} (hl : xs.length = l.length * 2) (hx : ∀ (i : Nat) x, l[i]? = some x -> RQu D W x ((xs.drop (i * 2)).take 2)) (hq : SlR 1 zz D2 W v q.2) : ∀ (i : Nat) x, (l ++ [q])[i]? = some x -> RQu (fun b => D b \/ D2 b) W x (((xs ++ [.int .i64 q.1, v]).drop (i * 2)).take 2) := by
 intro i x hi
 by_cases h : i < l.length
 ·
  rw [znp h] at hi
  have := hx i x hi
  rw [List.drop_append_of_le_length (by omega), List.take_append_of_le_length (by rw [List.length_drop]; omega)]
  exact xT D _ W W (fun _ h => .inl h) (fun _ _ _ => rfl) x _ this
 ·
  rw [znq (by omega)] at hi
  have h0 : i - l.length = 0 := by
   have := (zne.1 hi).1
   simp at this
   omega
  rw [h0] at hi
  simp only [List.getElem?_cons_zero, Option.some.injEq] at hi
  subst hi
  have hi2 : i = l.length := by omega
  subst hi2
  rw [<- hl, List.drop_append_of_le_length (by omega), List.drop_length]
  exact ⟨v, rfl, hq.wide zb (fun _ h => .inr h)⟩
theorem znM (a : Ac) (hB : AcB a) (f : Fl) (vd : Valid f) (hr3 : zd 3 f.vars = []) (hs2 : (zk 2 f.vars).isSome = true) (q : Qu) (hsn : 0 <= a.spent * zK a f q /\ a.spent * zK a f q <= 1048576) (o : Ob) (u1 u2 v1 v2 v3 qv ov : Value) (D D1 D2 D3 : Nat -> Prop) (W : World) (ha : RAc D W a u1 u2) (hf : RFl D1 W f v1 v2 v3) (hq : SlR 1 zz D2 W qv q.2) (ho : SlR 1 zz D3 W ov o.1) :
  Calls Tryz.prog 59 #[.agg #[.int .i64 a.mode, .int .i64 a.budget, .int .i64 a.spent, u1, u2], .agg #[v1, v2, v3], .agg #[.int .i64 q.1, qv], .agg #[ov, .int .i64 o.2]] W (Ret fun r w' => (∃ r1 r2, r = .agg #[.int .i64 a.mode, .int .i64 a.budget, .int .i64 (a.spent * zK a f q), r1, r2] /\ RAc (fun b => D b \/ D2 b \/ W.heap.size <= b) w' (zaZ a f q (zK a f q) o) r1 r2) /\ Ext W w') := by
 have hl := ha.left
 have hqs := ha.asked
 obtain ⟨a1, c1, rfl⟩ := hl.form
 obtain ⟨css, k1, k2, k3⟩ := zo9 hqs
 obtain ⟨a2, c2, rfl⟩ := hqs.form
 obtain ⟨aq, cq, rfl⟩ := hq.form
 obtain ⟨ao, co, rfl⟩ := ho.form
 have hb1 := hB.ll
 have hb2 := hB.al
 have hml := hl.max
 have hmq := hqs.max
 have hxl : (css.flatMap Subtype.val).length = a.asked.length * 2 := by rw [yQ (enc := Subtype.val) (c := 2) (fun x : Cl2 => x.2.1), k1]
 generalize hxs : css.flatMap Subtype.val = xs at hxl k3
 refine zlt Tryz.func59 O Tryz.ntmps59 O (zlC ?_)
 refine Vs 2 O ?_
 refine V.box 4 O O (fun b4 => ?_)
 refine V.box 5 O O (fun b5 => ?_)
 refine V.box 6 O O (fun b6 => ?_)
 refine V.box 7 O O (fun b7 => ?_)
 refine V.alloc 8 tz37 O O (fun b8 => ?_)
 refine Vs 3 O ?_
 refine zm6 (σ := Nat × Option Addr × Nat) [4, 5, 6, 7, 8] [4, 5, 6, 7, 8] [4, 5, 6, 7, 8] O (fun e ⟨b9, ay, cy⟩ => (9, .pointer (some ⟨b9, 0, none⟩)) :: e) (fun e ⟨b9, ay, cy⟩ => (9, .own b9 [.int .i64 a.mode, .int .i64 a.budget, .int .i64 (a.spent * zK a f q), .slice none 0 0, .slice ay css.length cy] 37) :: (901, .row 33 2 (.slice ay css.length cy) css.length (css.flatMap Subtype.val)) :: e) (fun ⟨b9, ay, cy⟩ => True) (fun _ => rfl) (fun _ => rfl) ?_ ?_
 ·
  refine Vw [4, 5, 6, 7, 8] [] O ?_
  refine Vd [0, 1, 2, 3, 4, 5, 6, 7, 8, 11, 12] 0 (by kernel_rfl) O O O ?_
  refine zmI 9 15 9 0 [] (Hn := fun _x : Unit => []) [(4, some (4, 0)), (5, some (5, 0)), (6, some (6, 0)), (7, some (7, 0)), (8, some (8, 0)), (12, some (4, 0)), (14, some (4, 1)), (16, some (4, 2)), (23, some (4, 4))] Tryz.call22 O (by kernel_rfl) O O (fun _ => rfl) (fun _ _ => rfl) (fun _ => rfl) tz37 O (fun w hI => zo5 (zjj a hb1 f vd hr3 hs2 q _ _ _ _ _ _ D D1 D2 w (Tr1 hI.k0 ha) (Tr1 hI.k0 hf) (Tr1 hI.k0 hq))) ?_ (fun b9 => ?_)
  ·
   rintro _ ⟨⟩ rfl
   refine Vb [10] 0 (by kernel_rfl) O O O (by omega) ?_
   refine zmI 13 15 9 0 [] (Hn := fun y : Option Addr × Nat => [(901, .row 33 2 (.slice y.1 css.length y.2) css.length (css.flatMap Subtype.val))]) [(4, some (4, 0)), (5, some (5, 0)), (6, some (6, 0)), (7, some (7, 0)), (8, some (8, 0)), (12, some (4, 0)), (14, some (4, 1)), (16, some (4, 2)), (23, some (4, 4))] Tryz.call91 O (by kernel_rfl) O O (fun _ => rfl) (fun _ _ => rfl) (fun _ => rfl) tz37 O (fun w hI => znw 901 (by omega) (k2.ext zfM hI.k0)) ?_ (fun b9 => ?_)
   ·
    rintro _ ⟨ay, cy⟩ rfl
    refine zmf 14 [Value.int IntKind.i64 0, Value.int IntKind.i64 0, Value.int IntKind.i64 0, Value.slice none 0 0, Value.slice none 0 0] [(0, 1), (1, 1), (2, 1), (3, 1), (4, 1)] [(0, _), (1, _), (2, _), (4, _)] O (by kernel_rfl) O O (fun _ => by kernel_rfl) ?_
    refine zlI 15 9 0 O (by kernel_rfl) O O (fun _ _ => M.alloc tz37 O) (fun b9 => ?_)
    refine Ve 16 0 O (by kernel_rfl) O O O ?_
    refine VD.done (by kernel_rfl) ?_
    refine zjE (⟨_, ay, cy⟩) (zkZ O) (zl0 O) (trivial) 0 O O
   ·
    refine zmo 13 0 [] (Hn := fun y : Option Addr × Nat => [(901, .row 33 2 (.slice y.1 css.length y.2) css.length (css.flatMap Subtype.val))]) [(4, some (4, 0)), (5, some (5, 0)), (6, some (6, 0)), (7, some (7, 0)), (8, some (8, 0)), (9, some (9, 0)), (12, some (4, 0)), (14, some (4, 1)), (16, some (4, 2)), (23, some (4, 4))] Tryz.call91 O (by kernel_rfl) O O (fun _ => rfl) (fun _ _ => rfl) (fun _ => rfl) (fun w hI => znw 901 (by omega) (k2.ext zfM hI.k0)) ?_
    rintro _ ⟨ay, cy⟩ rfl
    refine zmf 14 [Value.int IntKind.i64 0, Value.int IntKind.i64 0, Value.int IntKind.i64 0, Value.slice none 0 0, Value.slice none 0 0] [(0, 1), (1, 1), (2, 1), (3, 1), (4, 1)] [(0, _), (1, _), (2, _), (4, _)] O (by kernel_rfl) O O (fun _ => by kernel_rfl) ?_
    refine Ve 16 0 O (by kernel_rfl) O O O ?_
    refine VD.done (by kernel_rfl) ?_
    refine zjE (⟨_, ay, cy⟩) (zkZ O) (zl0 O) (trivial) 0 O O
  ·
   refine zlU 9 0 Tryz.call22 O (by kernel_rfl) O O (fun w hI => zjj a hb1 f vd hr3 hs2 q _ _ _ _ _ _ D D1 D2 w (Tr1 hI.k0 ha) (Tr1 hI.k0 hf) (Tr1 hI.k0 hq)) ?_
   refine Vb [10] 0 (by kernel_rfl) O O O (by omega) ?_
   refine zmo 13 0 [] (Hn := fun y : Option Addr × Nat => [(901, .row 33 2 (.slice y.1 css.length y.2) css.length (css.flatMap Subtype.val))]) [(4, some (4, 0)), (5, some (5, 0)), (6, some (6, 0)), (7, some (7, 0)), (8, some (8, 0)), (9, some (9, 0)), (12, some (4, 0)), (14, some (4, 1)), (16, some (4, 2)), (23, some (4, 4))] Tryz.call91 O (by kernel_rfl) O O (fun _ => rfl) (fun _ _ => rfl) (fun _ => rfl) (fun w hI => znw 901 (by omega) (k2.ext zfM hI.k0)) ?_
   rintro _ ⟨ay, cy⟩ rfl
   refine zmf 14 [Value.int IntKind.i64 0, Value.int IntKind.i64 0, Value.int IntKind.i64 0, Value.slice none 0 0, Value.slice none 0 0] [(0, 1), (1, 1), (2, 1), (3, 1), (4, 1)] [(0, _), (1, _), (2, _), (4, _)] O (by kernel_rfl) O O (fun _ => by kernel_rfl) ?_
   refine Ve 16 0 O (by kernel_rfl) O O O ?_
   refine VD.done (by kernel_rfl) ?_
   refine zjE (⟨_, ay, cy⟩) (zkZ O) (zl0 O) (trivial) 0 O O
 rintro ⟨b9, ay, cy⟩ _
 show V _ _ _ _ _ ((9, .pointer (some ⟨b9, 0, none⟩)) :: _) _ ((9, .own b9 [.int .i64 a.mode, .int .i64 a.budget, .int .i64 (a.spent * zK a f q), .slice none 0 0, .slice ay css.length cy] 37) :: (901, .row 33 2 (.slice ay css.length cy) css.length (css.flatMap Subtype.val)) :: _) _
 refine zlJ 9 9 0 O O ?_
 refine Vs 10 O ?_
 refine zm4 901 O (e' := .row 33 2 (.slice ay css.length cy) a.asked.length xs) (by rw [hxs, <- k1]) ?_
 refine zlN 900 3 1 O ?_
 refine Vs 1 O ?_
 refine zm5 (σ := Nat × Value) [4, 5, 6, 7, 8, 9, 28, 29] [4, 5, 6, 7, 8] [4, 5, 6, 7, 8, 9] O (fun e ⟨i, v⟩ => (30, .int .i64 i) :: e) (fun e ⟨i, v⟩ => (9, .own b9 [.int .i64 a.mode, .int .i64 a.budget, .int .i64 (a.spent * zK a f q), v, (.slice ay css.length cy)] 37) :: (900, .row 3 1 v (yF f q.2 o (a.left.take i)).length ((yF f q.2 o (a.left.take i)).map ze)) :: (901, .row 33 2 (.slice ay css.length cy) a.asked.length xs) :: e) (fun ⟨i, v⟩ => i <= a.left.length) (fun ⟨i, v⟩ => a.left.length - i) ((0, .slice none 0 0)) (zkZ O) (zl0 O) (fun _ => rfl) (fun _ => rfl) (fun _ => rfl) (znf _) ?_
 rintro ⟨i, v⟩ hi
 show V _ _ _ _ _ ((30, .int .i64 i) :: _) _ ((9, .own b9 [.int .i64 a.mode, .int .i64 a.budget, .int .i64 (a.spent * zK a f q), v, (.slice ay css.length cy)] 37) :: (900, .row 3 1 v (yF f q.2 o (a.left.take i)).length ((yF f q.2 o (a.left.take i)).map ze)) :: (901, .row 33 2 (.slice ay css.length cy) a.asked.length xs) :: _) _
 have hlo := zfW f q.2 o (a.left.take i)
 rw [znt] at hlo
 refine Vs 6 O ?_
 refine zjo O (fun hlt => ?_) (fun hlt => ?_)
 ·
  refine Vs 6 O ?_
  obtain ⟨x, he_x, hm_x⟩ := gE_ a.left (i) (by omega)
  obtain ⟨b_x, o_x, c_x, ha_x, _, hc_x, hR_x⟩ := hl.at he_x
  obtain rfl := hR_x
  refine zm1 1000 0 O O hc_x ?_
  refine zlK 1000 tR31 ts3 O ha_x (by omega) (_) (rfl) O ?_
  have hto := zeF (f := f) (pub := q.2) (o := o) he_x
  refine Vs 5 O ?_
  refine Vw [4, 5, 6, 7, 8, 9, 1000] [] O ?_
  refine Vd [0, 1, 2, 3, 5] 0 (by kernel_rfl) O O O ?_
  refine zmo 4 0 [] (Hn := fun y : Option Addr × Nat × (Nat -> Prop) => [(905, obE (obN f q.2 x) y)]) [(4, some (4, 0)), (5, some (5, 0)), (6, some (6, 0)), (7, some (7, 0)), (8, some (8, 0)), (9, some (9, 0)), (32, some (1000, 0)), (35, some (6, 1))] Tryz.call40 O (by kernel_rfl) O O (fun _ => rfl) (fun _ _ => rfl) (fun _ => rfl) (fun w hI => zhV 905 (zbK f vd hr3 hs2 q.2 x v1 v2 v3 _ D1 D2 w (Tr1 hI.k0 hf) (Tr1 hI.k0 hq))) ?_
  rintro _ ⟨ax, cx, G⟩ rfl
  refine zlU 6 0 Tryz.call39 O (by kernel_rfl) O O (fun w hI => zji (obN f q.2 x) o _ _ G D3 w (zfI (hI.at 905 O)) (Tr1 hI.k0 ho)) ?_
  refine Vd [7] 0 (by kernel_rfl) O O O ?_
  refine VD.done (by kernel_rfl) ?_
  refine Vs 1 O ?_
  refine zjo O (fun c => ?_) (fun c => ?_)
  ·
   rw [znb (cmpOb_iff.1 c)] at hto
   refine Vs 4 O ?_
   refine zm8 45 [(0, _)] tR31 ts3 tz3 (by decide) O O (by kernel_rfl) (fun b45 => ?_)
   refine zlO 900 45 tu31 Tryz.el3 O (by decide) O O (by omega) (by omega) (fun u900 => ?_)
   refine Vs 1 O ?_
   refine zlQ 900 O (by omega) ?_
   rintro bq cq2 rfl hcap_900
   refine Va 8 O (by omega) ?_
   refine zm4 900 O (e' := .row 3 1 (.slice (some ⟨bq, 0, none⟩) ((yF f q.2 o (a.left.take i)).length + 1) cq2) (yF f q.2 o (a.left.take (i + 1))).length ((yF f q.2 o (a.left.take (i + 1))).map ze)) (by rw [hto, zn8, List.map_append]; rfl) ?_
   refine zjz (⟨i + 1, _⟩) (zkZ O) (zl0 O) (by omega) (by first | omega | (dsimp only; omega)) 0 O O
  ·
   rw [zna (fun e => c (cmpOb_iff.2 e)), List.append_nil] at hto
   refine zm4 900 O (e' := .row 3 1 v (yF f q.2 o (a.left.take (i + 1))).length ((yF f q.2 o (a.left.take (i + 1))).map ze)) (by rw [hto]) ?_
   refine Va 7 O (by omega) ?_
   refine zjz (⟨i + 1, v⟩) (zkZ O) (zl0 O) (by omega) (by first | omega | (dsimp only; omega)) 0 O O
 ·
  obtain rfl : i = a.left.length := by omega
  rw [zn5] at *
  refine Vs 7 O ?_
  refine zlD (fun w hI => qH (show w.ownsRow 0 3 1 v _ _ from hI.at 900 O)) ?_
  rintro ⟨av, cv, rfl⟩
  refine Vs 4 O ?_
  refine zlT Tryz.call47 O (fun w hI => znP a.asked q _ _ D D2 w (Tr1 hI.k0 ha.asked) (Tr1 hI.k0 hq)) ?_
  refine zlh O (fun w hI => zkJ O (by first | exact za | rfl)) ?_
  refine Vs 2 O ?_
  refine zjo O (fun b0 => ?_) (fun b0 => ?_)
  ·
   have hA : zaZ a f q (zK a f q) o = ⟨a.mode, a.budget, a.spent * zK a f q, yF f q.2 o a.left, a.asked ++ [q]⟩ := by unfold zaZ; rw [zna b0]
   rw [hA]
   refine Vs 4 O ?_
   refine zm8 57 [(0, _)] tR24 ts33 tz33 (by decide) O O (by kernel_rfl) (fun b57 => ?_)
   refine zlO 901 57 tu24 Tryz.el33 O (by decide) O O (by omega) (by omega) (fun u901 => ?_)
   refine Vs 1 O ?_
   refine zlQ 901 O (by omega) ?_
   rintro bz cz rfl hcap_901
   refine Vs 10 O ?_
   refine zm4 901 O (e' := .row 33 2 (.slice (some ⟨bz, 0, none⟩) (a.asked.length + 1) cz) (a.asked ++ [q]).length (xs ++ [.int .i64 q.1, .slice aq q.2.length cq])) (by rw [zn8]; rfl) ?_
   refine zjQ Tryz.results59 tg37 ts37 O O O (fun w hI => ⟨_, rfl, ⟨_, _, rfl, ⟨zkx ze (fun _ _ => rfl) (hI.at 900 O) (fun b hb => .inr (.inr (hI.own 900 0 O O b hb))), zo4 hI.k0 (hI.at 901 O) (zo2 hxl k3 hq) (fun b hb => hb.elim .inl (fun h => .inr (.inl h))) (fun b hb => .inr (.inr (hI.own 901 0 O O b hb)))⟩⟩, hI.k0⟩)
  ·
   have hA : zaZ a f q (zK a f q) o = ⟨a.mode, a.budget, a.spent * zK a f q, yF f q.2 o a.left, a.asked⟩ := by unfold zaZ; rw [znb (zn9.1 b0)]
   rw [hA]
   refine Vs 9 O ?_
   refine zjQ Tryz.results59 tg37 ts37 O O O (fun w hI => ⟨_, rfl, ⟨_, _, rfl, ⟨zkx ze (fun _ _ => rfl) (hI.at 900 O) (fun b hb => .inr (.inr (hI.own 900 0 O O b hb))), zo4 hI.k0 (hI.at 901 O) k3 (fun b hb => .inl hb) (fun b hb => .inr (.inr (hI.own 901 0 O O b hb)))⟩⟩, hI.k0⟩)
end Go.Proofs.YtbkhagigkglgoaaGreatDoor
namespace Go.GL
section
variable {P : Program} {n : Nat} {Q : Exit -> Act -> World -> Prop} {ks : List Fr} {pos : Pos} {env : Env} {A : Tgs} {H : Hp} {Bs : yc}
theorem zob (k j : Nat) {w0 : World} {S F : Nat -> Prop} {p : World -> Prop} (hn : (zo H k).isNone = true) (hp : Bs[j]? = some (w0, S)) (hl : (HE.dat F p).loc) (h0 : p w0) (hF : ∀ q, F q -> q < w0.heap.size /\ ¬ S q) (h : V P n Q ks pos env A ((k, .dat F p) :: H) Bs) : V P n Q ks pos env A H Bs := by
 refine fun hA w hI => h (hA.new (by simpa using hn)) w ?_
 have hb := hI.base _ (zn1 hp)
 have hk : (HE.dat F p).holds w := HE.keep (e := .dat F p) ⟨h0, fun q hq => (hF q hq).1⟩ hl hb.1 (fun q hq => hq.elim) fun b hb' => (hF b hb').2
 have hfz : ∀ x ∈ H, ∀ b, F b -> ¬ x.2.S b := fun x hx b hb' hs => by
  rcases hb.2 x hx b hs with h1 | h1
  . exact (hF b hb').2 h1
  ·
   have h1 : w0.heap.size <= b := h1
   have := (hF b hb').1
   omega
 refine ⟨?_, ?_, ?_, ?_, ?_, ?_⟩
 ·
  intro x hx
  rcases zng.1 hx with rfl | hx
  . exact hk
  . exact hI.holds x hx
 ·
  intro x hx
  rcases zng.1 hx with rfl | hx
  . exact hl
  . exact hI.loc x hx
 . exact List.pairwise_cons.2 ⟨fun x _ q hq => hq.elim, hI.apart⟩
 ·
  intro x hx y hy b hb' hs
  rcases zng.1 hy with rfl | hy
  . exact hs
  ·
   rcases zng.1 hx with rfl | hx
   . exact hfz y hy b hb' hs
   . exact hI.froz x hx y hy b hb' hs
 ·
  intro x hx q hq
  rcases zng.1 hx with rfl | hx
  . exact hq.elim
  . exact hI.low x hx q hq
 ·
  intro q hq
  refine ⟨(hI.base q hq).1, fun x hx b hb' => ?_⟩
  rcases zng.1 hx with rfl | hx
  . exact hb'.elim
  . exact (hI.base q hq).2 x hx b hb'
end
end Go.GL
namespace Go.Proofs.YtbkhagigkglgoaaGreatDoor
open Go.GL Go.ChangeShapes Go.WideShapes Go.ChangeAt Go.RowKit
section
variable {H : Type} {enc : TypeId × Value -> H} {w : World} {base : Nat} {sp : Nat -> Bool} {held : Bool}
theorem wtB.field {P : Program} {t : TypeId} {fs : Array Field} {parts : List (DataW H)} (h : wtB P t (.agg parts)) (ht : P.underlying t = some (.struct fs)) {i : Nat} {f : Field} {d : DataW H} (hf : fs[i]? = some f) (hd : parts[i]? = some d) : wtB P f.type d := fun n hn => by
 refine h n ?_
 rw [DataW.weights, ht]
 exact DataW.weights_mem_each (j := i) (by simp [hf]) hd n hn
theorem zoa {P : Program} {ts : List TypeId} {ds : List (DataW H)} (h : (DataW.weightsEach P ts ds).all (· <= reachBytes) = true) {j : Nat} {t : TypeId} {d : DataW H} (ht : ts[j]? = some t) (hd : ds[j]? = some d) : wtB P t d := fun n hn => by
 simpa using List.all_eq_true.1 h _ (DataW.weights_mem_each ht hd n hn)
theorem znH {P : Program} {fs : Array Field} {m : Nat} {cs : List Value} {xs : List (DataW H × List MemPlace)} (hx : xs.length = fs.size) (hat : ∀ (i : Nat) (f : Field), fs[i]? = some f -> DataW.trod enc P w base sp held m f.type ((cs.drop f.offset).take (P.cellsOf f.type)) = xs[i]?) (i : Nat) {f : Field} (hf : fs[i]? = some f) {c : Nat} (hc : P.cellsOf f.type = c) :
  ∃ y, DataW.trod enc P w base sp held m f.type ((cs.drop f.offset).take c) = some y /\ (xs.map (·.1))[i]? = some y.1 := by
 have h := hat i f hf
 have hi := (Array.getElem?_eq_some_iff.1 hf).1
 rw [zn0 (show i < xs.length by omega), hc] at h
 exact ⟨_, h, by rw [znh, zn0 (show i < xs.length by omega)]; rfl⟩
set_option maxRecDepth 100000 in
theorem zo6 (k : Nat) (cs : List Value) (x : DataW H × List MemPlace) (h : DataW.trod enc Tryz.prog w base sp held k 33 cs = some x) : ∃ t, RQu (fun _ => True) w t cs /\ (wtB Tryz.prog 33 x.1 -> t.2.length <= 17592186044416) := by
 obtain ⟨xs, m, hk, rfl, hl, hx, hat⟩ := DataW.trod_struct Tryz.underlying33 h
 rw [show Tryz.prog.cellsOf 33 = 2 by kernel_rfl] at hl
 match cs, hl with
 | [c0, c1], _ =>
  obtain ⟨y0, h0⟩ := zH hx hat 0 rfl (c := 1) (by kernel_rfl)
  obtain ⟨y1, h1, hy1⟩ := znH hx hat 1 rfl (c := 1) (by kernel_rfl)
  obtain ⟨n0, e0, _⟩ := DataW.trod_int tu3 h0
  obtain ⟨v1, l1, e1, hs1, hs2⟩ := zhr (fun _ => True) tu31 zgk (by decide) (fun _ _ _ _ _ => trivial) (fun n cs y _ hy => zhs tu3 hy) h1
  simp at e0 e1
  subst e0; subst e1
  refine ⟨(n0, l1), ⟨_, rfl, hs1⟩, fun hB => ?_⟩
  rcases hs2 with e | ⟨es, rs, e1, e2⟩
  . rw [e]; exact znf _
  ·
   have hb1 := hB.field (i := 1) Tryz.underlying33 rfl hy1
   rw [e1] at hb1
   have := (hb1.slice tu31).1
   rw [show Tryz.prog.bytesOf 3 = 8 by kernel_rfl, e2] at this
   have h3 : reachBytes < 2 ^ 47 := reachBytes_lt
   show l1.length <= 17592186044416
   omega
set_option maxRecDepth 100000 in
theorem zo7 (k : Nat) (cs : List Value) (x : DataW H × List MemPlace) (h : DataW.trod enc Tryz.prog w base sp held k 37 cs = some x) : ∃ (a : Ac) (u1 u2 : Value), cs = [.int .i64 a.mode, .int .i64 a.budget, .int .i64 a.spent, u1, u2] /\ RAc (fun _ => True) w a u1 u2 /\ (wtB Tryz.prog 37 x.1 -> ∀ p ∈ a.asked, p.2.length <= 17592186044416) := by
 obtain ⟨xs, m, hk, rfl, hl, hx, hat⟩ := DataW.trod_struct Tryz.underlying37 h
 rw [show Tryz.prog.cellsOf 37 = 5 by kernel_rfl] at hl
 match cs, hl with
 | [c0, c1, c2, c3, c4], _ =>
  obtain ⟨y0, h0⟩ := zH hx hat 0 rfl (c := 1) (by kernel_rfl)
  obtain ⟨y1, h1⟩ := zH hx hat 1 rfl (c := 1) (by kernel_rfl)
  obtain ⟨y2, h2⟩ := zH hx hat 2 rfl (c := 1) (by kernel_rfl)
  obtain ⟨y3, h3⟩ := zH hx hat 3 rfl (c := 1) (by kernel_rfl)
  obtain ⟨y4, h4, hy4⟩ := znH hx hat 4 rfl (c := 1) (by kernel_rfl)
  obtain ⟨n0, e0, _⟩ := DataW.trod_int Tryz.underlying22 h0
  obtain ⟨n1, e1, _⟩ := DataW.trod_int tu3 h1
  obtain ⟨n2, e2, _⟩ := DataW.trod_int tu3 h2
  obtain ⟨v3, l3, e3, hs3⟩ := zdD tu31 zgk (by decide) (fun n cs y hy => zhs tu3 hy) h3
  obtain ⟨v4, l4, e4, hs4, _⟩ := zhr (R := (fun D w q cs => RQu D w q cs /\ (wtB Tryz.prog 37 (DataW.agg (xs.map (·.1))) -> q.2.length <= 17592186044416) : Rel Qu)) (fun d => wtB Tryz.prog 37 (DataW.agg (xs.map (·.1))) -> wtB Tryz.prog 33 d) tu24 (show Tryz.prog.cellsOf 33 = 2 by kernel_rfl) (by decide) (fun es rs e d hd hB => by
   have hb4 := hB.field (i := 4) Tryz.underlying37 rfl hy4
   rw [e] at hb4
   exact (hb4.slice tu24).2 d hd) (fun n cs y hq hy => by
   obtain ⟨t, h1, h2⟩ := zo6 n cs y hy
   exact ⟨t, h1, fun hB => h2 (hq hB)⟩) h4
  simp at e0 e1 e2 e3 e4
  subst e0; subst e1; subst e2; subst e3; subst e4
  refine ⟨⟨n0, n1, n2, l3, l4⟩, _, _, rfl, ⟨hs3, hs4.map fun _ _ _ h => h.1⟩, fun hB p hp => ?_⟩
  obtain ⟨a2, c2, rfl⟩ := hs4.form
  obtain ⟨i, hi⟩ := List.mem_iff_getElem?.1 hp
  obtain ⟨_, _, _, _, _, _, _, h8⟩ := hs4.at hi
  exact h8 hB
set_option maxRecDepth 100000 in
theorem zo3 {r : Reach} {b0 : Nat} {v : Value} {d : DataW H} {ps : List MemPlace} (hval : Value.okWide Tryz.prog w r b0 37 v) (hd : DataW.Trod enc Tryz.prog w base sp held 37 v d ps) :
  ∃ (a : Ac) (u1 u2 : Value), v = .agg #[.int .i64 a.mode, .int .i64 a.budget, .int .i64 a.spent, u1, u2] /\ RAc (fun _ => True) w a u1 u2 /\ (wtB Tryz.prog 37 d -> ∀ p ∈ a.asked, p.2.length <= 17592186044416) := by
 unfold Value.okWide at hval
 rw [Tryz.underlying37] at hval
 obtain ⟨cs, rfl, hsz, _⟩ := hval
 obtain ⟨k, hn⟩ := hd
 obtain ⟨a, u1, u2, e, ha, hb⟩ := zo7 k _ _ hn
 simp [Value.cells] at e
 exact ⟨a, u1, u2, by rw [<- e], ha, hb⟩
set_option maxRecDepth 100000 in
theorem zo8 (k : Nat) (cs : List Value) (x : DataW H × List MemPlace) (h : DataW.trod enc Tryz.prog w base sp held k 91 cs = some x) : ∃ t, RRc (fun _ => True) w t cs := by
 obtain ⟨xs, m, hk, _, hl, hx, hat⟩ := DataW.trod_struct Tryz.underlying91 h
 rw [show Tryz.prog.cellsOf 91 = 9 by kernel_rfl] at hl
 match cs, hl with
 | [c0, c1, c2, c3, c4, c5, c6, c7, c8], _ =>
  obtain ⟨y0, h0⟩ := zH hx hat 0 rfl (c := 1) (by kernel_rfl)
  obtain ⟨y1, h1⟩ := zH hx hat 1 rfl (c := 1) (by kernel_rfl)
  obtain ⟨y2, h2⟩ := zH hx hat 2 rfl (c := 1) (by kernel_rfl)
  obtain ⟨y3, h3⟩ := zH hx hat 3 rfl (c := 1) (by kernel_rfl)
  obtain ⟨y4, h4⟩ := zH hx hat 4 rfl (c := 1) (by kernel_rfl)
  obtain ⟨y5, h5⟩ := zH hx hat 5 rfl (c := 1) (by kernel_rfl)
  obtain ⟨y6, h6⟩ := zH hx hat 6 rfl (c := 1) (by kernel_rfl)
  obtain ⟨y7, h7⟩ := zH hx hat 7 rfl (c := 1) (by kernel_rfl)
  obtain ⟨y8, h8⟩ := zH hx hat 8 rfl (c := 1) (by kernel_rfl)
  obtain ⟨n0, e0, _⟩ := DataW.trod_int tu3 h0
  obtain ⟨n1, e1, _⟩ := DataW.trod_int tu3 h1
  obtain ⟨n2, e2, _⟩ := DataW.trod_int tu3 h2
  obtain ⟨n3, e3, _⟩ := DataW.trod_int tu3 h3
  obtain ⟨n4, e4, _⟩ := DataW.trod_int tu3 h4
  obtain ⟨n5, e5, _⟩ := DataW.trod_int tu3 h5
  obtain ⟨n6, e6, _⟩ := DataW.trod_int tu3 h6
  obtain ⟨n7, e7, _⟩ := DataW.trod_int tu3 h7
  obtain ⟨n8, e8, _⟩ := DataW.trod_int tu3 h8
  simp at e0 e1 e2 e3 e4 e5 e6 e7 e8
  subst e0; subst e1; subst e2; subst e3; subst e4; subst e5; subst e6; subst e7; subst e8
  exact ⟨⟨n0, n1, n2, n3, n4, n5, n6, n7, n8⟩, rfl⟩
set_option maxRecDepth 100000 in
theorem znZ {r : Reach} {b0 : Nat} {v : Value} {d : DataW H} {ps : List MemPlace} (hval : Value.okWide Tryz.prog w r b0 84 v) (hd : DataW.Trod enc Tryz.prog w base sp held 84 v d ps) :
  ∃ l, SlR 9 RRc (fun _ => True) w v l := by
 obtain ⟨a, len, cap, rfl⟩ := okWide_slice Tryz.underlying84 hval
 obtain ⟨k, hn⟩ := hd
 obtain ⟨ev, es, hev, hsl⟩ := zdD Tryz.underlying84 (show Tryz.prog.cellsOf 91 = 9 by kernel_rfl) (by decide) (fun n cs y h => zo8 n cs y h) hn
 simp [Value.cells] at hev
 subst hev
 exact ⟨es, hsl⟩
end
end Go.Proofs.YtbkhagigkglgoaaGreatDoor
namespace Go.GL
theorem VI.fzs {Bs : yc} {H : Hp} {w : World} {k : Nat} {F : Nat -> Prop} {p : World -> Prop} (h : VI Bs H w) (hk : zo H k = some (.dat F p)) {q : Nat} (hq : F q) : ¬ HS H q := by
 rintro ⟨x, hx, hs⟩
 exact h.froz _ (zm hk) x hx q hq hs
end Go.GL
namespace Go.Proofs.YtbkhagigkglgoaaGreatDoor
open Go.GL
theorem leftO_none {f : Fl} {pub : List Int} {o : Ob} {l : List Int} : yF f pub o l = [] ↔ o ∉ ze2 f pub l := by
 constructor
 ·
  intro h ho
  obtain ⟨s, hs, rfl⟩ := List.mem_map.1 (mem_distO.1 ho)
  have : s ∈ yF f pub (obN f pub s) l := List.mem_filter.2 ⟨hs, znc rfl⟩
  rw [h] at this
  cases this
 ·
  intro h
  apply List.filter_eq_nil_iff.2
  intro s hs e
  exact h (of_decide_eq_true e ▸ zgJ hs)
theorem znI (a : Ac) (ps : List Fl) (hz : ∀ f ∈ ps, SzOk f) (rs : List Rc) (hal : a.asked.length + rs.length <= 100000) (hql : ∀ p ∈ a.asked, p.2.length <= 17592186044416) (u1 u2 pv rv : Value) (D D1 D2 : Nat -> Prop) (W : World) (ha : RAc D W a u1 u2) (hps : SlR 3 RPg D1 W pv ps) (hrs : SlR 9 RRc D2 W rv rs) :
  Calls Tryz.prog 37 #[.agg #[.int .i64 a.mode, .int .i64 a.budget, .int .i64 a.spent, u1, u2], pv, rv] W (Ret fun r' w' => (∃ r1 r2, r' = .tuple #[.agg #[.int .i64 (jo a ps rs).1.mode, .int .i64 (jo a ps rs).1.budget, .int .i64 (jo a ps rs).1.spent, r1, r2], .int .i64 (jo a ps rs).2] /\ RAc (fun b => D b \/ W.heap.size <= b) w' (jo a ps rs).1 r1 r2) /\ Ext W w') := by
 obtain ⟨a1, c1, h1⟩ := ha.left.form
 obtain ⟨a2, c2, h2⟩ := ha.asked.form
 subst h1 h2
 obtain ⟨ap, cp, rfl⟩ := hps.form
 obtain ⟨ar, cr, rfl⟩ := hrs.form
 have hmp := hps.max
 have hmr := hrs.max
 refine zls Tryz.func37 O Tryz.ntmps37 O (zlC ?_)
 refine Vs 2 O ?_
 refine V.box 3 O O (fun b3 => ?_)
 refine V.alloc 6 tz37 O O (fun b6 => ?_)
 refine Vs 7 O ?_
 refine zlT Tryz.call23 O (fun w hI => znx a _ _ D w (Tr1 hI.k0 ha)) ?_
 refine zlh O (fun w hI => zkJ O (by first | exact za | rfl)) ?_
 refine Vs 2 O ?_
 refine zjo O (fun v0 => ?_) (fun v0 => ?_)
 ·
  rw [zdy v0]
  refine Vs 2 O ?_
  refine zme [Value.int IntKind.i64 0, Value.int IntKind.i64 0, Value.int IntKind.i64 0, Value.slice none 0 0, Value.slice none 0 0] [(0, 1), (1, 1), (2, 1), (3, 1), (4, 1)] [] O O (fun _ => by kernel_rfl) ?_
  refine Vs 6 O ?_
  refine zjT Tryz.results37 tg37 ts37 O O O O (fun w hI => ⟨_, rfl, ⟨_, _, rfl, ⟨SlR.nil, SlR.nil⟩⟩, hI.k0⟩)
 ·
  have v0 := zn9.1 v0
  rw [zeE v0]
  refine Vs 10 O ?_
  refine zob 910 0 (F := fun q => D q /\ q < W.heap.size) (p := fun w => RAc (fun q => D q /\ q < W.heap.size) w a (.slice a1 a.left.length c1) (.slice a2 a.asked.length c2)) O O (AcD.loc) (ha.narrow) (fun q hq => ⟨hq.2, fun h => h⟩) ?_
  generalize hF0e : (fun q => D q /\ q < W.heap.size) = F0
  have hF0 : ∀ q, F0 q -> D q \/ W.heap.size <= q := fun q h => by rw [<- hF0e] at h; exact .inl h.1
  refine Vs 1 O ?_
  refine zm5 (σ := Nat × Ac × Y5) [1, 3, 6, 22, 23] [6] [3, 6] O (fun e ⟨i, b, ax, cx, az, cz, F⟩ => (24, .int .i64 i) :: e) (fun e ⟨i, b, ax, cx, az, cz, F⟩ => (3, .own b3 [.int .i64 b.mode, .int .i64 b.budget, .int .i64 b.spent, .slice ax b.left.length cx, .slice az b.asked.length cz] 37) :: (910, AcD F b (.slice ax b.left.length cx) (.slice az b.asked.length cz)) :: e) (fun ⟨i, b, ax, cx, az, cz, F⟩ => RpIn ps a rs i b /\ ∀ q, F q -> D q \/ W.heap.size <= q) (fun ⟨i, b, ax, cx, az, cz, F⟩ => rs.length - i) ((0, a, a1, c1, a2, c2, F0)) (zkZ O) (zl0 O) (fun _ => rfl) (fun _ => rfl) (fun _ => rfl) (⟨zkB v0 hql, hF0⟩) ?_
  rintro ⟨i, b, ax, cx, az, cz, F⟩ ⟨hin, hF⟩
  show V _ _ _ _ _ ((24, .int .i64 i) :: _) _ ((3, .own b3 [.int .i64 b.mode, .int .i64 b.budget, .int .i64 b.spent, .slice ax b.left.length cx, .slice az b.asked.length cz] 37) :: (910, AcD F b (.slice ax b.left.length cx) (.slice az b.asked.length cz)) :: _) _
  have hile := hin.le
  refine Vs 6 O ?_
  refine zjo O (fun hlt3 => ?_) (fun hlt3 => ?_)
  ·
   refine Vs 6 O ?_
   obtain ⟨r, he_r, hm_r⟩ := gE_ rs (i) (by omega)
   obtain ⟨b_r, o_r, c_r, ha_r, _, hc_r, hR_r⟩ := hrs.at he_r
   obtain rfl := hR_r
   refine zm1 1000 0 O O hc_r ?_
   refine zlK 1000 Tryz.runUnderlying84 Tryz.sizeOf91 O ha_r (by omega) (_) (rfl) O ?_
   refine Vs 1 O ?_
   refine V.alloc 9 Tryz.zeroValue91 O O (fun b9 => ?_)
   refine Vs 11 O ?_
   refine zjo O (fun g0 => ?_) (fun g0 => ?_)
   ·
    have hnx := hin.skip he_r g0
    refine Va 8 O (by omega) ?_
    refine zjz (⟨i + 1, b, ax, cx, az, cz, F⟩) (zkZ O) (zl0 O) (⟨hnx, hF⟩) (by first | omega | (dsimp only; omega)) 0 O O
   ·
    have hv := hin.ok
    have hab := zl2 hv (by have := hin.al; omega) hin.ql
    have hnx := hin.next hz he_r g0
    have hbd := hin.bad he_r g0
    clear hin
    obtain ⟨x0, x1, x2, x3, x4, qp, pub, an, chg⟩ := r
    dsimp only at *
    refine Vs 4 O ?_
    refine zm6 (σ := Unit) [1, 3, 6, 9, 22, 23, 24] [3, 6, 9, 910] [3, 6, 9] O (fun e u => (40, .bool (decide (qp < 0 \/ (ps.length : Int) <= qp))) :: e) (fun e u => e) (fun u => True) (fun _ => rfl) (fun _ => rfl) ?_ ?_
    ·
     refine Vs 5 O ?_
     refine zld 34 O (fun k1_ => ?_) (fun k1_ => ?_)
     ·
      refine Vs 7 O ?_
      refine zjE (()) (Sub.cons (by first | exact yI (by omega) | exact yJ (by omega) | exact yK (by omega)) (zkZ O)) (zl0 O) (trivial) 0 O O
     ·
      refine Vs 7 O ?_
      refine zjE (()) (Sub.cons (by first | exact yI (by omega) | exact yJ (by omega) | exact yK (by omega)) (zkZ O)) (zl0 O) (trivial) 0 O O
    rintro u _
    refine Vs 1 O ?_
    refine zjo O (fun q0 => ?_) (fun q0 => ?_)
    ·
     rw [zh0 q0] at hbd
     rw [hbd (by dsimp only; decide)]
     refine Vs 2 O ?_
     refine zme [Value.int IntKind.i64 0, Value.int IntKind.i64 0, Value.int IntKind.i64 0, Value.slice none 0 0, Value.slice none 0 0] [(0, 1), (1, 1), (2, 1), (3, 1), (4, 1)] [] O O (fun _ => by kernel_rfl) ?_
     refine Vs 11 O ?_
     refine zjT Tryz.results37 tg37 ts37 O O O O (fun w hI => ⟨_, rfl, ⟨_, _, rfl, ⟨SlR.nil, SlR.nil⟩⟩, hI.k0⟩)
    ·
     obtain ⟨k, rfl⟩ : ∃ k : Nat, qp = (k : Int) := ⟨qp.toNat, by omega⟩
     refine Vs 7 O ?_
     obtain ⟨f, he_f, hm_f⟩ := gE_ ps (k) (by omega)
     obtain ⟨b_f, o_f, c_f, ha_f, _, hc_f, hR_f⟩ := hps.at he_f
     obtain ⟨v1_f, v2_f, v3_f, rfl, hf_f⟩ := hR_f
     obtain ⟨a1_f, n1_f, rfl⟩ := hf_f.vars.form
     obtain ⟨a2_f, n2_f, rfl⟩ := hf_f.hatches.form
     obtain ⟨a3_f, n3_f, rfl⟩ := hf_f.body.form
     refine zm1 2000 0 O O hc_f ?_
     refine zlK 2000 tR23 ts56 O ha_f (by omega) (_) (rfl) O ?_
     have hzf := hz f hm_f
     rw [zfS he_f rfl] at hbd hnx
     refine Vs 1 O ?_
     refine V.alloc 10 tz56 O O (fun b10 => ?_)
     refine Vs 7 O ?_
     refine zlT Tryz.call42 O (fun w hI => jd f _ _ _ D1 w (Tr1 hI.k0 hf_f) hzf.size hzf.bulk) ?_
     refine Vs 9 O ?_
     refine zjo O (fun c0 => ?_) (fun c0 => ?_)
     ·
      have hac : za0 f = zS f := znb c0
      rw [zfU (hac ▸ c0), hac] at hbd
      rw [hbd c0]
      refine Vs 2 O ?_
      refine zme [Value.int IntKind.i64 0, Value.int IntKind.i64 0, Value.int IntKind.i64 0, Value.slice none 0 0, Value.slice none 0 0] [(0, 1), (1, 1), (2, 1), (3, 1), (4, 1)] [] O O (fun _ => by kernel_rfl) ?_
      refine Vs 12 O ?_
      refine zjT Tryz.results37 tg37 ts37 O O O O (fun w hI => ⟨_, rfl, ⟨_, _, rfl, ⟨SlR.nil, SlR.nil⟩⟩, hI.k0⟩)
     ·
      have c0 := zn9.1 c0
      have vd := zj1 hzf c0
      have hvl := vd.lens
      refine Vs 6 O ?_
      refine zlT Tryz.call43 O (fun w hI => znG f (by omega) _ _ _ D1 w (Tr1 hI.k0 hf_f)) ?_
      refine Vs 2 O ?_
      refine zjo O (fun c1 => ?_) (fun c1 => ?_)
      ·
       have hac : za0 f = 14 := by unfold za0; rw [zna (znm c0), znb c1]
       rw [zfU (by rw [hac]; decide), hac] at hbd
       rw [hbd (by decide)]
       refine Vs 2 O ?_
       refine zme [Value.int IntKind.i64 0, Value.int IntKind.i64 0, Value.int IntKind.i64 0, Value.slice none 0 0, Value.slice none 0 0] [(0, 1), (1, 1), (2, 1), (3, 1), (4, 1)] [] O O (fun _ => by kernel_rfl) ?_
       refine Vs 11 O ?_
       refine zjT Tryz.results37 tg37 ts37 O O O O (fun w hI => ⟨_, rfl, ⟨_, _, rfl, ⟨SlR.nil, SlR.nil⟩⟩, hI.k0⟩)
      ·
       have hac : za0 f = 0 := by unfold za0; rw [zna (znm c0), zna c1]
       have hr3 := zn9.1 c1
       have hs2 := zcW vd.ok
       have hul := xB (zd 2 f.vars) pub
       have hok := yA 2 f.vars
       refine Vs 8 O ?_
       refine zlV Tryz.call71 O (fun w hI => qD f.vars 2 pub _ D1 w (by decide) vd.good (by omega) (Tr1 hI.k0 hf_f.vars)) ?_
       rintro rr w1 w2 hI1 hk12 ⟨u, rfl, hu0, hu1⟩ hlow
       have e1 : W.heap.size <= w1.heap.size := hI1.k0.size
       refine Vs 14 O ?_
       refine zjo O (fun p0 => ?_) (fun p0 => ?_)
       ·
        rw [zi4 hac p0] at hbd
        rw [hbd (by dsimp only; decide)]
        refine Vs 2 O ?_
        refine zme [Value.int IntKind.i64 0, Value.int IntKind.i64 0, Value.int IntKind.i64 0, Value.slice none 0 0, Value.slice none 0 0] [(0, 1), (1, 1), (2, 1), (3, 1), (4, 1)] [] O O (fun _ => by kernel_rfl) ?_
        refine Vs 11 O ?_
        refine zjT Tryz.results37 tg37 ts37 O O O O (fun w hI => ⟨_, rfl, ⟨_, _, rfl, ⟨SlR.nil, SlR.nil⟩⟩, hI.k1⟩)
       ·
        have p0 := zn9.1 p0
        have hu := hu1 p0
        obtain ⟨au, cu, rfl⟩ := hu.form
        refine V.dat 905 0 O O O (hu) (fun q hq _ hs => by have := hlow q hs; omega) ?_
        have hqr := znY (r := ⟨x0, x1, x2, x3, x4, (k : Int), pub, an, chg⟩) hv he_f rfl hzf hac p0
        generalize hq : (zD (zd 2 f.vars) pub).1 = qu at *
        have hrq : kq f ⟨x0, x1, x2, x3, x4, (k : Int), pub, an, chg⟩ = ((k : Int), qu) := by unfold kq; rw [<- hq]
        rw [hrq] at hqr
        refine Vs 7 O ?_
        refine zme [Value.int IntKind.i64 0, Value.slice none 0 0] [(0, 1), (1, 1)] [(0, _), (1, _)] O O (fun _ => by kernel_rfl) ?_
        refine V.alloc 14 tz33 O O (fun b14 => ?_)
        refine Vs 9 O ?_
        refine zlT Tryz.call21 O (fun w hI => znL b ps hz ((k : Int), qu) _ _ _ _ F D1 _ w (hI.at 910 O).1 (Tr1 hI.k1 hps) (hI.at 905 O).1) ?_
        refine Vs 9 O ?_
        refine zjo O (fun i0 => ?_) (fun i0 => ?_)
        ·
         have i1 : ¬ xe f b.left := fun h => i0 (by rw [hqr, znb h])
         rw [zi5 hac p0 i1] at hbd
         rw [hbd (by dsimp only; decide), hqr, zna i1]
         refine Vs 2 O ?_
         refine zme [Value.int IntKind.i64 0, Value.int IntKind.i64 0, Value.int IntKind.i64 0, Value.slice none 0 0, Value.slice none 0 0] [(0, 1), (1, 1), (2, 1), (3, 1), (4, 1)] [] O O (fun _ => by kernel_rfl) ?_
         refine Vs 12 O ?_
         refine zjT Tryz.results37 tg37 ts37 O O O O (fun w hI => ⟨_, rfl, ⟨_, _, rfl, ⟨SlR.nil, SlR.nil⟩⟩, hI.k1⟩)
        ·
         have i1 : xe f b.left := Decidable.by_contra fun h => i0 (by rw [hqr, zna h]; decide)
         have b1 := hv.b1
         have b2 := hv.b2
         have s1 := hv.s1
         have s2 := hv.s2
         have hll := hv.l2
         have hal := zbU f
         have hsp := ze7 vd
         refine Vs 7 O ?_
         refine zlT Tryz.call22 O (fun w hI => zjj b hab.ll f vd hr3 hs2 ((k : Int), qu) _ _ _ _ _ _ F D1 _ w (hI.at 910 O).1 (Tr1 hI.k1 hf_f) (hI.at 905 O).1) ?_
         refine Vs 5 O ?_
         refine zm6 (σ := Unit) [1, 3, 6, 9, 10, 12, 14, 22, 23, 24] [3, 6, 9, 10, 14, 905, 910] [3, 6, 9, 10, 14] O (fun e u => (95, .bool (decide (chg ≠ zK b f ((k : Int), qu) \/ b.budget.tdiv b.spent < zK b f ((k : Int), qu)))) :: e) (fun e u => e) (fun u => True) (fun _ => rfl) (fun _ => rfl) ?_ ?_
         ·
          refine Vs 6 O ?_
          refine zld 87 O (fun g1 => ?_) (fun g1 => ?_)
          ·
           refine Vs 9 O ?_
           refine zjE (()) (Sub.cons (by first | exact yI (by omega) | exact yJ (by omega) | exact yK (by omega)) (zkZ O)) (zl0 O) (trivial) 0 O O
          ·
           refine Vs 5 O ?_
           refine zlh O (fun w hI => R.quo O O (by omega) (by omega)) ?_
           refine Vs 3 O ?_
           refine zjE (()) (Sub.cons (by first | exact yI (by omega) | exact yJ (by omega) | exact yK (by omega)) (zkZ O)) (zl0 O) (trivial) 0 O O
         rintro u _
         refine Vs 1 O ?_
         refine zjo O (fun g1 => ?_) (fun g1 => ?_)
         ·
          rw [zi6 hac p0 i1 (by rw [hrq]; exact g1)] at hbd
          rw [hbd (by dsimp only; decide)]
          refine Vs 2 O ?_
          refine zme [Value.int IntKind.i64 0, Value.int IntKind.i64 0, Value.int IntKind.i64 0, Value.slice none 0 0, Value.slice none 0 0] [(0, 1), (1, 1), (2, 1), (3, 1), (4, 1)] [] O O (fun _ => by kernel_rfl) ?_
          refine Vs 11 O ?_
          refine zjT Tryz.results37 tg37 ts37 O O O O (fun w hI => ⟨_, rfl, ⟨_, _, rfl, ⟨SlR.nil, SlR.nil⟩⟩, hI.k1⟩)
         ·
          have hpp := zaL (q := ((k : Int), qu)) hv i1
          have hcg : chg = zK b f ((k : Int), qu) := by omega
          have hsn := jn (b := b.budget) (s := b.spent) (p := zK b f ((k : Int), qu)) (by omega) s1 (by omega)
          have hsn0 : 0 <= b.spent * zK b f ((k : Int), qu) := znu (by omega) (by omega)
          refine Vs 3 O ?_
          refine Vw [3, 6, 9, 10, 14] [] O ?_
          refine Vd [0, 1, 2] 0 (by kernel_rfl) O O O ?_
          refine zlW 3 0 Tryz.call48 O (by kernel_rfl) O O (fun w hI => znN f vd _ _ _ D1 w (Tr1 hI.k1 hf_f)) ?_
          rintro r1 w3 w4 hI3 hk34 hall hlow2
          obtain ⟨al, cl, rfl⟩ := hall.form
          refine zlW 4 1 Tryz.call35 O (by kernel_rfl) O O (fun w hI => zjh f vd hr3 hs2 qu (ko f) _ _ _ _ _ D1 _ _ w (by omega) (Tr1 hI.k2 hf_f) (hI.at 905 O).1 (hall.keep zb hI.k0 (fun b hb _ hs => by have := hlow2 b hs; omega))) ?_
          rintro r2 w5 w6 hI5 hk56 hobs hlow3
          obtain ⟨ao, co, rfl⟩ := hobs.form
          have hob0 := hobs
          have hmo := hobs.max
          refine Vd [5] 2 (by kernel_rfl) O O O ?_
          refine VD.done (by kernel_rfl) ?_
          refine Vs 3 O ?_
          refine V.dat 906 0 O O O (hobs) (fun q hq _ hs => by have := hlow3 q hs; omega) ?_
          refine zjF (p := an < 0 \/ ((ze2 f qu (ko f)).length : Int) <= an) (fun nn => ?_) (fun nn => ?_)
          ·
           rw [zh2 hac p0 i1 (by rw [hrq]; exact g1) (by rw [hrq]; exact nn)] at hbd
           rw [hbd (by dsimp only; decide)]
           refine Vw [3, 6, 9, 10, 14] [] O ?_
           refine Vd [0, 1, 2, 3] 0 (by kernel_rfl) O O O ?_
           refine VD.sp 105 O (fun n0 => ?_) (fun n0 => ?_)
           ·
            refine Vd [4, 5, 6, 7, 8, 9, 10, 11, 12, 13, 14, 16, 17, 18, 19, 20] 0 (by kernel_rfl) O O O ?_
            refine VD.skip 15 0 O (by kernel_rfl) O O ?_
            refine VD.skip 21 0 O (by kernel_rfl) O O ?_
            refine Vd [22, 23] 0 (by kernel_rfl) O O O ?_
            refine VD.done (by kernel_rfl) ?_
            refine Vs 4 O ?_
            refine zme [Value.int IntKind.i64 0, Value.int IntKind.i64 0, Value.int IntKind.i64 0, Value.slice none 0 0, Value.slice none 0 0] [(0, 1), (1, 1), (2, 1), (3, 1), (4, 1)] [] O O (fun _ => by kernel_rfl) ?_
            refine Vs 11 O ?_
            refine zjT Tryz.results37 tg37 ts37 O O O O (fun w hI => ⟨_, rfl, ⟨_, _, rfl, ⟨SlR.nil, SlR.nil⟩⟩, hI.k3⟩)
           ·
            refine Vd [4, 5, 6, 7, 8, 9, 10] 0 (by kernel_rfl) O O O ?_
            refine VD.sp 112 O (fun n1 => ?_) (fun n1 => ?_)
            ·
             refine Vd [11, 12, 13, 14, 16, 17, 18, 19, 20] 0 (by kernel_rfl) O O O ?_
             refine VD.skip 15 0 O (by kernel_rfl) O O ?_
             refine VD.skip 21 0 O (by kernel_rfl) O O ?_
             refine Vd [22, 23] 0 (by kernel_rfl) O O O ?_
             refine VD.done (by kernel_rfl) ?_
             refine Vs 4 O ?_
             refine zme [Value.int IntKind.i64 0, Value.int IntKind.i64 0, Value.int IntKind.i64 0, Value.slice none 0 0, Value.slice none 0 0] [(0, 1), (1, 1), (2, 1), (3, 1), (4, 1)] [] O O (fun _ => by kernel_rfl) ?_
             refine Vs 11 O ?_
             refine zjT Tryz.results37 tg37 ts37 O O O O (fun w hI => ⟨_, rfl, ⟨_, _, rfl, ⟨SlR.nil, SlR.nil⟩⟩, hI.k3⟩)
            . omega
          ·
           obtain ⟨j, rfl⟩ : ∃ j : Nat, an = (j : Int) := ⟨an.toNat, by omega⟩
           obtain ⟨o, he_o, hm_o⟩ := gE_ (ze2 f qu (ko f)) (j) (by omega)
           obtain ⟨b_o, o_o, c_o, ha_o, hd_o, hc_o, hR_o⟩ := hob0.atD he_o
           obtain ⟨v1_o, rfl, hs_o⟩ := hR_o
           obtain ⟨a1_o, n1_o, rfl⟩ := hs_o.form
           refine zm2 3000 0 O O (fun h_ => by have h1_ := hlow3 _ h_; have h2_ := hd_o; first | omega | exact h1_ h2_) hc_o ?_
           refine Vw [3, 6, 9, 10, 14, 3000] [] O ?_
           refine Vd [0, 1, 2, 3] 0 (by kernel_rfl) O O O ?_
           refine VD.sp 105 O (fun n0 => ?_) (fun n0 => ?_)
           . omega
           ·
            refine Vd [4, 5, 6, 7, 8, 9, 10] 0 (by kernel_rfl) O O O ?_
            refine VD.sp 112 O (fun n1 => ?_) (fun n1 => ?_)
            . omega
            ·
             refine Vd [11, 12, 13, 14, 16, 17, 18] 0 (by kernel_rfl) O O O ?_
             refine zlL 19 3000 tR76 ts60 O (by kernel_rfl) O ha_o (by omega) (j) (by omega) O ?_
             refine Vd [20] 0 (by kernel_rfl) O O O ?_
             refine zlW 15 0 Tryz.call35 O (by kernel_rfl) O O (fun w hI => zjh f vd hr3 hs2 qu b.left _ _ _ _ _ D1 _ F w (by omega) (Tr1 hI.k3 hf_f) (hI.at 905 O).1 (hI.at 910 O).1.left) ?_
             rintro r3 w7 w8 hI7 hk78 hobl hlow4
             obtain ⟨am, cm, rfl⟩ := hobl.form
             refine zlU 21 1 Tryz.call60 O (by kernel_rfl) O O (fun w hI => znF (ze2 f qu b.left) o _ _ _ _ w (hobl.keep zaH hI.k0 (fun b hb _ hs => by have := hlow4 b hs; omega)) (hs_o.keep zb hI.k1 (fun b hb _ hs => by have := hlow3 b hs; omega))) ?_
             refine Vd [22, 23] 1 (by kernel_rfl) O O O ?_
             refine VD.done (by kernel_rfl) ?_
             refine Vs 1 O ?_
             refine zjo O (fun l0 => ?_) (fun l0 => ?_)
             ·
              have l1 : yF f qu o b.left = [] := leftO_none.2 (idxOb_neg.1 l0)
              rw [zi7 hac p0 i1 (by rw [hrq]; exact g1) rfl (by rw [hrq]; exact he_o) (by rw [hrq]; exact l1)] at hbd
              rw [hbd (by dsimp only; decide)]
              refine Vs 2 O ?_
              refine zme [Value.int IntKind.i64 0, Value.int IntKind.i64 0, Value.int IntKind.i64 0, Value.slice none 0 0, Value.slice none 0 0] [(0, 1), (1, 1), (2, 1), (3, 1), (4, 1)] [] O O (fun _ => by kernel_rfl) ?_
              refine Vs 11 O ?_
              refine zjT Tryz.results37 tg37 ts37 O O O O (fun w hI => ⟨_, rfl, ⟨_, _, rfl, ⟨SlR.nil, SlR.nil⟩⟩, hI.k4⟩)
             ·
              have l1 : yF f qu o b.left ≠ [] := fun e => l0 (idxOb_neg.2 (leftO_none.1 e))
              rw [zh3 hac p0 i1 (by rw [hrq]; exact g1) rfl (by rw [hrq]; exact he_o) (by rw [hrq]; exact l1), hrq] at hnx
              have hnx := hnx rfl
              refine Vs 2 O ?_
              refine Vw [3, 6, 9, 10, 14, 3000] [9] O ?_
              refine Vd [0, 1, 2, 3, 4, 5] 0 (by kernel_rfl) O O O ?_
              refine zlL 6 3000 tR76 ts60 O (by kernel_rfl) O ha_o (by omega) (j) (by omega) O ?_
              refine Vd [7] 0 (by kernel_rfl) O O O ?_
              refine zlW 8 0 Tryz.call59 O (by kernel_rfl) O O (fun w hI => znM b hab f vd hr3 hs2 ((k : Int), qu) ⟨hsn0, by omega⟩ o _ _ _ _ _ _ _ F D1 _ _ w (hI.at 910 O).1 (Tr1 hI.k4 hf_f) (hI.at 905 O).1 (hs_o.keep zb hI.k1 (fun b hb _ hs => by have := hlow3 b hs; omega))) ?_
              rintro rA wA wB hIA hkAB ⟨rA1, rA2, rfl, hacc⟩ hlowA
              obtain ⟨aL, cL, hL⟩ := hacc.left.form
              obtain ⟨aQ, cQ, hQ⟩ := hacc.asked.form
              subst hL hQ
              have eA : W.heap.size <= wA.heap.size := hIA.k4.size
              refine Vl 9 O (by kernel_rfl) O ?_
              refine VDx.done (by kernel_rfl) ?_
              refine Va 6 O (by omega) ?_
              have hfew : ∀ q, ((F q \/ (w1.heap.size <= q /\ q < w2.heap.size) \/ wA.heap.size <= q) /\ q < wB.heap.size) -> q < wB.heap.size /\ ¬ HS _ q := fun q hq => ⟨hq.2, fun hs => by
               rcases hq.1 with h | h | h
               . exact hIA.fzs (k := 910) O h hs
               . exact hIA.fzs (k := 905) O h hs
               ·
                have := hlowA q hs
                omega⟩
              have hnar := hacc.narrow
              refine V.del 910 O ?_
              refine zob 910 0 (F := fun q => (F q \/ (w1.heap.size <= q /\ q < w2.heap.size) \/ wA.heap.size <= q) /\ q < wB.heap.size) (p := fun w => RAc (fun q => (F q \/ (w1.heap.size <= q /\ q < w2.heap.size) \/ wA.heap.size <= q) /\ q < wB.heap.size) w (zaZ b f ((k : Int), qu) (zK b f ((k : Int), qu)) o) (.slice aL (zaZ b f ((k : Int), qu) (zK b f ((k : Int), qu)) o).left.length cL) (.slice aQ (zaZ b f ((k : Int), qu) (zK b f ((k : Int), qu)) o).asked.length cQ)) O O (AcD.loc) (hnar) (hfew) ?_
              dsimp only at hnx
              rw [hcg] at hnx
              refine zjz (⟨i + 1, zaZ b f ((k : Int), qu) (zK b f ((k : Int), qu)) o, aL, cL, aQ, cQ, fun q => (F q \/ (w1.heap.size <= q /\ q < w2.heap.size) \/ wA.heap.size <= q) /\ q < wB.heap.size⟩) (zkZ O) (zl0 O) (⟨hnx, fun q hq => hq.1.elim (hF q) fun h => .inr (h.elim (fun h => by omega) fun h => by omega)⟩) (by first | omega | (dsimp only; omega)) 5 O O
  ·
   obtain rfl : i = rs.length := by omega
   rw [hin.done]
   refine Vs 13 O ?_
   refine zjT Tryz.results37 tg37 ts37 O O O O (fun w hI => ⟨_, rfl, ⟨_, _, rfl, (hI.at 910 O).1.wide hF⟩, hI.k0⟩)
theorem znD (a : Ac) (ps : List Fl) (rs : List Rc) (u1 u2 pv rv : Value) (D D1 D2 : Nat -> Prop) (W : World) (ha : RAc D W a u1 u2) (hps : SlR 3 RPg D1 W pv ps) (hrs : SlR 9 RRc D2 W rv rs) (ht : Tab W) (hql : ∀ p ∈ a.asked, p.2.length <= 17592186044416) :
  Calls Tryz.prog 10 #[.agg #[.int .i64 a.mode, .int .i64 a.budget, .int .i64 a.spent, u1, u2], pv, rv] W (Ret fun r w' => r = .bool true /\ Ext W w') := by
 have han := ha.narrow
 obtain ⟨a1, c1, h1⟩ := ha.left.form
 obtain ⟨a2, c2, h2⟩ := ha.asked.form
 subst h1 h2
 obtain ⟨ap, cp, rfl⟩ := hps.form
 obtain ⟨ar, cr, rfl⟩ := hrs.form
 have hmp := hps.max
 have hmr := hrs.max
 refine zls Tryz.func10 O Tryz.ntmps10 O (zlC ?_)
 refine Vs 2 O ?_
 refine V.box 3 O O (fun b3 => ?_)
 refine Vs 6 O ?_
 refine zlT Tryz.call12 O (fun w hI => zeI w (Tr1 hI.k0 ht)) ?_
 refine zlh O (fun w hI => zkJ O (by first | exact za | rfl)) ?_
 refine Vs 2 O ?_
 refine V.bool O (fun k0 => ?_) (fun k0 => ?_)
 . cases k0
 ·
  refine Vs 3 O ?_
  refine zm6 (σ := Unit) [1, 2, 3] [3] [3] O (fun e u => e) (fun e u => e) (fun u => (a.left.length <= 20 /\ a.asked.length <= 8 /\ ∀ f ∈ ps, SzOk f) /\ rs.length <= 10) (fun _ => rfl) (fun _ => rfl) ?_ ?_
  ·
   refine Vs 4 O ?_
   refine zlV Tryz.call19 O (fun w hI => zgW a ps a.mode a.budget a.spent _ _ _ D D1 w (Tr1 hI.k0 ha) (Tr1 hI.k0 hps)) ?_
   rintro rr w1 w2 hI1 hk12 ⟨b0, rfl, hb0⟩ hlow
   refine zlh O (fun w hI => zkJ O (by first | exact za | rfl)) ?_
   refine Vs 1 O ?_
   refine V.sb 17 O (fun q1 => ?_) (fun q1 => ?_)
   ·
    refine Vs 15 O ?_
    refine zjI Tryz.results10 O (fun w hI => ⟨_, rfl, rfl, hI.k1⟩)
   ·
    have hb := hb0 (by simpa using q1)
    refine Vs 6 O ?_
    refine zjo O (fun q2 => ?_) (fun q2 => ?_)
    ·
     refine Vs 8 O ?_
     refine zjI Tryz.results10 O (fun w hI => ⟨_, rfl, rfl, hI.k1⟩)
    ·
     refine Vs 1 O ?_
     refine zjE (()) (zkZ O) (zl0 O) (⟨⟨hb.2.1, hb.2.2.1, hb.2.2.2⟩, by omega⟩) 1 O O
  rintro u ⟨⟨hl, hal, hz⟩, hrl⟩
  have hno : a.asked.length + rs.length <= 100000 := by omega
  generalize hR : jo a ps rs = R
  refine Vs 6 O ?_
  refine zmn [] (Hn := fun y : Y5 => [(910, acY y.2.2.2.2 R.1 y)]) [(3, some (3, 0))] Tryz.call36 O (fun _ _ => rfl) (fun _ => rfl) (fun w hI => (by have h := zdB a ps hz rs hno hql _ _ _ _ D D1 D2 w (Tr1 hI.k0 ha) (Tr1 hI.k0 hps) (Tr1 hI.k0 hrs) (Tr1 hI.k0 ht); rw [hR] at h; exact zg4 910 h)) ?_
  rintro _ ⟨x1, x2, x3, x4, G⟩ rfl
  refine Vs 3 O ?_
  refine V.alloc 7 tz37 O O (fun b7 => ?_)
  refine Vs 9 O ?_
  refine zlV Tryz.call37 O (fun w hI => znI a ps hz rs hno hql _ _ _ _ _ D1 D2 w (Tr1 hI.k0 han) (Tr1 hI.k0 hps) (Tr1 hI.k0 hrs)) ?_
  rintro rA wA wB hIA hkAB ⟨r1, r2, rfl, hacc⟩ hlowA
  rw [hR] at hacc ⊢
  obtain ⟨aL, cL, hL⟩ := hacc.left.form
  obtain ⟨aQ, cQ, hQ⟩ := hacc.asked.form
  subst hL hQ
  have hW : ∀ b, HS _ b -> W.heap.size <= b := fun b hb => VI.hs hIA (zn4 ..) hb
  have hfew : ∀ b, ((D b /\ b < W.heap.size) \/ wA.heap.size <= b) -> ¬ HS _ b := fun b hb hs => by
   have h1 := hW b hs
   have h2 := hlowA b hs
   omega
  refine Vs 3 O ?_
  refine V.alloc 9 tz37 O O (fun b9 => ?_)
  refine Vs 10 O ?_
  refine zld 39 O (fun k1 => ?_) (fun k1 => ?_)
  ·
   refine Vs 2 O ?_
   refine zlT Tryz.call27 O (fun w hI => zgZ R.1 R.1 _ _ _ _ _ _ w (show RAc _ _ _ _ _ from hI.at 910 O) (hacc.stable (fun _ h => h) (fun b hb hlt => hI.k0.block b hlt (hfew b hb)))) ?_
   refine Vs 5 O ?_
   refine zjI Tryz.results10 O (fun w hI => ⟨_, rfl, by rw [znc rfl], hI.k1⟩)
  . exact absurd O k1
end Go.Proofs.YtbkhagigkglgoaaGreatDoor
