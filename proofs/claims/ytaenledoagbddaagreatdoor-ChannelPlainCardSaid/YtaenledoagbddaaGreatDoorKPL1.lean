/-
  Contracts and the mathematics that the proof needs. Nothing here is a claim.
-/
import Derived.Test.YtaenledoagbddaaGreatDoorKU5
import Derived.WalkKit
import Derived.Deep.Quiet
import Derived.Deep.LoopGhost
import Derived.Below
import Derived.OrdersHeld
import Derived.KernelRfl
import Derived.WalkSpells
import Derived.ChangeKeysEq
import Derived.Lib.SliceRun
import Derived.Test.YtaenledoagbddaaGreatDoorRows
import Derived.ProofKit
import Derived.OpenShut
import Derived.ReadAgain
import Derived.ChangeBears
import Derived.Laws.Strings
import Derived.Test.YtaenledoagbddaaGreatDoorProg
import Derived.Lib.AppendStr
import Derived.Lib.SmallJoins
import Derived.Lib.Builder
import Derived.Lib.UnsafeStr
import Derived.Laws.Externs
import Derived.Lib.ItoaNum
import Derived.Lib.ItoaMem
import Derived.Maps.RangeRun
import Derived.MapKept
import Derived.Shelf.Strings.BuilderK
import Derived.Shelf.LaysM
import Derived.Shelf.Strconv.Itoa3
import Derived.Lib.ItoaLen
import Derived.Handed
import Derived.LaidLaws
import Derived.WideKeyMaps
import Derived.DeepKeys4
import Derived.Shelf.SlSortCmp.WholeK
import Derived.Ground.SlsfProg
import Derived.Shelf.SlSortCmp.NoneTotal
import Derived.Shelf.SlSortCmp.Whole1
import Derived.Test.YtaenledoagbddaaGreatDoorTie
import Derived.Test.YtaenledoagbddaaGreatDoorCards
namespace Go.GL
abbrev VD.rs := @zlS
end Go.GL
namespace Go.Proofs.YtaenledoagbddaaGreatDoor
open Go.GL
def zjf (n : Nat) (k : Int) : List Int := (zc7 n).map fun j => if k = j then 1 else 0
theorem znQ {n k : Nat} (h : k < n) : (List.replicate n (Value.int .i64 0)).set k (.int .i64 1) = (zjf n (k : Int)).map zd := by
 apply List.ext_getElem?
 intro i
 rw [List.getElem?_set]
 unfold zjf zc7
 rw [List.map_map, List.map_map, znu, List.length_replicate]
 by_cases hi : i < n
 ·
  rw [List.getElem?_range hi]
  by_cases e : k = i
  ·
   rw [zno e, zno h]
   simp only [Option.map_some, Function.comp]
   rw [zno (by omega)]
  ·
   rw [znn e, List.getElem?_replicate, zno hi]
   simp only [Option.map_some, Function.comp]
   rw [znn (by omega)]
 ·
  rw [znn (by omega), znB (by simp; omega), znB (by simp; omega)]
  rfl
def zjg (n : Int) : Nat := (max 1 (min n 256)).toNat
theorem znL (n : Int) : max 1 (min n 256) = (zjg n : Int) /\ 1 <= zjg n /\ zjg n <= 256 := by unfold zjg; omega
theorem znN (n : Int) (W : World) : Calls Tryz.prog 88 #[.int .i64 n] W (Ret fun r w' => r = .int .i64 (zjg n : Int) /\ Ext W w') := by
 refine zlt Tryz.func88 O Tryz.ntmps88 O (zlE ?_)
 refine Vs 14 O ?_
 refine zjH Tryz.results88 O (fun w hI => ⟨_, rfl, by rw [(znL n).1], hI.k0⟩)
def zjh (m : Nat) : Mx := (zc7 m).map (zjf m)
def zje (m : Nat) : Mx := (zc7 m).map fun _ => [1]
theorem znO {m x : Nat} (h : x < m) : (zjh m)[x]? = some (zjf m (x : Int)) := by unfold zjh zc7; rw [znu, znu, List.getElem?_range h]; rfl
theorem zji {m x : Nat} (h : x < m) : (zje m)[x]? = some [1] := by unfold zje zc7; rw [znu, znu, List.getElem?_range h]; rfl
theorem znP (m : Nat) : (zjh m).length = m := by unfold zjh; rw [znx, zbc]
theorem zjj (m : Nat) : (zje m).length = m := by unfold zje; rw [znx, zbc]
theorem znR (n : Int) (W : World) : Calls Tryz.prog 37 #[.int .i64 n] W (Ret fun r w' => (∃ u, r = .agg #[u] /\ SlR 1 (RSl 1 zt) (fun b => W.heap.size <= b) w' u (zjh (zjg n))) /\ Ext W w') := by
 obtain ⟨_, hm1, hm2⟩ := znL n
 have hh := znN n
 generalize hm : zjg n = m at *
 have hml := znP m
 refine zlt Tryz.func37 O Tryz.ntmps37 O (zlE ?_)
 refine Vs 2 O ?_
 refine V.alloc 2 tz36 O O (fun b2 => ?_)
 refine Vs 4 O ?_
 refine V.alloc 3 tz36 O O (fun b3 => ?_)
 refine Vs 6 O ?_
 refine zlT Tryz.call88 O (fun w hI => hh w) ?_
 refine Vs 3 O ?_
 refine zlM 900 27 1 O ?_
 refine zmc 900 (e' := OwP 27 1 (RSl 1 zt) (fun _ => False) (.slice none 0 0) []) O (fun w hI => OwH.nil) OwP.loc (fun _ h => h) (fun q hq => hq.elim id False.elim) ?_
 refine Vs 1 O ?_
 refine zm3 (σ := Nat × Option Addr × Nat × (Nat -> Prop)) [0, 2, 3, 7] [2] [2, 3] O (fun e ⟨x, ar, cr, Fr⟩ => (8, .int .i64 x) :: e) (fun e ⟨x, ar, cr, Fr⟩ => (3, .own b3 [.slice ar ((zjh m).take x).length cr] 36) :: (900, OwP 27 1 (RSl 1 zt) Fr (.slice ar ((zjh m).take x).length cr) ((zjh m).take x)) :: e) (fun ⟨x, ar, cr, Fr⟩ => x <= m) (fun ⟨x, ar, cr, Fr⟩ => m - x) ((0, none, 0, fun _ => False)) (zl4 O) (zl5 O) (fun _ => rfl) (fun _ => rfl) (fun _ => rfl) (zns _) ?_
 rintro ⟨x, ar, cr, Fr⟩ hx
 show V _ _ _ _ _ ((8, .int .i64 x) :: _) _ ((3, .own b3 [.slice ar ((zjh m).take x).length cr] 36) :: (900, OwP 27 1 (RSl 1 zt) Fr (.slice ar ((zjh m).take x).length cr) ((zjh m).take x)) :: _) _
 have hxl : ((zjh m).take x).length = x := by rw [znH, hml]; omega
 refine Vs 6 O ?_
 refine zjn O (fun q => ?_) (fun q => ?_)
 ·
  have htk : (zjh m).take (x + 1) = (zjh m).take x ++ [zjf m (x : Int)] := zh (znO (by omega))
  refine Vs 13 O ?_
  refine zlT Tryz.call88 O (fun w hI => hh w) ?_
  refine zkh 13 tu27 Tryz.el3 O (by omega) (by omega) (zs := List.replicate m (.int .i64 0)) (ze3 _ _ O) (by simp) (fun b13 => ?_)
  refine Va 8 O (by omega) ?_
  refine V.rs 13 (x) ts3 O (by omega) (by simp; omega) ?_
  refine zm2 13 O (e' := .row 3 1 (.slice (some ⟨b13, 0, none⟩) m m) (zjf m (x : Int)).length ((zjf m (x : Int)).map zd)) (by rw [znQ (by omega)]; simp [zjf, zbc]) ?_
  refine zmc 13 (e' := DaP (RSl 1 zt) (fun q => q = b13) (zjf m (x : Int)) [.slice (some ⟨b13, 0, none⟩) m m]) O (fun w hI => ⟨_, rfl, zkx zd (fun _ _ => rfl) (hI.at 13 O) (fun g hg => (Option.some.inj hg).symm)⟩) DaP.loc (fun _ h => h) (fun q hq => congrArg some (show b13 = q from Eq.symm hq)) ?_
  refine Vs 6 O ?_
  refine zm6 20 [(0, _)] tR34 ts27 tz27 (by decide) O O (by kernel_rfl) (fun b20 => ?_)
  refine zmt [900, 13] (Hn := fun u => [(900, OwP 27 1 (RSl 1 zt) (fun q => Fr q \/ q = b13) u ((zjh m).take x ++ [zjf m (x : Int)]))]) (u := fun u => u) [(2, some (2, 0)), (3, some (3, 0)), (17, some (3, 0))] O (fun _ => rfl) (fun _ => rfl) (fun w hI => zmu 900 13 20 hI O O O O tu34 Tryz.el27 O (by decide) O O O (fun D x cs h => zgO D x cs h) (by omega) (by omega)) (fun u900 => ?_)
  refine zlF (p := ∃ ao c, u900 = .slice ao ((zjh m).take x ++ [zjf m (x : Int)]).length c) (fun w hI => zds (hI.at 900 O)) (fun hu => ?_)
  obtain ⟨an, cn, rfl⟩ := hu
  refine Va 9 O (by omega) ?_
  rw [<- htk] at *
  refine zjy (⟨x + 1, an, cn, fun q => Fr q \/ q = b13⟩) (zl4 O) (zl5 O) (by omega) (by first | omega | (dsimp only; omega)) 0 O O
 ·
  obtain rfl : m = x := by omega
  have htx : (zjh m).take m = zjh m := List.take_of_length_le (by omega)
  rw [htx] at *
  refine Vs 12 O ?_
  refine zjP Tryz.results37 tg36 ts36 O O O (fun w hI => ⟨_, rfl, ⟨_, rfl, (show OwH _ _ _ _ _ _ _ from hI.at 900 O).sl (by omega) (fun q hq => hI.own 900 0 O O q hq)⟩, hI.k0⟩)
theorem znM (n : Int) (W : World) : Calls Tryz.prog 38 #[.int .i64 n] W (Ret fun r w' => (∃ u, r = .agg #[u] /\ SlR 1 (RSl 1 zt) (fun b => W.heap.size <= b) w' u (zje (zjg n))) /\ Ext W w') := by
 obtain ⟨_, hm1, hm2⟩ := znL n
 have hh := znN n
 generalize hm : zjg n = m at *
 have hml := zjj m
 refine zlt Tryz.func38 O Tryz.ntmps38 O (zlE ?_)
 refine Vs 2 O ?_
 refine V.alloc 2 tz36 O O (fun b2 => ?_)
 refine Vs 4 O ?_
 refine V.alloc 3 tz36 O O (fun b3 => ?_)
 refine Vs 6 O ?_
 refine zlT Tryz.call88 O (fun w hI => hh w) ?_
 refine Vs 3 O ?_
 refine zlM 900 27 1 O ?_
 refine zmc 900 (e' := OwP 27 1 (RSl 1 zt) (fun _ => False) (.slice none 0 0) []) O (fun w hI => OwH.nil) OwP.loc (fun _ h => h) (fun q hq => hq.elim id False.elim) ?_
 refine Vs 1 O ?_
 refine zm3 (σ := Nat × Option Addr × Nat × (Nat -> Prop)) [2, 3, 5] [2] [2, 3] O (fun e ⟨x, ar, cr, Fr⟩ => (6, .int .i64 x) :: e) (fun e ⟨x, ar, cr, Fr⟩ => (3, .own b3 [.slice ar ((zje m).take x).length cr] 36) :: (900, OwP 27 1 (RSl 1 zt) Fr (.slice ar ((zje m).take x).length cr) ((zje m).take x)) :: e) (fun ⟨x, ar, cr, Fr⟩ => x <= m) (fun ⟨x, ar, cr, Fr⟩ => m - x) ((0, none, 0, fun _ => False)) (zl4 O) (zl5 O) (fun _ => rfl) (fun _ => rfl) (fun _ => rfl) (zns _) ?_
 rintro ⟨x, ar, cr, Fr⟩ hx
 show V _ _ _ _ _ ((6, .int .i64 x) :: _) _ ((3, .own b3 [.slice ar ((zje m).take x).length cr] 36) :: (900, OwP 27 1 (RSl 1 zt) Fr (.slice ar ((zje m).take x).length cr) ((zje m).take x)) :: _) _
 have hxl : ((zje m).take x).length = x := by rw [znH, hml]; omega
 refine Vs 6 O ?_
 refine zjn O (fun q => ?_) (fun q => ?_)
 ·
  have htk : (zje m).take (x + 1) = (zje m).take x ++ [[1]] := zh (zji (by omega))
  refine Vs 7 O ?_
  refine zm6 10 [(0, _)] tR27 ts3 tz3 (by decide) O O (by kernel_rfl) (fun b10 => ?_)
  refine zm6 11 [(0, _)] tR34 ts27 tz27 (by decide) O O (by kernel_rfl) (fun b11 => ?_)
  refine V.as 10 (e' := DaP (RSl 1 zt) (fun q => q = b10) [1] [.slice (some ⟨b10, 0, none⟩) 1 1]) O O (fun w hB => ⟨_, rfl, zkx zd (fun _ _ => rfl) (yY (k := 1) (n := 1) (cap := 1) hB (znC _) (by decide) O) (fun g hg => (Option.some.inj hg).symm)⟩) DaP.loc (fun _ h => h) (fun q hq => hq) ?_
  refine zmt [900, 10] (Hn := fun u => [(900, OwP 27 1 (RSl 1 zt) (fun q => Fr q \/ q = b10) u ((zje m).take x ++ [[1]]))]) (u := fun u => u) [(2, some (2, 0)), (3, some (3, 0)), (8, some (3, 0))] O (fun _ => rfl) (fun _ => rfl) (fun w hI => zmu 900 10 11 hI O O O O tu34 Tryz.el27 O (by decide) O O O (fun D x cs h => zgO D x cs h) (by omega) (by omega)) (fun u900 => ?_)
  refine zlF (p := ∃ ao c, u900 = .slice ao ((zje m).take x ++ [[1]]).length c) (fun w hI => zds (hI.at 900 O)) (fun hu => ?_)
  obtain ⟨an, cn, rfl⟩ := hu
  refine Va 9 O (by omega) ?_
  rw [<- htk] at *
  refine zjy (⟨x + 1, an, cn, fun q => Fr q \/ q = b10⟩) (zl4 O) (zl5 O) (by omega) (by first | omega | (dsimp only; omega)) 0 O O
 ·
  obtain rfl : m = x := by omega
  have htx : (zje m).take m = zje m := List.take_of_length_le (by omega)
  rw [htx] at *
  refine Vs 12 O ?_
  refine zjP Tryz.results38 tg36 ts36 O O O (fun w hI => ⟨_, rfl, ⟨_, rfl, (show OwH _ _ _ _ _ _ _ from hI.at 900 O).sl (by omega) (fun q hq => hI.own 900 0 O O q hq)⟩, hI.k0⟩)
theorem znS {m x y : Nat} {v : Int} (h : (zjf m (x : Int))[y]? = some v) : v = if x = y then 1 else 0 := by
 unfold zjf zc7 at h
 rw [znu, znu] at h
 have hy : y < m := by
  by_cases hy : y < m
  . exact hy
  . rw [znB (by simpa using hy)] at h; cases h
 rw [List.getElem?_range hy] at h
 have h := Option.some.inj h
 rw [<- h]
 show (if (x : Int) = (y : Int) then (1 : Int) else 0) = _
 by_cases e : x = y
 . rw [zno (by omega), zno e]
 . rw [znn (by omega), znn e]
theorem znK (n : Int) (W : World) (ht : Tab W) :
  Calls Tryz.prog 8 #[.int .i64 n] W (Ret fun r w' => r = .bool true /\ Ext W w') := by
 have hid := znR n
 have hco := znM n
 obtain ⟨hmn, hm1, hm2⟩ := znL n
 generalize zjg n = m at *
 have hml := znP m
 have hol := zjj m
 refine zlt Tryz.func8 O Tryz.ntmps8 O (zlE ?_)
 refine Vs 8 O ?_
 refine zlT Tryz.call12 O (fun w hI => zdZ w (Tr1 hI.k0 ht)) ?_
 refine zll O (fun w hI => zkO O (by first | exact zb | rfl)) ?_
 refine Vs 2 O ?_
 refine V.bool O (fun k0 => ?_) (fun k0 => ?_)
 . cases k0
 ·
  refine Vs 5 O ?_
  refine zlV Tryz.call37 O (fun w hI => hid w) ?_
  rintro r1 w1 w2 hI1 hk12 ⟨u, rfl, h1⟩ hlow1
  refine Vs 1 O ?_
  refine zlV Tryz.call38 O (fun w hI => hco w) ?_
  rintro r2 w3 w4 hI3 hk34 ⟨u2, rfl, h2⟩ hlow2
  obtain ⟨a1, c1, rfl⟩ := h1.form
  obtain ⟨a2, c2, rfl⟩ := h2.form
  refine V.alloc 3 tz36 O O (fun b3 => ?_)
  refine V.alloc 4 tz36 O O (fun b4 => ?_)
  refine Vs 14 O ?_
  refine zlG 0 (v := .int .i64 (m : Int)) O (by rw [show min (max n 1) 256 = (m : Int) by omega]) ?_
  refine Vs 7 O ?_
  refine zlh 22 O (fun z1 => ?_) (fun z1 => ?_)
  . exact absurd (by rw [hml]) z1
  refine Vs 8 O ?_
  refine zjn O (fun z2 => ?_) (fun z2 => ?_)
  . exact absurd (by rw [hol]) z2
  refine Vs 12 O ?_
  refine zm3 (σ := Nat) [0, 3, 4, 31] [3, 4] [3, 4] O (fun e x => (32, .int .i64 x) :: e) (fun e x => e) (fun x => x <= m) (fun x => m - x) (0) (zl4 O) (zl5 O) (fun _ => rfl) (fun _ => rfl) (fun _ => rfl) (zns _) ?_
  rintro x hx
  refine Vs 6 O ?_
  refine zjn O (fun lt => ?_) (fun lt => ?_)
  ·
   rw [hml] at lt
   refine Vs 16 O ?_
   obtain ⟨ra, he_ra, hm_ra⟩ := gE_ (zjh m) (x) (by omega)
   obtain ⟨b_ra, o_ra, c_ra, ha_ra, hd_ra, hc_ra, hR_ra⟩ := h1.atD he_ra
   obtain ⟨v1_ra, rfl, hs_ra⟩ := hR_ra
   obtain ⟨a1_ra, n1_ra, rfl⟩ := hs_ra.form
   refine zm1 1000 1 O O (fun h_ => by have h1_ := hlow1 _ h_; have h2_ := hd_ra; first | omega | exact h1_ h2_) hc_ra ?_
   refine V.ix 1000 tR34 ts27 O ha_ra (by omega) (_) (rfl) O ?_
   have hra : ra = zjf m (x : Int) := by rw [znO (by omega)] at he_ra; exact (Option.some.inj he_ra).symm
   subst hra
   have hral : (zjf m (x : Int)).length = m := by simp [zjf, zbc]
   refine Vs 5 O ?_
   refine zlh 43 O (fun z3 => ?_) (fun z3 => ?_)
   . exact absurd (by rw [hral]) z3
   refine Vs 3 O ?_
   obtain ⟨rb, he_rb, hm_rb⟩ := gE_ (zje m) (x) (by omega)
   obtain ⟨b_rb, o_rb, c_rb, ha_rb, hd_rb, hc_rb, hR_rb⟩ := h2.atD he_rb
   obtain ⟨v1_rb, rfl, hs_rb⟩ := hR_rb
   obtain ⟨a1_rb, n1_rb, rfl⟩ := hs_rb.form
   refine zm1 2000 0 O O (fun h_ => by have h1_ := hlow2 _ h_; have h2_ := hd_rb; first | omega | exact h1_ h2_) hc_rb ?_
   refine V.ix 2000 tR34 ts27 O ha_rb (by omega) (_) (rfl) O ?_
   have hrb : rb = [1] := by rw [zji (by omega)] at he_rb; exact (Option.some.inj he_rb).symm
   subst hrb
   refine Vs 5 O ?_
   refine zlh 52 O (fun z4 => ?_) (fun z4 => ?_)
   . exact absurd O z4
   refine Vs 3 O ?_
   refine V.ix 2000 tR34 ts27 O ha_rb (by omega) (_) (rfl) O ?_
   refine Vs 1 O ?_
   obtain ⟨xb_q, he_xb⟩ : ∃ z_, ([1] : List Int)[0]? = some z_ := ⟨_, znd (by omega)⟩
   have hm_xb := zne he_xb
   obtain ⟨b_xb, o_xb, c_xb, ha_xb, hd_xb, hc_xb, hR_xb⟩ := hs_rb.atD he_xb
   obtain rfl := hR_xb
   refine zm1 3000 0 O O (fun h_ => by have h1_ := hlow2 _ h_; have h2_ := hd_xb; first | omega | exact h1_ h2_) hc_xb ?_
   refine V.ix 3000 tR27 ts3 O ha_xb (by omega) (_) (rfl) O ?_
   obtain rfl : 1 = xb_q := by simpa using he_xb
   refine Vs 5 O ?_
   refine zjn O (fun z5 => ?_) (fun z5 => ?_)
   . exact absurd O z5
   refine Vs 7 O ?_
   refine V.ix 1000 tR34 ts27 O ha_ra (by omega) (_) (rfl) O ?_
   refine Vs 6 O ?_
   refine zm3 (σ := Nat) [0, 3, 4, 5, 31, 32, 66, 67] [3, 4] [3, 4] O (fun e y => (68, .int .i64 y) :: e) (fun e y => e) (fun y => y <= m) (fun y => m - y) (0) (zl4 O) (zl5 O) (fun _ => rfl) (fun _ => rfl) (fun _ => rfl) (zns _) ?_
   rintro y hy
   refine Vs 6 O ?_
   refine zjn O (fun lt2 => ?_) (fun lt2 => ?_)
   ·
    rw [hral] at lt2
    refine Vs 7 O ?_
    obtain ⟨xv_q, he_xv⟩ : ∃ z_, (zjf m (x : Int))[y]? = some z_ := ⟨_, znd (by omega)⟩
    have hm_xv := zne he_xv
    obtain ⟨b_xv, o_xv, c_xv, ha_xv, hd_xv, hc_xv, hR_xv⟩ := hs_ra.atD he_xv
    obtain rfl := hR_xv
    refine zm1 4000 1 O O (fun h_ => by have h1_ := hlow1 _ h_; have h2_ := hd_xv; first | omega | exact h1_ h2_) hc_xv ?_
    refine V.ix 4000 tR27 ts3 O ha_xv (by omega) (_) (rfl) O ?_
    have hxv := znS he_xv
    refine Vs 14 O ?_
    refine zlh 79 O (fun z6 => ?_) (fun z6 => ?_)
    ·
     refine Vs 25 O ?_
     exact absurd (znF.2 (by rw [hxv]; split <;> omega)) z6
    refine Vs 3 O ?_
    refine zlh 82 O (fun z7 => ?_) (fun z7 => ?_)
    ·
     refine Vs 6 O ?_
     refine zjn O (fun z8 => ?_) (fun z8 => ?_)
     . exact absurd (show xv_q = 1 by rw [hxv] at z7 ⊢; split at z7 <;> omega) z8
     refine Va 7 O (by omega) ?_
     refine zjy (y + 1) (zl4 O) (zl5 O) (by omega) (by first | omega | (dsimp only; omega)) 0 O O
    ·
     refine Va 14 O (by omega) ?_
     refine zjy (y + 1) (zl4 O) (zl5 O) (by omega) (by first | omega | (dsimp only; omega)) 0 O O
   ·
    refine Va 10 O (by omega) ?_
    refine zjy (x + 1) (zl4 O) (zl5 O) (by omega) (by first | omega | (dsimp only; omega)) 0 O O
  ·
   refine Vs 11 O ?_
   refine zjH Tryz.results8 O (fun w hI => ⟨_, rfl, rfl, hI.k2⟩)
end Go.Proofs.YtaenledoagbddaaGreatDoor
