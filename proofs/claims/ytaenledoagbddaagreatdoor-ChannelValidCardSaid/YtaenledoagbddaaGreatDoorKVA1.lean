/-
  Contracts and the mathematics that the proof needs. Nothing here is a claim.
-/
import Derived.Test.YtaenledoagbddaaGreatDoorKU5
import Derived.WalkKit
import Derived.Deep.Quiet
import Derived.Deep.LoopGhost
import Derived.Below
import Derived.OrdersHeld
import Derived.KernelRfl
import Derived.WalkSpells
import Derived.ChangeKeysEq
import Derived.Lib.SliceRun
import Derived.Test.YtaenledoagbddaaGreatDoorRows
import Derived.ProofKit
import Derived.OpenShut
import Derived.ReadAgain
import Derived.ChangeBears
import Derived.Laws.Strings
import Derived.Test.YtaenledoagbddaaGreatDoorProg
import Derived.Lib.AppendStr
import Derived.Lib.SmallJoins
import Derived.Lib.Builder
import Derived.Lib.UnsafeStr
import Derived.Laws.Externs
import Derived.Lib.ItoaNum
import Derived.Lib.ItoaMem
import Derived.Maps.RangeRun
import Derived.MapKept
import Derived.Shelf.Strings.BuilderK
import Derived.Shelf.LaysM
import Derived.Shelf.Strconv.Itoa3
import Derived.Lib.ItoaLen
import Derived.Handed
import Derived.LaidLaws
import Derived.WideKeyMaps
import Derived.DeepKeys4
import Derived.Shelf.SlSortCmp.WholeK
import Derived.Ground.SlsfProg
import Derived.Shelf.SlSortCmp.NoneTotal
import Derived.Shelf.SlSortCmp.Whole1
import Derived.Test.YtaenledoagbddaaGreatDoorTie
import Derived.Test.YtaenledoagbddaaGreatDoorCards
namespace Go.GL
abbrev G.sp := @zlf
abbrev WD.sp := @zlg
abbrev V.sp := @zlh
end Go.GL
namespace Go.GL
open Go.ChangeShapes Go.WideShapes Go.ChangeAt Go.RowKit
section
variable {H : Type} {enc : TypeId × Value -> H} {P : Program} {w w' W W' : World} {base : Nat} {sp : Nat -> Bool} {held : Bool}
theorem znS {b o n : Nat} {cs : List Value} (h : w.cells? base ⟨b, o, none⟩ n = some cs) : cs.length = n /\ Cells w b o cs := by
 obtain ⟨_, h1, h2⟩ := World.cells?_some h
 refine ⟨h1, fun j v hv => ?_⟩
 have hj : j < n := by rw [<- h1]; exact (znr.1 hv).1
 have := h2 j hj
 rw [hv] at this
 rw [<- this, yO]
theorem znX {α : Type} {R : Rel α} {t e : TypeId} {c fuel : Nat} {cs : List Value} {x : DataW H × List MemPlace} (Q : DataW H -> Prop) (ht : P.underlying t = some (.slice e)) (hc : P.cellsOf e = c) (hc0 : 0 < c) (hQ : ∀ es rs, x.1 = .slice es rs -> ∀ d ∈ es, Q d)
  (hR : ∀ (n : Nat) (cs : List Value) (y : DataW H × List MemPlace), Q y.1 -> DataW.trod enc P w base sp held n e cs = some y -> ∃ z, R (fun _ => True) w z cs) (h : DataW.trod enc P w base sp held fuel t cs = some x) : ∃ v l, cs = [v] /\ SlR c R (fun _ => True) w v l /\ (l = [] \/ ∃ es rs, x.1 = .slice es rs /\ es.length = l.length) := by
 rcases DataW.trod_slice ht h with ⟨rfl, _⟩ | ⟨a, len, cap, elems, rest, n, _, rfl, rfl, _, hlc, hcm, hel, hat, _⟩
 . exact ⟨_, [], rfl, SlR.nil, .inl rfl⟩
 ·
  rw [hc] at hat
  have zi : ∀ i : Nat, i < len -> ∃ z cs', w.cells? base (a.add (i * c)) c = some cs' /\ R (fun _ => True) w z cs' := by
   intro i hi
   have h1 := hat i hi
   obtain ⟨y, hy⟩ : ∃ y, elems[i]? = some y := ⟨_, znd (by omega)⟩
   rw [hy, Option.bind_eq_some_iff] at h1
   obtain ⟨cs', h2, h3⟩ := h1
   obtain ⟨z, hz⟩ := hR n cs' y (hQ _ _ rfl _ (List.mem_map.2 ⟨y, zne hy, rfl⟩)) h3
   exact ⟨z, cs', h2, hz⟩
  have hlist : ∀ k, k <= len -> ∃ l : List α, l.length = k /\ ∀ (i : Nat) z, l[i]? = some z -> ∃ cs', w.cells? base (a.add (i * c)) c = some cs' /\ R (fun _ => True) w z cs' := by
   intro k
   induction k with
   | zero => intro _; exact ⟨[], rfl, fun i z h => by simp at h⟩
   | succ k ih =>
    intro hk
    obtain ⟨l, h1, h2⟩ := ih (by omega)
    obtain ⟨z, cs', h3, h4⟩ := zi k (by omega)
    refine ⟨l ++ [z], by simp [h1], fun i y hy => ?_⟩
    by_cases e : i < l.length
    . rw [znD e] at hy; exact h2 i y hy
    ·
     rw [znE (by omega)] at hy
     have hi : i = k := by
      have := (znr.1 hy).1
      simp at this; omega
     subst hi
     rw [h1, Nat.sub_self] at hy
     simp at hy
     subst hy
     exact ⟨cs', h3, h4⟩
  obtain ⟨l, hl, hle⟩ := hlist len (znC _)
  subst hl
  refine ⟨_, l, rfl, ⟨some a, cap, rfl, hlc, by simpa [maxLen] using hcm, fun i z hz => ?_⟩, .inr ⟨_, _, rfl, by simp [hel]⟩⟩
  obtain ⟨cs', h3, h4⟩ := hle i z hz
  obtain ⟨_, h5, h6⟩ := World.cells?_some h3
  have hspot : a.spot = none := by
   have hi : 0 < l.length := by have := (znr.1 hz).1; omega
   obtain ⟨_, cs0, h7, _⟩ := zi 0 hi
   obtain ⟨_, h8, h9⟩ := World.cells?_some h7
   have h10 := h9 0 hc0
   obtain ⟨u, hu⟩ : ∃ u, cs0[0]? = some u := ⟨_, znd (by omega)⟩
   rw [hu] at h10
   have h11 := World.cell?_spot h10
   simpa [Addr.add] using h11
  obtain ⟨b, o, s⟩ := a
  simp at hspot
  subst hspot
  exact ⟨b, o, cs', rfl, trivial, h5, (znS (by rw [yO] at h3; exact h3)).2, h4⟩
theorem znV {α : Type} {R : Rel α} {t e : TypeId} {c fuel : Nat} {cs : List Value} {x : DataW H × List MemPlace} (ht : P.underlying t = some (.slice e)) (hc : P.cellsOf e = c) (hc0 : 0 < c)
  (hR : ∀ (n : Nat) (cs : List Value) (y : DataW H × List MemPlace), DataW.trod enc P w base sp held n e cs = some y -> ∃ z, R (fun _ => True) w z cs) (h : DataW.trod enc P w base sp held fuel t cs = some x) : ∃ v l, cs = [v] /\ SlR c R (fun _ => True) w v l := by
 obtain ⟨v, l, h1, h2, _⟩ := znX (fun _ => True) ht hc hc0 (fun _ _ _ _ _ => trivial) (fun n cs y _ => hR n cs y) h
 exact ⟨v, l, h1, h2⟩
theorem znY {e : TypeId} {n : Nat} {cs : List Value} {y : DataW H × List MemPlace} (he : P.underlying e = some (.int .i64)) (h : DataW.trod enc P w base sp held n e cs = some y) : ∃ z, zt (fun _ => True) w z cs := by
 obtain ⟨z, h1, _⟩ := DataW.trod_int he h
 exact ⟨z, h1⟩
end
open Go.ChangeShapes Go.WideShapes Go.ChangeAt Go.RowKit
section
variable {H : Type} {enc : TypeId × Value -> H} {P : Program} {w w' W W' : World} {base : Nat} {sp : Nat -> Bool} {held : Bool}
theorem znT {fs : Array Field} {m : Nat} {cs : List Value} {xs : List (DataW H × List MemPlace)} (hx : xs.length = fs.size) (hat : ∀ (i : Nat) (f : Field), fs[i]? = some f -> DataW.trod enc P w base sp held m f.type ((cs.drop f.offset).take (P.cellsOf f.type)) = xs[i]?) (i : Nat) {f : Field} (hf : fs[i]? = some f) {c : Nat} (hc : P.cellsOf f.type = c) :
  ∃ y, DataW.trod enc P w base sp held m f.type ((cs.drop f.offset).take c) = some y := by
 have h := hat i f hf
 have hi := (Array.getElem?_eq_some_iff.1 hf).1
 rw [znd (show i < xs.length by omega), hc] at h
 exact ⟨_, h⟩
end
end Go.GL
namespace Go.Proofs.YtaenledoagbddaaGreatDoor
open Go.GL Go.ChangeShapes Go.WideShapes Go.ChangeAt Go.RowKit
section
variable {H : Type} {enc : TypeId × Value -> H} {w : World} {base : Nat} {sp : Nat -> Bool} {held : Bool}
theorem znU : Tryz.prog.cellsOf 3 = 1 := by kernel_rfl
end
open Go.GL Go.ChangeShapes Go.WideShapes Go.ChangeAt Go.RowKit
section
variable {H : Type} {enc : TypeId × Value -> H} {w : World} {base : Nat} {sp : Nat -> Bool} {held : Bool}
set_option maxRecDepth 100000 in
theorem znP (k : Nat) (cs : List Value) (x : DataW H × List MemPlace) (h : DataW.trod enc Tryz.prog w base sp held k 27 cs = some x) : ∃ t, RSl 1 zt (fun _ => True) w t cs := by
 obtain ⟨v, l, e, hs⟩ := znV tu27 znU (by decide) (fun n cs y hy => znY tu3 hy) h
 exact ⟨l, v, e, hs⟩
set_option maxRecDepth 100000 in
theorem znQ {r : Reach} {b0 : Nat} {v : Value} {d : DataW H} {ps : List MemPlace} (hval : Value.okWide Tryz.prog w r b0 36 v) (hd : DataW.Trod enc Tryz.prog w base sp held 36 v d ps) :
  ∃ (c : List (List Int)) (u : Value), v = .agg #[u] /\ SlR 1 (RSl 1 zt) (fun _ => True) w u c := by
 unfold Value.okWide at hval
 rw [Tryz.underlying36] at hval
 obtain ⟨cs, rfl, hsz, _⟩ := hval
 obtain ⟨k, hn⟩ := hd
 obtain ⟨xs, m, hk, _, hl, hx, hat⟩ := DataW.trod_struct Tryz.underlying36 hn
 rw [show Tryz.prog.cellsOf 36 = 1 by kernel_rfl] at hl
 obtain ⟨l⟩ := cs
 match l, hl with
 | [c0], _ =>
  obtain ⟨y0, h0⟩ := znT hx hat 0 rfl (c := 1) (by kernel_rfl)
  obtain ⟨v0, l0, e0, hs0⟩ := znV tu34 (show Tryz.prog.cellsOf 27 = 1 by kernel_rfl) (by decide) (fun n cs y hy => znP n cs y hy) h0
  simp [Value.cells] at e0
  subst e0
  exact ⟨l0, _, rfl, hs0⟩
end
open Go.GL
def zo2 (c : Mx) : Int := if VMx c then (c.headD []).sum else 0
def zo5 (c : Mx) : Nat := ((zN c).filter fun col => decide (zP col ≠ 0)).length
theorem znL (c : Mx) (v : Value) (D : Nat -> Prop) (W : World) (hc : SlR 1 (RSl 1 zt) D W v c) : Calls Tryz.prog 31 #[.agg #[v]] W (Ret fun r w' => r = .int .i64 (zo2 c) /\ Ext W w') := by
 obtain ⟨av, cv, rfl⟩ := hc.form
 have hmx := hc.max
 refine zlt Tryz.func31 O Tryz.ntmps31 O (zlE ?_)
 refine Vs 2 O ?_
 refine V.box 1 O O (fun b1 => ?_)
 refine Vs 7 O ?_
 refine zlT Tryz.call39 O (fun w hI => jE c _ D w (Tr1 hI.k0 hc)) ?_
 refine zll O (fun w hI => zkO O (by first | exact zb | rfl)) ?_
 refine Vs 2 O ?_
 refine zjn O (fun v0 => ?_) (fun v0 => ?_)
 ·
  refine Vs 7 O ?_
  refine zjH Tryz.results31 O (fun w hI => ⟨_, rfl, by unfold zo2; rw [znn v0], hI.k0⟩)
 ·
  have v0 := znm.1 v0
  have hr1 := v0.r1
  obtain ⟨r0, he_r0, hm_r0⟩ := gE_ c (0) (by omega)
  obtain ⟨b_r0, o_r0, c_r0, ha_r0, _, hc_r0, hR_r0⟩ := hc.at he_r0
  obtain ⟨v1_r0, rfl, hs_r0⟩ := hR_r0
  obtain ⟨a1_r0, n1_r0, rfl⟩ := hs_r0.form
  refine zm0 1000 0 O O hc_r0 ?_
  have hhd : c.headD [] = r0 := by
   cases c with
   | nil => simp at he_r0
   | cons a c => simpa using he_r0
  refine Vs 6 O ?_
  refine V.ix 1000 tR34 ts27 O ha_r0 (by omega) (0) (by omega) O ?_
  refine Vs 1 O ?_
  refine zlT Tryz.call85 O (fun w hI => zdn r0 _ _ w (Tr1 hI.k0 hs_r0)) ?_
  refine Vs 4 O ?_
  refine zjH Tryz.results31 O (fun w hI => ⟨_, rfl, by unfold zo2; rw [zno v0, hhd, zbb (v0.nn _ hm_r0) (by have := v0.s2; rw [hhd] at this; omega), Int.zero_add], hI.k0⟩)
theorem znM (c : Mx) (hv : VMx c) (v : Value) (D : Nat -> Prop) (W : World) (hc : SlR 1 (RSl 1 zt) D W v c) : Calls Tryz.prog 70 #[v] W (Ret fun r w' => SlR 1 (RSl 1 zt) (fun b => W.heap.size <= b) w' r (zN c) /\ Ext W w') := by
 have h1 := hv.r1
 have h2 := hv.r2
 have h3 := hv.w2
 refine (zae c h1 hv.wid ⟨by omega, by omega⟩ v D W hc).mono ?_
 rintro _ w' ⟨r, rfl, ⟨rv, g1, g2, g3, g4⟩, hk⟩
 exact ⟨r, rfl, zhW g1 g2 (fun g hg => (g3 g hg).1) g4, hk⟩
theorem znR (c : Mx) (v : Value) (D : Nat -> Prop) (W : World) (hc : SlR 1 (RSl 1 zt) D W v c) : Calls Tryz.prog 41 #[.agg #[v]] W (Ret fun r w' => r = .int .i64 (if VMx c then (zo5 c : Int) else 0) /\ Ext W w') := by
 obtain ⟨av, cv, rfl⟩ := hc.form
 refine zlt Tryz.func41 O Tryz.ntmps41 O (zlE ?_)
 refine Vs 2 O ?_
 refine V.box 1 O O (fun b1 => ?_)
 refine Vs 7 O ?_
 refine zlT Tryz.call39 O (fun w hI => jE c _ D w (Tr1 hI.k0 hc)) ?_
 refine zll O (fun w hI => zkO O (by first | exact zb | rfl)) ?_
 refine Vs 2 O ?_
 refine zjn O (fun v0 => ?_) (fun v0 => ?_)
 ·
  refine Vs 7 O ?_
  refine zjH Tryz.results41 O (fun w hI => ⟨_, rfl, by rw [znn v0], hI.k0⟩)
 ·
  have v0 := znm.1 v0
  have hw2 := v0.w2
  have htl := qi c
  refine Vs 12 O ?_
  refine zlV Tryz.call70 O (fun w hI => znM c v0 _ D w (Tr1 hI.k0 hc)) ?_
  rintro r1 w1 w2 hI1 hk12 hres hlow
  obtain ⟨at_, ct, rfl⟩ := hres.form
  refine Vs 5 O ?_
  refine zm3 (σ := Nat × Nat) [11, 12] [] [] O (fun e ⟨i, n⟩ => (13, .int .i64 i) :: (3, .int .i64 n) :: e) (fun e ⟨i, n⟩ => e) (fun ⟨i, n⟩ => i <= (zN c).length /\ n = (((zN c).take i).filter fun col => decide (zP col ≠ 0)).length) (fun ⟨i, n⟩ => (zN c).length - i) ((0, 0)) (zl4 O) (zl5 O) (fun _ => rfl) (fun _ => rfl) (fun _ => rfl) (⟨zns _, rfl⟩) ?_
  rintro ⟨i, n⟩ ⟨hi, hn⟩
  show V _ _ _ _ _ ((13, .int .i64 i) :: (3, .int .i64 n) :: _) _ (_) _
  refine Vs 6 O ?_
  refine zjn O (fun hlt => ?_) (fun hlt => ?_)
  ·
   refine Vs 6 O ?_
   obtain ⟨col, he_col, hm_col⟩ := gE_ (zN c) (i) (by omega)
   obtain ⟨b_col, o_col, c_col, ha_col, hd_col, hc_col, hR_col⟩ := hres.atD he_col
   obtain ⟨v1_col, rfl, hs_col⟩ := hR_col
   obtain ⟨a1_col, n1_col, rfl⟩ := hs_col.form
   refine zm1 1000 0 O O (fun h_ => by have h1_ := hlow _ h_; have h2_ := hd_col; first | omega | exact h1_ h2_) hc_col ?_
   refine V.ix 1000 tR34 ts27 O ha_col (by omega) (_) (rfl) O ?_
   have hcb := zfx v0 hm_col
   have htk := zh he_col
   have hnle : n <= i := by
    rw [hn]
    refine znj (List.length_filter_le _ _) ?_
    rw [znH]; omega
   refine Vs 7 O ?_
   refine zlT Tryz.call71 O (fun w hI => zay col _ _ w (hs_col.keep za hI.k0 (fun b hb _ hs => by have := hlow b hs; omega)) (fun x hx => by have := hcb x hx; omega)) ?_
   have hg := yz col
   refine Vs 3 O ?_
   refine zjn O (fun g => ?_) (fun g => ?_)
   ·
    refine Va 11 O (by omega) ?_
    refine zjy (⟨i + 1, n + 1⟩) (zl4 O) (zl5 O) (⟨by omega, by rw [htk, List.filter_append, znl, <- hn, List.filter_cons_of_pos (by simp; omega)]; rfl⟩) (by first | omega | (dsimp only; omega)) 0 O O
   ·
    refine Va 7 O (by omega) ?_
    refine zjy (⟨i + 1, n⟩) (zl4 O) (zl5 O) (⟨by omega, by rw [htk, List.filter_append, znl, <- hn, List.filter_cons_of_neg (by simp; omega)]; rfl⟩) (by first | omega | (dsimp only; omega)) 0 O O
  ·
   obtain rfl : i = (zN c).length := by omega
   rw [zni] at hn
   refine Vs 12 O ?_
   refine zjH Tryz.results41 O (fun w hI => ⟨_, rfl, by rw [zno v0, hn]; rfl, hI.k1⟩)
def znW (c : Mx) (n : Int) : Prop := (c.length : Int) <= n /\ ∀ row ∈ c, (row.length : Int) <= n
theorem znN (c : Mx) (n : Int) (v : Value) (D : Nat -> Prop) (W : World) (hc : SlR 1 (RSl 1 zt) D W v c) : Calls Tryz.prog 16 #[.agg #[v], .int .i64 n] W (Ret fun r w' => (∃ q : Bool, r = .bool q /\ (q = true -> znW c n)) /\ Ext W w') := by
 obtain ⟨av, cv, rfl⟩ := hc.form
 have hmx := hc.max
 refine zlu Tryz.func16 O Tryz.ntmps16 O (zlE ?_)
 refine Vs 2 O ?_
 refine V.box 2 O O (fun b2 => ?_)
 refine Vs 13 O ?_
 refine zjn O (fun g0 => ?_) (fun g0 => ?_)
 ·
  refine Vs 7 O ?_
  refine zjH Tryz.results16 O (fun w hI => ⟨_, rfl, ⟨_, rfl, fun h => by cases h⟩, hI.k0⟩)
 ·
  refine Vs 12 O ?_
  refine zm3 (σ := Nat) [1, 13, 14] [] [] O (fun e i => (15, .int .i64 i) :: e) (fun e i => e) (fun i => i <= c.length /\ ∀ j row, j < i -> c[j]? = some row -> (row.length : Int) <= n) (fun i => c.length - i) (0) (zl4 O) (zl5 O) (fun _ => rfl) (fun _ => rfl) (fun _ => rfl) (⟨zns _, fun j row h => absurd h (Nat.not_lt_zero _)⟩) ?_
  rintro i ⟨hi, hall⟩
  refine Vs 6 O ?_
  refine zjn O (fun hlt => ?_) (fun hlt => ?_)
  ·
   refine Vs 6 O ?_
   obtain ⟨x, he_x, hm_x⟩ := gE_ c (i) (by omega)
   obtain ⟨b_x, o_x, c_x, ha_x, _, hc_x, hR_x⟩ := hc.at he_x
   obtain ⟨v1_x, rfl, hs_x⟩ := hR_x
   obtain ⟨a1_x, n1_x, rfl⟩ := hs_x.form
   refine zm0 1000 0 O O hc_x ?_
   refine V.ix 1000 tR34 ts27 O ha_x (by omega) (_) (rfl) O ?_
   refine Vs 12 O ?_
   refine zjn O (fun g1 => ?_) (fun g1 => ?_)
   ·
    refine Vs 11 O ?_
    refine zjH Tryz.results16 O (fun w hI => ⟨_, rfl, ⟨_, rfl, fun h => by cases h⟩, hI.k0⟩)
   ·
    have hnx : i + 1 <= c.length /\ ∀ j row, j < i + 1 -> c[j]? = some row -> (row.length : Int) <= n := ⟨by omega, fun j row hj hr => by
     by_cases e : j = i
     ·
      subst e
      rw [he_x] at hr
      cases hr
      omega
     ·
      exact hall j row (by omega) hr⟩
    refine Va 7 O (by omega) ?_
    refine zjy (i + 1) (zl4 O) (zl5 O) (hnx) (by first | omega | (dsimp only; omega)) 0 O O
  ·
   obtain rfl : i = c.length := by omega
   have hres : znW c n := ⟨by omega, fun row hr => by
    obtain ⟨k, hk⟩ := List.mem_iff_getElem?.1 hr
    exact hall k row (znr.1 hk).1 hk⟩
   refine Vs 11 O ?_
   refine zjH Tryz.results16 O (fun w hI => ⟨_, rfl, ⟨_, rfl, fun _ => hres⟩, hI.k0⟩)
def zo3 (r0 row : List Int) : Prop := row.length = r0.length /\ (∀ n ∈ row, 0 <= n /\ n <= 1048576) /\ row.sum = r0.sum /\ 1 <= row.sum /\ row.sum <= 1048576
theorem zjj {l : List Int} {k : Nat} {x : Int} (h : l[k]? = some x) : (l.take (k + 1)).sum = (l.take k).sum + x := by rw [zh h, List.sum_append]; simp
theorem zje (c : Mx) (v : Value) (D : Nat -> Prop) (W : World) (hc : SlR 1 (RSl 1 zt) D W v c) : Calls Tryz.prog 20 #[.agg #[v]] W (Ret fun r w' => r = .bool (decide (VMx c)) /\ Ext W w') := by
 obtain ⟨av, cv, rfl⟩ := hc.form
 have hmx := hc.max
 refine zlt Tryz.func20 O Tryz.ntmps20 O (zlE ?_)
 refine Vs 2 O ?_
 refine V.box 1 O O (fun b1 => ?_)
 refine Vs 11 O ?_
 refine zlh 13 O (fun g0 => ?_) (fun g0 => ?_)
 ·
  refine Vs 31 O ?_
  refine zjH Tryz.results20 O (fun w hI => ⟨_, rfl, by rw [znq (fun h => by have := h.r1; omega)], hI.k0⟩)
 ·
  refine Vs 6 O ?_
  refine zlh 19 O (fun g1 => ?_) (fun g1 => ?_)
  ·
   refine Vs 25 O ?_
   refine zjH Tryz.results20 O (fun w hI => ⟨_, rfl, by rw [znq (fun h => by have := h.r2; omega)], hI.k0⟩)
  ·
   obtain ⟨r0, he_r0, hm_r0⟩ := gE_ c (0) (by omega)
   obtain ⟨b_r0, o_r0, c_r0, ha_r0, _, hc_r0, hR_r0⟩ := hc.at he_r0
   obtain ⟨v1_r0, rfl, hs_r0⟩ := hR_r0
   obtain ⟨a1_r0, n1_r0, rfl⟩ := hs_r0.form
   refine zm0 1000 0 O O hc_r0 ?_
   have hhd : c.headD [] = r0 := by
    cases c with
    | nil => simp at he_r0
    | cons a c => simpa using he_r0
   refine Vs 2 O ?_
   refine V.ix 1000 tR34 ts27 O ha_r0 (by omega) (0) (by omega) O ?_
   refine Vs 5 O ?_
   refine zlh 27 O (fun g2 => ?_) (fun g2 => ?_)
   ·
    refine Vs 17 O ?_
    refine zjH Tryz.results20 O (fun w hI => ⟨_, rfl, by rw [znq (fun h => by have := h.w1; rw [hhd] at this; omega)], hI.k0⟩)
   ·
    refine Vs 2 O ?_
    refine V.ix 1000 tR34 ts27 O ha_r0 (by omega) (0) (by omega) O ?_
    refine Vs 6 O ?_
    refine zjn O (fun g3 => ?_) (fun g3 => ?_)
    ·
     refine Vs 7 O ?_
     refine zjH Tryz.results20 O (fun w hI => ⟨_, rfl, by rw [znq (fun h => by have := h.w2; rw [hhd] at this; omega)], hI.k0⟩)
    ·
     have hno : ∀ row ∈ c, ¬ zo3 r0 row -> ¬ VMx c := fun row hr hb h => hb (by have := (vmx_ref.1 h).2 row hr; rwa [hhd] at this)
     refine Vs 17 O ?_
     refine zm3 (σ := Nat × Int) [1, 36, 37] [1] [1] O (fun e ⟨i, f⟩ => (38, .int .i64 i) :: (3, .int .i64 f) :: e) (fun e ⟨i, f⟩ => e) (fun ⟨i, f⟩ => i <= c.length /\ (∀ j row, j < i -> c[j]? = some row -> zo3 r0 row) /\ (0 < i -> f = r0.sum)) (fun ⟨i, f⟩ => c.length - i) ((0, 0)) (zl4 O) (zl5 O) (fun _ => rfl) (fun _ => rfl) (fun _ => rfl) (⟨zns _, fun j row h => absurd h (Nat.not_lt_zero _), fun h => absurd h (Nat.lt_irrefl 0)⟩) ?_
     rintro ⟨i, f⟩ ⟨hi, hall, hf⟩
     show V _ _ _ _ _ ((38, .int .i64 i) :: (3, .int .i64 f) :: _) _ (_) _
     refine Vs 6 O ?_
     refine zjn O (fun hlt => ?_) (fun hlt => ?_)
     ·
      obtain ⟨r1, he_r1, hm_r1⟩ := gE_ c (0) (by omega)
      obtain ⟨b_r1, o_r1, c_r1, ha_r1, _, hc_r1, hR_r1⟩ := hc.at he_r1
      obtain ⟨v1_r1, rfl, hs_r1⟩ := hR_r1
      obtain ⟨a1_r1, n1_r1, rfl⟩ := hs_r1.form
      refine zm0 2000 0 O O hc_r1 ?_
      have hr1 : r1 = r0 := by rw [he_r0] at he_r1; exact (Option.some.inj he_r1).symm
      have hrl1 : r1.length = r0.length := by rw [hr1]
      refine Vs 7 O ?_
      obtain ⟨row, he_row, hm_row⟩ := gE_ c (i) (by omega)
      obtain ⟨b_row, o_row, c_row, ha_row, _, hc_row, hR_row⟩ := hc.at he_row
      obtain ⟨v1_row, rfl, hs_row⟩ := hR_row
      obtain ⟨a1_row, n1_row, rfl⟩ := hs_row.form
      refine zm0 3000 0 O O hc_row ?_
      refine V.ix 3000 tR34 ts27 O ha_row (by omega) (_) (rfl) O ?_
      refine Vs 12 O ?_
      refine V.ix 2000 tR34 ts27 O ha_r1 (by omega) (0) (by omega) O ?_
      refine Vs 5 O ?_
      refine zjn O (fun w0 => ?_) (fun w0 => ?_)
      ·
       refine Vs 12 O ?_
       refine zjH Tryz.results20 O (fun w hI => ⟨_, rfl, by rw [znq (hno row hm_row (fun h => w0 (by have := h.1; omega)))], hI.k0⟩)
      ·
       have hrl : row.length = r0.length := by omega
       refine Vs 16 O ?_
       refine zm3 (σ := Nat × Int) [1, 3, 4, 36, 37, 38, 51, 52] [1] [1] O (fun e ⟨k, s⟩ => (53, .int .i64 k) :: (6, .int .i64 s) :: e) (fun e ⟨k, s⟩ => e) (fun ⟨k, s⟩ => k <= row.length /\ (∀ n ∈ row.take k, 0 <= n /\ n <= 1048576) /\ s = (row.take k).sum /\ 0 <= s /\ s <= k * 1048576) (fun ⟨k, s⟩ => row.length - k) ((0, 0)) (zl4 O) (zl5 O) (fun _ => rfl) (fun _ => rfl) (fun _ => rfl) (⟨zns _, fun n hn => by simp at hn, rfl, Int.le_refl 0, by omega⟩) ?_
       rintro ⟨k, s⟩ ⟨hk, hin, hs, hs0, hs1⟩
       show V _ _ _ _ _ ((53, .int .i64 k) :: (6, .int .i64 s) :: _) _ (_) _
       refine Vs 6 O ?_
       refine zjn O (fun hlt2 => ?_) (fun hlt2 => ?_)
       ·
        refine Vs 6 O ?_
        obtain ⟨x, he_x, hm_x⟩ := gE_ row (k) (by omega)
        obtain ⟨b_x, o_x, c_x, ha_x, _, hc_x, hR_x⟩ := hs_row.at he_x
        obtain rfl := hR_x
        refine zm0 4000 0 O O hc_x ?_
        refine V.ix 4000 tR27 ts3 O ha_x (by omega) (_) (rfl) O ?_
        refine Vs 10 O ?_
        refine zlh 59 O (fun w1 => ?_) (fun w1 => ?_)
        ·
         refine Vs 23 O ?_
         refine zjH Tryz.results20 O (fun w hI => ⟨_, rfl, by rw [znq (hno row hm_row (fun h => by have := h.2.1 x hm_x; omega))], hI.k0⟩)
        ·
         refine Vs 5 O ?_
         refine zjn O (fun w2 => ?_) (fun w2 => ?_)
         ·
          refine Vs 17 O ?_
          refine zjH Tryz.results20 O (fun w hI => ⟨_, rfl, by rw [znq (hno row hm_row (fun h => by have := h.2.1 x hm_x; omega))], hI.k0⟩)
         ·
          have hin2 : ∀ n ∈ row.take (k + 1), 0 <= n /\ n <= 1048576 := fun n hn => by
           rw [zh he_x, znw, znv] at hn
           rcases hn with hn | rfl
           . exact hin n hn
           . omega
          have hs2 := zjj he_x
          refine Va 14 O (by omega) ?_
          refine zjy (⟨k + 1, s + x⟩) (zl4 O) (zl5 O) (⟨by omega, hin2, by rw [hs2, hs], by omega, by omega⟩) (by first | omega | (dsimp only; omega)) 0 O O
       ·
        obtain rfl : k = row.length := by omega
        rw [zni] at hin hs
        refine Vs 6 O ?_
        refine zm4 (σ := Int) [1, 6, 36, 37, 38] [1] [1] O (fun e f' => (3, .int .i64 f') :: e) (fun e f' => e) (fun f' => f' = if i = 0 then row.sum else f) (fun _ => rfl) (fun _ => rfl) ?_ ?_
        ·
         refine Vs 6 O ?_
         refine zjn O (fun z0 => ?_) (fun z0 => ?_)
         ·
          refine Vs 4 O ?_
          refine zjD (row.sum) (Sub.cons (by rw [hs]; rfl) (zl4 O)) (zl5 O) (by rw [zno (by omega)]) 0 O O
         ·
          refine Vs 1 O ?_
          refine zjD (f) (zl4 O) (zl5 O) (by rw [znn (by omega)]) 0 O O
        rintro f' hf'
        show V _ _ _ _ _ ((3, .int .i64 f') :: _) _ (_) _
        have hfr : f' = r0.sum := by
         by_cases e : i = 0
         ·
          subst e
          rw [zno rfl] at hf'
          have : row = r0 := by rw [he_r0] at he_row; exact (Option.some.inj he_row).symm
          rw [hf', this]
         ·
          rw [znn e] at hf'
          rw [hf']
          exact hf (by omega)
        refine Vs 7 O ?_
        refine zlh 73 O (fun y0 => ?_) (fun y0 => ?_)
        ·
         refine Vs 21 O ?_
         refine zjH Tryz.results20 O (fun w hI => ⟨_, rfl, by rw [znq (hno row hm_row (fun h => y0 (by rw [hs, hfr]; exact h.2.2.1)))], hI.k0⟩)
        ·
         refine Vs 4 O ?_
         refine zlh 77 O (fun y1 => ?_) (fun y1 => ?_)
         ·
          refine Vs 17 O ?_
          refine zjH Tryz.results20 O (fun w hI => ⟨_, rfl, by rw [znq (hno row hm_row (fun h => by have := h.2.2.2.1; omega))], hI.k0⟩)
         ·
          refine Vs 5 O ?_
          refine zjn O (fun y2 => ?_) (fun y2 => ?_)
          ·
           refine Vs 11 O ?_
           refine zjH Tryz.results20 O (fun w hI => ⟨_, rfl, by rw [znq (hno row hm_row (fun h => by have := h.2.2.2.2; omega))], hI.k0⟩)
          ·
           have hrow : zo3 r0 row := ⟨hrl, hin, by omega, by omega, by omega⟩
           have hall2 : ∀ j row, j < i + 1 -> c[j]? = some row -> zo3 r0 row := fun j row' hj hr => by
            by_cases e : j = i
            ·
             subst e
             rw [he_row] at hr
             cases hr
             exact hrow
            . exact hall j row' (by omega) hr
           refine Va 7 O (by omega) ?_
           refine zjy (⟨i + 1, f'⟩) (zl4 O) (zl5 O) (⟨by omega, hall2, fun _ => hfr⟩) (by first | omega | (dsimp only; omega)) 0 O O
     ·
      obtain rfl : i = c.length := by omega
      have hres : VMx c := vmx_ref.2 ⟨⟨by omega, by omega, by rw [hhd]; omega, by rw [hhd]; omega⟩, fun row hr => by
       obtain ⟨k, hk⟩ := List.mem_iff_getElem?.1 hr
       rw [hhd]
       exact hall k row (znr.1 hk).1 hk⟩
      refine Vs 11 O ?_
      refine zjH Tryz.results20 O (fun w hI => ⟨_, rfl, by rw [znp hres], hI.k0⟩)
theorem znO (c : Mx) (hv : VMx c) (v : Value) (D : Nat -> Prop) (W : World) (hc : SlR 1 (RSl 1 zt) D W v c) : Calls Tryz.prog 22 #[.agg #[v]] W (Ret fun r w' => SlR 1 (RSl 1 zt) (fun b => W.heap.size <= b) w' r (zN c) /\ Ext W w') := by
 obtain ⟨av, cv, rfl⟩ := hc.form
 have hr1 := hv.r1
 have hr2 := hv.r2
 have hw2 := hv.w2
 have hwid := hv.wid
 refine zlt Tryz.func22 O Tryz.ntmps22 O (zlE ?_)
 obtain ⟨r0, he_r0, hm_r0⟩ := gE_ c (0) (by omega)
 obtain ⟨b_r0, o_r0, c_r0, ha_r0, _, hc_r0, hR_r0⟩ := hc.at he_r0
 obtain ⟨v1_r0, rfl, hs_r0⟩ := hR_r0
 obtain ⟨a1_r0, n1_r0, rfl⟩ := hs_r0.form
 refine zm0 1000 0 O O hc_r0 ?_
 have hhd : c.headD [] = r0 := by
  cases c with
  | nil => simp at he_r0
  | cons a c => simpa using he_r0
 rw [hhd] at hwid hw2
 refine Vs 2 O ?_
 refine V.box 1 O O (fun b1 => ?_)
 refine Vs 5 O ?_
 refine V.bs0 7 tR34 ts27 O (fun b7 => ?_)
 refine Vs 8 O ?_
 refine V.ix 1000 tR34 ts27 O ha_r0 (by omega) (0) (by omega) O ?_
 refine Vs 5 O ?_
 refine zmc 7 (e' := OwP 27 1 (RSl 1 zt) (fun _ => False) (.slice (some ⟨b7, 0, none⟩) 0 0) []) O (fun w hI => ⟨⟨[], hI.at 7 rfl, fun i x h => by simp at h⟩, fun _ h => h.elim⟩) OwP.loc (fun _ h => h) (fun q hq => hq.elim id False.elim) ?_
 refine Vs 1 O ?_
 refine zm3 (σ := Nat × Value × (Nat -> Prop)) [1, 12] [1] [1] O (fun e ⟨y, u, F⟩ => (13, .int .i64 y) :: (3, u) :: e) (fun e ⟨y, u, F⟩ => (7, OwP 27 1 (RSl 1 zt) F u ((zN c).take y)) :: e) (fun ⟨y, u, F⟩ => y <= r0.length) (fun ⟨y, u, F⟩ => r0.length - y) ((0, .slice (some ⟨b7, 0, none⟩) 0 0, fun _ => False)) (zl4 O) (zl5 O) (fun _ => rfl) (fun _ => rfl) (fun _ => rfl) (zns _) ?_
 rintro ⟨y, u, F⟩ hy
 show V _ _ _ _ _ ((13, .int .i64 y) :: (3, u) :: _) _ ((7, OwP 27 1 (RSl 1 zt) F u ((zN c).take y)) :: _) _
 have htl : (zN c).length = r0.length := by rw [qi, hhd]
 have hyl : ((zN c).take y).length = y := by rw [znH, htl]; omega
 refine Vs 6 O ?_
 refine zjn O (fun hlt => ?_) (fun hlt => ?_)
 ·
  have htk := zfq (c := c) (y := y) (by rw [hhd]; omega)
  refine Vs 12 O ?_
  refine V.bs0 16 tR27 ts3 O (fun b16 => ?_)
  refine Vs 13 O ?_
  refine zm3 (σ := Nat × Value) [1, 3, 4, 12, 13, 19] [1, 7] [1] O (fun e ⟨x, u2⟩ => (20, .int .i64 x) :: (5, u2) :: e) (fun e ⟨x, u2⟩ => (16, .row 3 1 u2 x (((jm c y).take x).map zd)) :: e) (fun ⟨x, u2⟩ => x <= c.length) (fun ⟨x, u2⟩ => c.length - x) ((0, _)) (zl4 O) (zl5 O) (fun _ => rfl) (fun _ => rfl) (fun _ => rfl) (zns _) ?_
  rintro ⟨x, u2⟩ hx
  show V _ _ _ _ _ ((20, .int .i64 x) :: (5, u2) :: _) _ ((16, .row 3 1 u2 x (((jm c y).take x).map zd)) :: _) _
  refine Vs 6 O ?_
  refine zjn O (fun hlt2 => ?_) (fun hlt2 => ?_)
  ·
   refine Vs 15 O ?_
   obtain ⟨row, he_row, hm_row⟩ := gE_ c (x) (by omega)
   obtain ⟨b_row, o_row, c_row, ha_row, _, hc_row, hR_row⟩ := hc.at he_row
   obtain ⟨v1_row, rfl, hs_row⟩ := hR_row
   obtain ⟨a1_row, n1_row, rfl⟩ := hs_row.form
   refine zm0 2000 0 O O hc_row ?_
   refine V.ix 2000 tR34 ts27 O ha_row (by omega) (_) (rfl) O ?_
   have hrl := hwid row hm_row
   obtain ⟨e, he_e, hm_e⟩ := gE_ row (y) (by omega)
   obtain ⟨b_e, o_e, c_e, ha_e, _, hc_e, hR_e⟩ := hs_row.at he_e
   obtain rfl := hR_e
   refine zm0 3000 0 O O hc_e ?_
   refine Vs 2 O ?_
   refine V.ix 3000 tR27 ts3 O ha_e (by omega) (y) (by omega) O ?_
   refine Vs 1 O ?_
   refine zm6 32 [(0, _)] tR27 ts3 tz3 (by decide) O O (by kernel_rfl) (fun b32 => ?_)
   refine zlN 16 32 tu27 Tryz.el3 O (by decide) O O (by omega) (by omega) (fun u16 => ?_)
   refine Va 8 O (by omega) ?_
   refine zm2 16 O (e' := .row 3 1 u16 (x + 1) (((jm c y).take (x + 1)).map zd)) (by rw [zh (show (jm c y)[x]? = some e by unfold jm; rw [znu, he_row]; show some (row[y]?.getD 0) = _; rw [he_e]; rfl), List.map_append]; rfl) ?_
   refine zjy (⟨x + 1, u16⟩) (zl4 O) (zl5 O) (by omega) (by first | omega | (dsimp only; omega)) 0 O O
  ·
   obtain rfl : x = c.length := by omega
   refine zm2 16 O (e' := .row 3 1 u2 (jm c y).length ((jm c y).map zd)) (by rw [List.take_of_length_le (by rw [xK]; exact znC _), xK]) ?_
   refine zlF (fun w hI => qJ (show w.ownsRow 0 3 1 u2 _ _ from hI.at 16 O)) ?_
   rintro ⟨ab, cb, rfl⟩
   refine zmc 16 (e' := DaP (RSl 1 zt) (fun q => (Value.slice ab (jm c y).length cb).ownBlock = some q) (jm c y) [.slice ab (jm c y).length cb]) O (fun w hI => ⟨_, rfl, zkx zd (fun _ _ => rfl) (hI.at 16 O) (fun g hg => hg)⟩) DaP.loc (fun _ h => h) (fun q hq => hq) ?_
   refine Vs 8 O ?_
   refine zm6 37 [(0, _)] tR34 ts27 tz27 (by decide) O O (by kernel_rfl) (fun b37 => ?_)
   refine zmt [7, 16] (Hn := fun u => [(7, OwP 27 1 (RSl 1 zt) (fun q => F q \/ (Value.slice ab (jm c y).length cb).ownBlock = some q) u ((zN c).take y ++ [jm c y]))]) (u := fun u => u) [(1, some (1, 0))] O (fun _ => rfl) (fun _ => rfl) (fun w hI => zmu 7 16 37 hI O O O O tu34 Tryz.el27 O (by decide) O O O (fun D x cs h => zgO D x cs h) (by omega) (by omega)) (fun u7 => ?_)
   refine Va 8 O (by omega) ?_
   rw [<- htk]
   refine zjy (⟨y + 1, u7, fun q => F q \/ (Value.slice ab (jm c y).length cb).ownBlock = some q⟩) (zl4 O) (zl5 O) (by omega) (by first | omega | (dsimp only; omega)) 0 O O
 ·
  obtain rfl : y = r0.length := by omega
  rw [<- htl, zni]
  refine Vs 12 O ?_
  refine zjH Tryz.results22 O (fun w hI => ⟨_, rfl, (show OwH _ _ _ _ _ _ _ from hI.at 7 O).sl (by omega) (fun q hq => hI.own 7 0 O O q hq), hI.k0⟩)
def zo4 (l : List Int) : Int := l.foldl max (l.headD 0)
theorem zo6 : ∀ (l : List Int) (a : Int), (l.foldl max a = a \/ l.foldl max a ∈ l) /\ a <= l.foldl max a /\ ∀ x ∈ l, x <= l.foldl max a
 | [], a => ⟨.inl rfl, Int.le_refl a, fun x h => by cases h⟩
 | y :: l, a => by
  obtain ⟨h1, h2, h3⟩ := zo6 l (max a y)
  rw [List.foldl_cons]
  refine ⟨?_, by omega, fun x hx => ?_⟩
  ·
   rcases h1 with h1 | h1
   ·
    rw [h1]
    by_cases h : a <= y
    . exact .inr (by rw [Int.max_eq_right h]; exact znh ..)
    . exact .inl (by omega)
   . exact .inr (zng _ h1)
  ·
   rcases znt.1 hx with rfl | hx
   . omega
   . exact h3 x hx
theorem znK {l : List Int} (h : 0 < l.length) : zo4 l ∈ l /\ ∀ x ∈ l, x <= zo4 l := by
 obtain ⟨h1, h2, h3⟩ := zo6 l (l.headD 0)
 refine ⟨?_, h3⟩
 rcases h1 with h1 | h1
 ·
  show l.foldl max (l.headD 0) ∈ l
  rw [h1]
  cases l with
  | nil => simp at h
  | cons a l => exact znh ..
 . exact h1
theorem znZ {l : List Int} {m : Int} (hm : m ∈ l) (h : ∀ x ∈ l, x <= m) : m = zo4 l := by
 obtain ⟨h1, h2⟩ := znK (List.length_pos_of_mem hm)
 have := h _ h1
 have := h2 m hm
 omega
theorem zo0 (l : List Int) (v : Value) (D : Nat -> Prop) (W : World) (hl : SlR 1 zt D W v l) (hne : 0 < l.length) :
  Calls Tryz.prog 49 #[v] W (Ret fun r w' => r = .int .i64 (zo4 l) /\ Ext W w') := by
 obtain ⟨av, cv, rfl⟩ := hl.form
 have hmx := hl.max
 refine zlt Tryz.func49 O Tryz.ntmps49 O (zlE ?_)
 refine Vs 13 O ?_
 refine zjn O (fun h => ?_) (fun h => ?_)
 . omega
 ·
  refine Vs 5 O ?_
  obtain ⟨x, he_x, hm_x⟩ := gE_ l (0) (by omega)
  obtain ⟨b_x, o_x, c_x, ha_x, _, hc_x, hR_x⟩ := hl.at he_x
  obtain rfl := hR_x
  refine zm0 1000 0 O O hc_x ?_
  refine V.ix 1000 tR27 ts3 O ha_x (by omega) (_) (rfl) O ?_
  refine Vs 11 O ?_
  refine zm3 (σ := Nat × Int) [0] [] [] O (fun e ⟨i, m⟩ => (3, .int .i64 m) :: (4, .int .i64 i) :: e) (fun e ⟨i, m⟩ => e) (fun ⟨i, m⟩ => i <= l.length /\ m ∈ l /\ ∀ x ∈ l.take i, x <= m) (fun ⟨i, m⟩ => l.length - i) ((1, x)) (zl4 O) (zl5 O) (fun _ => rfl) (fun _ => rfl) (fun _ => rfl) (⟨by omega, hm_x, by rw [zh he_x]; simp⟩) ?_
  rintro ⟨i, m⟩ ⟨hi, hm, hle⟩
  show V _ _ _ _ _ ((3, .int .i64 m) :: (4, .int .i64 i) :: _) _ (_) _
  refine Vs 9 O ?_
  refine zjn O (fun h1 => ?_) (fun h1 => ?_)
  ·
   refine Vs 8 O ?_
   obtain ⟨y, he_y, hm_y⟩ := gE_ l (i) (by omega)
   obtain ⟨b_y, o_y, c_y, ha_y, _, hc_y, hR_y⟩ := hl.at he_y
   obtain rfl := hR_y
   refine zm0 2000 0 O O hc_y ?_
   refine V.ix 2000 tR27 ts3 O ha_y (by omega) (_) (rfl) O ?_
   refine Va 11 O (by omega) ?_
   refine zjy (⟨i + 1, max m y⟩) (zl4 O) (zl5 O) (⟨by omega, by rw [Int.max_def]; split <;> assumption, fun z hz => by rw [zh he_y, znw, znv] at hz; rcases hz with hz | rfl; (· have := hle z hz; omega); (· omega)⟩) (by first | omega | (dsimp only; omega)) 0 O O
  ·
   obtain rfl : i = l.length := by omega
   rw [zni] at hle
   refine Vs 12 O ?_
   refine zjH Tryz.results49 O (fun w hI => ⟨_, rfl, by rw [znZ hm hle], hI.k0⟩)
theorem zo1 {l : List Int} (hn : ∀ x ∈ l, 0 <= x) {m : Int} (hm : m ∈ l) (hle : ∀ x ∈ l, x <= m) : 0 < m ↔ zP l ≠ 0 := by
 constructor
 ·
  intro h e
  have := ya hm
  rw [e] at this
  have := Int.zero_dvd.1 this
  omega
 ·
  intro h
  by_cases h0 : 0 < m
  . exact h0
  ·
   exfalso
   have h1 : (0 : Int) ∣ zP l := xo fun n h2 => by
    have h3 := hn n h2
    have h4 := hle n h2
    have : n = 0 := by omega
    rw [this]; exact Int.dvd_refl 0
   exact h (Int.zero_dvd.1 h1)
theorem zjg (c : Mx) (v : Value) (D : Nat -> Prop) (W : World) (hc : SlR 1 (RSl 1 zt) D W v c) : Calls Tryz.prog 42 #[.agg #[v]] W (Ret fun r w' => r = .int .i64 (if VMx c then (zo5 c : Int) else 0) /\ Ext W w') := by
 obtain ⟨av, cv, rfl⟩ := hc.form
 refine zlt Tryz.func42 O Tryz.ntmps42 O (zlE ?_)
 refine Vs 2 O ?_
 refine V.box 1 O O (fun b1 => ?_)
 refine Vs 7 O ?_
 refine zlT Tryz.call20 O (fun w hI => zje c _ D w (Tr1 hI.k0 hc)) ?_
 refine zll O (fun w hI => zkO O (by first | exact zb | rfl)) ?_
 refine Vs 2 O ?_
 refine zjn O (fun v0 => ?_) (fun v0 => ?_)
 ·
  refine Vs 7 O ?_
  refine zjH Tryz.results42 O (fun w hI => ⟨_, rfl, by rw [znn v0], hI.k0⟩)
 ·
  have v0 := znm.1 v0
  have hw2 := v0.w2
  have hr1 := v0.r1
  have htl := qi c
  refine Vs 11 O ?_
  refine zlV Tryz.call22 O (fun w hI => znO c v0 _ D w (Tr1 hI.k0 hc)) ?_
  rintro r1 w1 w2 hI1 hk12 hres hlow
  obtain ⟨at_, ct, rfl⟩ := hres.form
  refine Vs 5 O ?_
  refine zm3 (σ := Nat × Nat) [10, 11] [] [] O (fun e ⟨i, n⟩ => (12, .int .i64 i) :: (3, .int .i64 n) :: e) (fun e ⟨i, n⟩ => e) (fun ⟨i, n⟩ => i <= (zN c).length /\ n = (((zN c).take i).filter fun col => decide (zP col ≠ 0)).length) (fun ⟨i, n⟩ => (zN c).length - i) ((0, 0)) (zl4 O) (zl5 O) (fun _ => rfl) (fun _ => rfl) (fun _ => rfl) (⟨zns _, rfl⟩) ?_
  rintro ⟨i, n⟩ ⟨hi, hn⟩
  show V _ _ _ _ _ ((12, .int .i64 i) :: (3, .int .i64 n) :: _) _ (_) _
  refine Vs 6 O ?_
  refine zjn O (fun hlt => ?_) (fun hlt => ?_)
  ·
   refine Vs 6 O ?_
   obtain ⟨col, he_col, hm_col⟩ := gE_ (zN c) (i) (by omega)
   obtain ⟨b_col, o_col, c_col, ha_col, hd_col, hc_col, hR_col⟩ := hres.atD he_col
   obtain ⟨v1_col, rfl, hs_col⟩ := hR_col
   obtain ⟨a1_col, n1_col, rfl⟩ := hs_col.form
   refine zm1 1000 0 O O (fun h_ => by have h1_ := hlow _ h_; have h2_ := hd_col; first | omega | exact h1_ h2_) hc_col ?_
   refine V.ix 1000 tR34 ts27 O ha_col (by omega) (_) (rfl) O ?_
   have hcb := zfx v0 hm_col
   have hcl := za9 hm_col
   have htk := zh he_col
   have hnle : n <= i := by
    rw [hn]
    refine znj (List.length_filter_le _ _) ?_
    rw [znH]; omega
   refine Vs 7 O ?_
   refine zlT Tryz.call49 O (fun w hI => zo0 col _ _ w (hs_col.keep za hI.k0 (fun b hb _ hs => by have := hlow b hs; omega)) (by omega)) ?_
   obtain ⟨hm1, hm2⟩ := znK (l := col) (by omega)
   have hgm := zo1 (l := col) (fun x hx => (hcb x hx).1) hm1 hm2
   refine Vs 3 O ?_
   refine zjn O (fun g => ?_) (fun g => ?_)
   ·
    refine Va 11 O (by omega) ?_
    refine zjy (⟨i + 1, n + 1⟩) (zl4 O) (zl5 O) (⟨by omega, by rw [htk, List.filter_append, znl, <- hn, List.filter_cons_of_pos (by simpa using hgm.1 g)]; rfl⟩) (by first | omega | (dsimp only; omega)) 0 O O
   ·
    refine Va 7 O (by omega) ?_
    refine zjy (⟨i + 1, n⟩) (zl4 O) (zl5 O) (⟨by omega, by rw [htk, List.filter_append, znl, <- hn, List.filter_cons_of_neg (by simpa using fun h => g (hgm.2 h))]; rfl⟩) (by first | omega | (dsimp only; omega)) 0 O O
  ·
   obtain rfl : i = (zN c).length := by omega
   rw [zni] at hn
   refine Vs 12 O ?_
   refine zjH Tryz.results42 O (fun w hI => ⟨_, rfl, by rw [zno v0, hn]; rfl, hI.k1⟩)
theorem zjh (c : Mx) (v : Value) (D : Nat -> Prop) (W : World) (hc : SlR 1 (RSl 1 zt) D W v c) : Calls Tryz.prog 40 #[.agg #[v]] W (Ret fun r w' => r = .bool (decide (VMx c /\ zfG c)) /\ Ext W w') := by
 obtain ⟨av, cv, rfl⟩ := hc.form
 have hmx := hc.max
 refine zlt Tryz.func40 O Tryz.ntmps40 O (zlE ?_)
 refine Vs 2 O ?_
 refine V.box 1 O O (fun b1 => ?_)
 refine Vs 7 O ?_
 refine zlT Tryz.call20 O (fun w hI => zje c _ D w (Tr1 hI.k0 hc)) ?_
 refine zll O (fun w hI => zkO O (by first | exact zb | rfl)) ?_
 refine Vs 2 O ?_
 refine zjn O (fun v0 => ?_) (fun v0 => ?_)
 ·
  refine Vs 7 O ?_
  refine zjH Tryz.results40 O (fun w hI => ⟨_, rfl, by rw [znq (fun h => v0 h.1)], hI.k0⟩)
 ·
  have v0 := znm.1 v0
  refine Vs 12 O ?_
  refine zm3 (σ := Nat) [12, 13] [] [] O (fun e i => (14, .int .i64 i) :: e) (fun e i => e) (fun i => i <= c.length /\ ∀ j row, j < i -> c[j]? = some row -> (row.filter fun n => decide (0 < n)).length = 1) (fun i => c.length - i) (0) (zl4 O) (zl5 O) (fun _ => rfl) (fun _ => rfl) (fun _ => rfl) (⟨zns _, fun j row h => absurd h (Nat.not_lt_zero _)⟩) ?_
  rintro i ⟨hi, hall⟩
  refine Vs 6 O ?_
  refine zjn O (fun hlt => ?_) (fun hlt => ?_)
  ·
   refine Vs 6 O ?_
   obtain ⟨row, he_row, hm_row⟩ := gE_ c (i) (by omega)
   obtain ⟨b_row, o_row, c_row, ha_row, _, hc_row, hR_row⟩ := hc.at he_row
   obtain ⟨v1_row, rfl, hs_row⟩ := hR_row
   obtain ⟨a1_row, n1_row, rfl⟩ := hs_row.form
   refine zm0 1000 0 O O hc_row ?_
   refine V.ix 1000 tR34 ts27 O ha_row (by omega) (_) (rfl) O ?_
   have hwid := v0.wid row hm_row
   have hw2 := v0.w2
   refine Vs 18 O ?_
   refine zm3 (σ := Nat × Nat) [12, 13, 14, 18, 19] [] [] O (fun e ⟨k, n⟩ => (20, .int .i64 k) :: (5, .int .i64 n) :: e) (fun e ⟨k, n⟩ => e) (fun ⟨k, n⟩ => k <= row.length /\ n = ((row.take k).filter fun n => decide (0 < n)).length /\ n <= k) (fun ⟨k, n⟩ => row.length - k) ((0, 0)) (zl4 O) (zl5 O) (fun _ => rfl) (fun _ => rfl) (fun _ => rfl) (⟨zns _, rfl, znC _⟩) ?_
   rintro ⟨k, n⟩ ⟨hk, hn, hnk⟩
   show V _ _ _ _ _ ((20, .int .i64 k) :: (5, .int .i64 n) :: _) _ (_) _
   refine Vs 6 O ?_
   refine zjn O (fun hlt2 => ?_) (fun hlt2 => ?_)
   ·
    refine Vs 6 O ?_
    obtain ⟨x, he_x, hm_x⟩ := gE_ row (k) (by omega)
    obtain ⟨b_x, o_x, c_x, ha_x, _, hc_x, hR_x⟩ := hs_row.at he_x
    obtain rfl := hR_x
    refine zm0 2000 0 O O hc_x ?_
    refine V.ix 2000 tR27 ts3 O ha_x (by omega) (_) (rfl) O ?_
    have htk := zh he_x
    refine Vs 10 O ?_
    refine zjn O (fun g => ?_) (fun g => ?_)
    ·
     refine Va 11 O (by omega) ?_
     refine zjy (⟨k + 1, n + 1⟩) (zl4 O) (zl5 O) (⟨by omega, by rw [htk, List.filter_append, znl, <- hn]; simp [g], by omega⟩) (by first | omega | (dsimp only; omega)) 0 O O
    ·
     refine Va 7 O (by omega) ?_
     refine zjy (⟨k + 1, n⟩) (zl4 O) (zl5 O) (⟨by omega, by rw [htk, List.filter_append, znl, <- hn]; simp [g], by omega⟩) (by first | omega | (dsimp only; omega)) 0 O O
   ·
    obtain rfl : k = row.length := by omega
    rw [zni] at hn
    refine Vs 11 O ?_
    refine zjn O (fun g => ?_) (fun g => ?_)
    ·
     refine Vs 11 O ?_
     refine zjH Tryz.results40 O (fun w hI => ⟨_, rfl, by rw [znq (fun h => g (by have := h.2 row hm_row; omega))], hI.k0⟩)
    ·
     have hnx : ∀ j row, j < i + 1 -> c[j]? = some row -> (row.filter fun n => decide (0 < n)).length = 1 := fun j row' hj hr => by
      by_cases e : j = i
      ·
       subst e
       rw [he_row] at hr
       cases hr
       omega
      . exact hall j row' (by omega) hr
     refine Va 7 O (by omega) ?_
     refine zjy (i + 1) (zl4 O) (zl5 O) (⟨by omega, hnx⟩) (by first | omega | (dsimp only; omega)) 0 O O
  ·
   obtain rfl : i = c.length := by omega
   have ho : zfG c := fun row hr => by
    obtain ⟨k, hk⟩ := List.mem_iff_getElem?.1 hr
    exact hall k row (znr.1 hk).1 hk
   refine Vs 11 O ?_
   refine zjH Tryz.results40 O (fun w hI => ⟨_, rfl, by rw [znp ⟨v0, ho⟩], hI.k0⟩)
theorem zjf (c : Mx) (v : Value) (D : Nat -> Prop) (W : World) (hc : SlR 1 (RSl 1 zt) D W v c) : Calls Tryz.prog 21 #[.agg #[v]] W (Ret fun r w' => r = .int .i64 (zo2 c) /\ Ext W w') := by
 obtain ⟨av, cv, rfl⟩ := hc.form
 have hmx := hc.max
 refine zlt Tryz.func21 O Tryz.ntmps21 O (zlE ?_)
 refine Vs 2 O ?_
 refine V.box 1 O O (fun b1 => ?_)
 refine Vs 7 O ?_
 refine zlT Tryz.call20 O (fun w hI => zje c _ D w (Tr1 hI.k0 hc)) ?_
 refine zll O (fun w hI => zkO O (by first | exact zb | rfl)) ?_
 refine Vs 2 O ?_
 refine zjn O (fun v0 => ?_) (fun v0 => ?_)
 ·
  refine Vs 7 O ?_
  refine zjH Tryz.results21 O (fun w hI => ⟨_, rfl, by unfold zo2; rw [znn v0], hI.k0⟩)
 ·
  have v0 := znm.1 v0
  have hr1 := v0.r1
  obtain ⟨r0, he_r0, hm_r0⟩ := gE_ c (0) (by omega)
  obtain ⟨b_r0, o_r0, c_r0, ha_r0, _, hc_r0, hR_r0⟩ := hc.at he_r0
  obtain ⟨v1_r0, rfl, hs_r0⟩ := hR_r0
  obtain ⟨a1_r0, n1_r0, rfl⟩ := hs_r0.form
  refine zm0 1000 0 O O hc_r0 ?_
  have hhd : c.headD [] = r0 := by
   cases c with
   | nil => simp at he_r0
   | cons a c => simpa using he_r0
  have hb := (vmx_ref.1 v0).2 r0 hm_r0
  have hw2 := v0.w2
  rw [hhd] at hw2
  refine Vs 12 O ?_
  refine V.ix 1000 tR34 ts27 O ha_r0 (by omega) (0) (by omega) O ?_
  refine Vs 6 O ?_
  refine zm3 (σ := Nat × Int) [12, 13] [] [] O (fun e ⟨k, s⟩ => (14, .int .i64 k) :: (3, .int .i64 s) :: e) (fun e ⟨k, s⟩ => e) (fun ⟨k, s⟩ => k <= r0.length /\ s = (r0.take k).sum /\ 0 <= s /\ s <= k * 1048576) (fun ⟨k, s⟩ => r0.length - k) ((0, 0)) (zl4 O) (zl5 O) (fun _ => rfl) (fun _ => rfl) (fun _ => rfl) (⟨zns _, rfl, Int.le_refl 0, by omega⟩) ?_
  rintro ⟨k, s⟩ ⟨hk, hs, hs0, hs1⟩
  show V _ _ _ _ _ ((14, .int .i64 k) :: (3, .int .i64 s) :: _) _ (_) _
  refine Vs 6 O ?_
  refine zjn O (fun hlt => ?_) (fun hlt => ?_)
  ·
   refine Vs 6 O ?_
   obtain ⟨x, he_x, hm_x⟩ := gE_ r0 (k) (by omega)
   obtain ⟨b_x, o_x, c_x, ha_x, _, hc_x, hR_x⟩ := hs_r0.at he_x
   obtain rfl := hR_x
   refine zm0 2000 0 O O hc_x ?_
   refine V.ix 2000 tR27 ts3 O ha_x (by omega) (_) (rfl) O ?_
   have hx := hb.2.1 x hm_x
   have hs2 := zjj he_x
   refine Va 16 O (by omega) ?_
   refine zjy (⟨k + 1, s + x⟩) (zl4 O) (zl5 O) (⟨by omega, by rw [hs2, hs], by omega, by omega⟩) (by first | omega | (dsimp only; omega)) 0 O O
  ·
   obtain rfl : k = r0.length := by omega
   rw [zni] at hs
   refine Vs 12 O ?_
   refine zjH Tryz.results21 O (fun w hI => ⟨_, rfl, by unfold zo2; rw [zno v0, hhd, hs], hI.k0⟩)
theorem zji (c : Mx) (v : Value) (D : Nat -> Prop) (W : World) (hc : SlR 1 (RSl 1 zt) D W v c) (ht : Tab W) :
  Calls Tryz.prog 9 #[.agg #[v]] W (Ret fun r w' => r = .bool true /\ Ext W w') := by
 refine zlt Tryz.func9 O Tryz.ntmps9 O (zlE ?_)
 refine Vs 2 O ?_
 refine V.box 1 O O (fun b1 => ?_)
 refine Vs 6 O ?_
 refine zlT Tryz.call12 O (fun w hI => zdZ w (Tr1 hI.k0 ht)) ?_
 refine zll O (fun w hI => zkO O (by first | exact zb | rfl)) ?_
 refine Vs 2 O ?_
 refine V.bool O (fun k0 => ?_) (fun k0 => ?_)
 . cases k0
 ·
  refine Vs 6 O ?_
  refine zlV Tryz.call16 O (fun w hI => znN c 12 _ D w (Tr1 hI.k0 hc)) ?_
  rintro rr w1 w2 hI1 hk12 ⟨q, rfl, hq⟩ hlow
  refine zll O (fun w hI => zkO O (by first | exact zb | rfl)) ?_
  refine Vs 2 O ?_
  refine V.bool O (fun q1 => ?_) (fun q1 => ?_)
  ·
   refine Vs 7 O ?_
   refine zjH Tryz.results9 O (fun w hI => ⟨_, rfl, rfl, hI.k1⟩)
  ·
   refine Vs 3 O ?_
   refine Vw [1] [] O ?_
   refine Vd [0, 2] 0 (by kernel_rfl) O O O ?_
   refine zlU 1 0 Tryz.call39 O (by kernel_rfl) O O (fun w hI => jE c _ D w (Tr1 hI.k1 hc)) ?_
   refine zlU 3 0 Tryz.call20 O (by kernel_rfl) O O (fun w hI => zje c _ D w (Tr1 hI.k1 hc)) ?_
   refine Vd [4, 5] 0 (by kernel_rfl) O O O ?_
   refine VD.sp 13 O (fun k1 => ?_) (fun k1 => ?_)
   ·
    refine Vd [6, 8] 0 (by kernel_rfl) O O O ?_
    refine zlU 7 0 Tryz.call31 O (by kernel_rfl) O O (fun w hI => znL c _ D w (Tr1 hI.k1 hc)) ?_
    refine zlU 9 0 Tryz.call21 O (by kernel_rfl) O O (fun w hI => zjf c _ D w (Tr1 hI.k1 hc)) ?_
    refine Vd [10, 11, 12] 0 (by kernel_rfl) O O O ?_
    refine VD.sp 20 O (fun k2 => ?_) (fun k2 => ?_)
    ·
     refine Vd [13, 15] 0 (by kernel_rfl) O O O ?_
     refine zlU 14 0 Tryz.call30 O (by kernel_rfl) O O (fun w hI => zgG c _ D w (Tr1 hI.k1 hc)) ?_
     refine zlU 16 0 Tryz.call40 O (by kernel_rfl) O O (fun w hI => zjh c _ D w (Tr1 hI.k1 hc)) ?_
     refine Vd [17, 18, 19] 0 (by kernel_rfl) O O O ?_
     refine VD.sp 27 O (fun k3 => ?_) (fun k3 => ?_)
     ·
      refine Vd [20, 22] 0 (by kernel_rfl) O O O ?_
      refine zlU 21 0 Tryz.call41 O (by kernel_rfl) O O (fun w hI => znR c _ D w (Tr1 hI.k1 hc)) ?_
      refine zlU 23 0 Tryz.call42 O (by kernel_rfl) O O (fun w hI => zjg c _ D w (Tr1 hI.k1 hc)) ?_
      refine Vd [24, 25, 26] 0 (by kernel_rfl) O O O ?_
      refine zkr (by kernel_rfl) ?_
      refine Vs 2 O ?_
      refine zjH Tryz.results9 O (fun w hI => ⟨_, rfl, by rw [znp rfl], hI.k1⟩)
     . exact absurd O k3
    . exact absurd O k2
   . exact absurd O k1
end Go.Proofs.YtaenledoagbddaaGreatDoor
