/-
  Contracts and the mathematics that the proof needs. Nothing here is a claim.
-/
import Derived.Test.YtaenledoagbddaaGreatDoorKU5
import Derived.WalkKit
import Derived.Deep.Quiet
import Derived.Deep.LoopGhost
import Derived.Below
import Derived.OrdersHeld
import Derived.KernelRfl
import Derived.WalkSpells
import Derived.ChangeKeysEq
import Derived.Lib.SliceRun
import Derived.Test.YtaenledoagbddaaGreatDoorRows
import Derived.ProofKit
import Derived.OpenShut
import Derived.ReadAgain
import Derived.ChangeBears
import Derived.Laws.Strings
import Derived.Test.YtaenledoagbddaaGreatDoorProg
import Derived.Lib.AppendStr
import Derived.Lib.SmallJoins
import Derived.Lib.Builder
import Derived.Lib.UnsafeStr
import Derived.Laws.Externs
import Derived.Lib.ItoaNum
import Derived.Lib.ItoaMem
import Derived.Maps.RangeRun
import Derived.MapKept
import Derived.Shelf.Strings.BuilderK
import Derived.Shelf.LaysM
import Derived.Shelf.Strconv.Itoa3
import Derived.Lib.ItoaLen
import Derived.Handed
import Derived.LaidLaws
import Derived.WideKeyMaps
import Derived.DeepKeys4
import Derived.Shelf.SlSortCmp.WholeK
import Derived.Ground.SlsfProg
import Derived.Shelf.SlSortCmp.NoneTotal
import Derived.Shelf.SlSortCmp.Whole1
import Derived.Test.YtaenledoagbddaaGreatDoorTie
import Derived.Test.YtaenledoagbddaaGreatDoorCards
namespace Go.GL
abbrev G.sb := @zli
abbrev V.call2 := @zlV
abbrev V.apS := @zm8
end Go.GL
namespace Go.GL
open Go.ChangeShapes Go.WideShapes Go.ChangeAt Go.RowKit
section
variable {H : Type} {enc : TypeId × Value -> H} {P : Program} {w w' W W' : World} {base : Nat} {sp : Nat -> Bool} {held : Bool}
theorem zo1 {b o n : Nat} {cs : List Value} (h : w.cells? base ⟨b, o, none⟩ n = some cs) : cs.length = n /\ Cells w b o cs := by
 obtain ⟨_, h1, h2⟩ := World.cells?_some h
 refine ⟨h1, fun j v hv => ?_⟩
 have hj : j < n := by rw [<- h1]; exact (znr.1 hv).1
 have := h2 j hj
 rw [hv] at this
 rw [<- this, yO]
theorem zoa {α : Type} {R : Rel α} {t e : TypeId} {c fuel : Nat} {cs : List Value} {x : DataW H × List MemPlace} (Q : DataW H -> Prop) (ht : P.underlying t = some (.slice e)) (hc : P.cellsOf e = c) (hc0 : 0 < c) (hQ : ∀ es rs, x.1 = .slice es rs -> ∀ d ∈ es, Q d)
  (hR : ∀ (n : Nat) (cs : List Value) (y : DataW H × List MemPlace), Q y.1 -> DataW.trod enc P w base sp held n e cs = some y -> ∃ z, R (fun _ => True) w z cs) (h : DataW.trod enc P w base sp held fuel t cs = some x) : ∃ v l, cs = [v] /\ SlR c R (fun _ => True) w v l /\ (l = [] \/ ∃ es rs, x.1 = .slice es rs /\ es.length = l.length) := by
 rcases DataW.trod_slice ht h with ⟨rfl, _⟩ | ⟨a, len, cap, elems, rest, n, _, rfl, rfl, _, hlc, hcm, hel, hat, _⟩
 . exact ⟨_, [], rfl, SlR.nil, .inl rfl⟩
 ·
  rw [hc] at hat
  have zi : ∀ i : Nat, i < len -> ∃ z cs', w.cells? base (a.add (i * c)) c = some cs' /\ R (fun _ => True) w z cs' := by
   intro i hi
   have h1 := hat i hi
   obtain ⟨y, hy⟩ : ∃ y, elems[i]? = some y := ⟨_, znd (by omega)⟩
   rw [hy, Option.bind_eq_some_iff] at h1
   obtain ⟨cs', h2, h3⟩ := h1
   obtain ⟨z, hz⟩ := hR n cs' y (hQ _ _ rfl _ (List.mem_map.2 ⟨y, zne hy, rfl⟩)) h3
   exact ⟨z, cs', h2, hz⟩
  have hlist : ∀ k, k <= len -> ∃ l : List α, l.length = k /\ ∀ (i : Nat) z, l[i]? = some z -> ∃ cs', w.cells? base (a.add (i * c)) c = some cs' /\ R (fun _ => True) w z cs' := by
   intro k
   induction k with
   | zero => intro _; exact ⟨[], rfl, fun i z h => by simp at h⟩
   | succ k ih =>
    intro hk
    obtain ⟨l, h1, h2⟩ := ih (by omega)
    obtain ⟨z, cs', h3, h4⟩ := zi k (by omega)
    refine ⟨l ++ [z], by simp [h1], fun i y hy => ?_⟩
    by_cases e : i < l.length
    . rw [znD e] at hy; exact h2 i y hy
    ·
     rw [znE (by omega)] at hy
     have hi : i = k := by
      have := (znr.1 hy).1
      simp at this; omega
     subst hi
     rw [h1, Nat.sub_self] at hy
     simp at hy
     subst hy
     exact ⟨cs', h3, h4⟩
  obtain ⟨l, hl, hle⟩ := hlist len (znC _)
  subst hl
  refine ⟨_, l, rfl, ⟨some a, cap, rfl, hlc, by simpa [maxLen] using hcm, fun i z hz => ?_⟩, .inr ⟨_, _, rfl, by simp [hel]⟩⟩
  obtain ⟨cs', h3, h4⟩ := hle i z hz
  obtain ⟨_, h5, h6⟩ := World.cells?_some h3
  have hspot : a.spot = none := by
   have hi : 0 < l.length := by have := (znr.1 hz).1; omega
   obtain ⟨_, cs0, h7, _⟩ := zi 0 hi
   obtain ⟨_, h8, h9⟩ := World.cells?_some h7
   have h10 := h9 0 hc0
   obtain ⟨u, hu⟩ : ∃ u, cs0[0]? = some u := ⟨_, znd (by omega)⟩
   rw [hu] at h10
   have h11 := World.cell?_spot h10
   simpa [Addr.add] using h11
  obtain ⟨b, o, s⟩ := a
  simp at hspot
  subst hspot
  exact ⟨b, o, cs', rfl, trivial, h5, (zo1 (by rw [yO] at h3; exact h3)).2, h4⟩
theorem zo8 {α : Type} {R : Rel α} {t e : TypeId} {c fuel : Nat} {cs : List Value} {x : DataW H × List MemPlace} (ht : P.underlying t = some (.slice e)) (hc : P.cellsOf e = c) (hc0 : 0 < c)
  (hR : ∀ (n : Nat) (cs : List Value) (y : DataW H × List MemPlace), DataW.trod enc P w base sp held n e cs = some y -> ∃ z, R (fun _ => True) w z cs) (h : DataW.trod enc P w base sp held fuel t cs = some x) : ∃ v l, cs = [v] /\ SlR c R (fun _ => True) w v l := by
 obtain ⟨v, l, h1, h2, _⟩ := zoa (fun _ => True) ht hc hc0 (fun _ _ _ _ _ => trivial) (fun n cs y _ => hR n cs y) h
 exact ⟨v, l, h1, h2⟩
theorem zob {e : TypeId} {n : Nat} {cs : List Value} {y : DataW H × List MemPlace} (he : P.underlying e = some (.int .i64)) (h : DataW.trod enc P w base sp held n e cs = some y) : ∃ z, zt (fun _ => True) w z cs := by
 obtain ⟨z, h1, _⟩ := DataW.trod_int he h
 exact ⟨z, h1⟩
end
open Go.ChangeShapes Go.WideShapes Go.ChangeAt Go.RowKit
section
variable {H : Type} {enc : TypeId × Value -> H} {P : Program} {w w' W W' : World} {base : Nat} {sp : Nat -> Bool} {held : Bool}
theorem zo2 {fs : Array Field} {m : Nat} {cs : List Value} {xs : List (DataW H × List MemPlace)} (hx : xs.length = fs.size) (hat : ∀ (i : Nat) (f : Field), fs[i]? = some f -> DataW.trod enc P w base sp held m f.type ((cs.drop f.offset).take (P.cellsOf f.type)) = xs[i]?) (i : Nat) {f : Field} (hf : fs[i]? = some f) {c : Nat} (hc : P.cellsOf f.type = c) :
  ∃ y, DataW.trod enc P w base sp held m f.type ((cs.drop f.offset).take c) = some y := by
 have h := hat i f hf
 have hi := (Array.getElem?_eq_some_iff.1 hf).1
 rw [znd (show i < xs.length by omega), hc] at h
 exact ⟨_, h⟩
end
end Go.GL
namespace Go.Proofs.YtaenledoagbddaaGreatDoor
open Go.GL Go.ChangeShapes Go.WideShapes Go.ChangeAt Go.RowKit
section
variable {H : Type} {enc : TypeId × Value -> H} {w : World} {base : Nat} {sp : Nat -> Bool} {held : Bool}
theorem zo3 : Tryz.prog.cellsOf 3 = 1 := by kernel_rfl
end
end Go.Proofs.YtaenledoagbddaaGreatDoor
namespace Go.GL
open Go.RowKit
section
variable {Bs : zH} {H : Hp} {w w' : World} {k : Nat} {e e' : HE} {T : Nat -> Prop}
theorem VI.offF {F : Nat -> Prop} {p : World -> Prop} (h : VI Bs H w) (k : Nat) (hg : zi H k = some (.dat F p)) : ∀ b, F b -> ¬ HS H b := fun b hb ⟨y, hy, hs⟩ => h.froz _ (zf hg) y hy b hb hs
end
theorem VI.k6 {Bs : zH} {H : Hp} {w : World} {p0 p1 p2 p3 p4 p5 p6 : World × (Nat -> Prop)} (h : VI (p0 :: p1 :: p2 :: p3 :: p4 :: p5 :: p6 :: Bs) H w) : Keep p6.2 p6.1 w := (h.base p6 (by simp)).1
end Go.GL
namespace Go.Proofs.YtaenledoagbddaaGreatDoor
open Go.GL Go.ChangeShapes Go.WideShapes Go.ChangeAt Go.RowKit
section
variable {H : Type} {enc : TypeId × Value -> H} {w : World} {base : Nat} {sp : Nat -> Bool} {held : Bool}
set_option maxRecDepth 100000 in
theorem znT (k : Nat) (cs : List Value) (x : DataW H × List MemPlace) (h : DataW.trod enc Tryz.prog w base sp held k 27 cs = some x) : ∃ t, RSl 1 zt (fun _ => True) w t cs := by
 obtain ⟨v, l, e, hs⟩ := zo8 tu27 zo3 (by decide) (fun n cs y hy => zob tu3 hy) h
 exact ⟨l, v, e, hs⟩
set_option maxRecDepth 100000 in
theorem znU {r : Reach} {b0 : Nat} {v : Value} {d : DataW H} {ps : List MemPlace} (hval : Value.okWide Tryz.prog w r b0 36 v) (hd : DataW.Trod enc Tryz.prog w base sp held 36 v d ps) :
  ∃ (c : List (List Int)) (u : Value), v = .agg #[u] /\ SlR 1 (RSl 1 zt) (fun _ => True) w u c := by
 unfold Value.okWide at hval
 rw [Tryz.underlying36] at hval
 obtain ⟨cs, rfl, hsz, _⟩ := hval
 obtain ⟨k, hn⟩ := hd
 obtain ⟨xs, m, hk, _, hl, hx, hat⟩ := DataW.trod_struct Tryz.underlying36 hn
 rw [show Tryz.prog.cellsOf 36 = 1 by kernel_rfl] at hl
 obtain ⟨l⟩ := cs
 match l, hl with
 | [c0], _ =>
  obtain ⟨y0, h0⟩ := zo2 hx hat 0 rfl (c := 1) (by kernel_rfl)
  obtain ⟨v0, l0, e0, hs0⟩ := zo8 tu34 (show Tryz.prog.cellsOf 27 = 1 by kernel_rfl) (by decide) (fun n cs y hy => znT n cs y hy) h0
  simp [Value.cells] at e0
  subst e0
  exact ⟨l0, _, rfl, hs0⟩
end
open Go.GL
theorem zje (s c : List Int) (L : List (List Int)) : wtC s (c :: L) = (if zP c ≠ 0 /\ xg c = s then zP c else 0) + wtC s L := by
 unfold wtC
 rw [List.map_cons, List.sum_cons]
theorem zo4 {s : List Int} {L L' : List (List Int)} (h : L.Perm L') : wtC s L = wtC s L' := by
 induction h with
 | nil => rfl
 | cons x _ ih => rw [zje, zje, ih]
 | swap x y l => rw [zje, zje, zje, zje]; omega
 | trans _ _ h1 h2 => rw [h1, h2]
theorem znV {s : List Int} {L L' : List (List Int)} (h : L.Perm L') : zgq s L ↔ zgq s L' := by
 unfold zgq
 exact ⟨fun ⟨c, hc, g⟩ => ⟨c, h.mem_iff.1 hc, g⟩, fun ⟨c, hc, g⟩ => ⟨c, h.mem_iff.2 hc, g⟩⟩
theorem zjf {c : List Int} {m : Int} (hm : 0 < m) : zP (c.map (m * ·)) = m * zP c /\ xg (c.map (m * ·)) = xg c := by
 have h := zb9 (l := c) (show 0 <= m by omega)
 refine ⟨h, ?_⟩
 unfold xg
 rw [h, List.map_map]
 exact List.map_congr_left fun x _ => Int.mul_ediv_mul_of_pos _ _ hm
theorem znN {s : List Int} {m : Int} (hm : 0 < m) : ∀ L : List (List Int), wtC s (L.map fun c => c.map (m * ·)) = m * wtC s L
 | [] => by show (0 : Int) = m * 0; omega
 | c :: L => by
  rw [List.map_cons, zje, zje, znN hm L, (zjf hm).1, (zjf hm).2, Int.mul_add]
  congr 1
  by_cases h0 : zP c = 0
  . rw [znn (fun g => g.1 (by rw [h0, Int.mul_zero])), znn (fun g => g.1 h0), Int.mul_zero]
  ·
   have : m * zP c ≠ 0 := Int.mul_ne_zero (by omega) h0
   by_cases e : xg c = s
   . rw [zno ⟨this, e⟩, zno ⟨h0, e⟩]
   . rw [znn (fun g => e g.2), znn (fun g => e g.2), Int.mul_zero]
theorem IsAbs.norm {c : List Int} {A B out out' : List (List Int)} {f : Int} (hf : 2 <= f) (h : IsAbs (A ++ c :: B) out) (h' : IsAbs (c :: c.map ((f - 1) * ·) :: (B ++ A).map fun c => c.map (f * ·)) out') : out' = out := by
 have hperm : (A ++ c :: B).Perm (c :: (B ++ A)) := by
  refine (List.perm_append_comm (l₁ := A) (l₂ := c :: B)).trans ?_
  rw [List.cons_append]
 have h1 := zjf (c := c) (show 0 < f - 1 by omega)
 refine (IsAbs.same (k := f) h h' (by omega) (fun s => ?_) (fun s => ?_)).symm
 ·
  rw [znV hperm]
  unfold zgq
  constructor
  ·
   rintro ⟨d, hd, g1, g2⟩
   rcases znt.1 hd with rfl | hd
   . exact ⟨d, znh .., g1, g2⟩
   ·
    refine ⟨d.map (f * ·), zng _ (zng _ (List.mem_map.2 ⟨d, hd, rfl⟩)), ?_, ?_⟩
    . rw [(zjf (by omega)).1]; exact Int.mul_ne_zero (by omega) g1
    . rw [(zjf (by omega)).2]; exact g2
  ·
   rintro ⟨d, hd, g1, g2⟩
   rcases znt.1 hd with rfl | hd
   . exact ⟨d, znh .., g1, g2⟩
   ·
    rcases znt.1 hd with rfl | hd
    . exact ⟨c, znh .., fun e => g1 (by rw [h1.1, e, Int.mul_zero]), by rw [<- h1.2]; exact g2⟩
    ·
     obtain ⟨e, he, rfl⟩ := List.mem_map.1 hd
     rw [(zjf (by omega)).1] at g1
     rw [(zjf (by omega)).2] at g2
     exact ⟨e, zng _ he, fun g => g1 (by rw [g, Int.mul_zero]), g2⟩
 ·
  rw [zo4 hperm, zje, zje, zje, znN (by omega), h1.1, h1.2, Int.mul_add, <- Int.add_assoc]
  congr 1
  by_cases h0 : zP c = 0
  . rw [znn (fun g => g.1 h0), znn (fun g => g.1 (by rw [h0, Int.mul_zero])), Int.mul_zero]; rfl
  ·
   have : (f - 1) * zP c ≠ 0 := Int.mul_ne_zero (by omega) h0
   by_cases e : xg c = s
   . rw [zno ⟨h0, e⟩, zno ⟨this, e⟩, Int.sub_mul, Int.one_mul]; omega
   . rw [znn (fun g => e g.2), znn (fun g => e g.2), Int.mul_zero]; rfl
def zoc (c : Mx) : Int := if VMx c then (c.headD []).sum else 0
def zo9 (c : Mx) (n : Int) : Prop := (c.length : Int) <= n /\ ∀ row ∈ c, (row.length : Int) <= n
theorem znQ (c : Mx) (n : Int) (v : Value) (D : Nat -> Prop) (W : World) (hc : SlR 1 (RSl 1 zt) D W v c) : Calls Tryz.prog 16 #[.agg #[v], .int .i64 n] W (Ret fun r w' => (∃ q : Bool, r = .bool q /\ (q = true -> zo9 c n)) /\ Ext W w') := by
 obtain ⟨av, cv, rfl⟩ := hc.form
 have hmx := hc.max
 refine zlu Tryz.func16 O Tryz.ntmps16 O (zlE ?_)
 refine Vs 2 O ?_
 refine V.box 2 O O (fun b2 => ?_)
 refine Vs 13 O ?_
 refine zjn O (fun g0 => ?_) (fun g0 => ?_)
 ·
  refine Vs 7 O ?_
  refine zjH Tryz.results16 O (fun w hI => ⟨_, rfl, ⟨_, rfl, fun h => by cases h⟩, hI.k0⟩)
 ·
  refine Vs 12 O ?_
  refine zm3 (σ := Nat) [1, 13, 14] [] [] O (fun e i => (15, .int .i64 i) :: e) (fun e i => e) (fun i => i <= c.length /\ ∀ j row, j < i -> c[j]? = some row -> (row.length : Int) <= n) (fun i => c.length - i) (0) (zl4 O) (zl5 O) (fun _ => rfl) (fun _ => rfl) (fun _ => rfl) (⟨zns _, fun j row h => absurd h (Nat.not_lt_zero _)⟩) ?_
  rintro i ⟨hi, hall⟩
  refine Vs 6 O ?_
  refine zjn O (fun hlt => ?_) (fun hlt => ?_)
  ·
   refine Vs 6 O ?_
   obtain ⟨x, he_x, hm_x⟩ := gE_ c (i) (by omega)
   obtain ⟨b_x, o_x, c_x, ha_x, _, hc_x, hR_x⟩ := hc.at he_x
   obtain ⟨v1_x, rfl, hs_x⟩ := hR_x
   obtain ⟨a1_x, n1_x, rfl⟩ := hs_x.form
   refine zm0 1000 0 O O hc_x ?_
   refine V.ix 1000 tR34 ts27 O ha_x (by omega) (_) (rfl) O ?_
   refine Vs 12 O ?_
   refine zjn O (fun g1 => ?_) (fun g1 => ?_)
   ·
    refine Vs 11 O ?_
    refine zjH Tryz.results16 O (fun w hI => ⟨_, rfl, ⟨_, rfl, fun h => by cases h⟩, hI.k0⟩)
   ·
    have hnx : i + 1 <= c.length /\ ∀ j row, j < i + 1 -> c[j]? = some row -> (row.length : Int) <= n := ⟨by omega, fun j row hj hr => by
     by_cases e : j = i
     ·
      subst e
      rw [he_x] at hr
      cases hr
      omega
     ·
      exact hall j row (by omega) hr⟩
    refine Va 7 O (by omega) ?_
    refine zjy (i + 1) (zl4 O) (zl5 O) (hnx) (by first | omega | (dsimp only; omega)) 0 O O
  ·
   obtain rfl : i = c.length := by omega
   have hres : zo9 c n := ⟨by omega, fun row hr => by
    obtain ⟨k, hk⟩ := List.mem_iff_getElem?.1 hr
    exact hall k row (znr.1 hk).1 hk⟩
   refine Vs 11 O ?_
   refine zjH Tryz.results16 O (fun w hI => ⟨_, rfl, ⟨_, rfl, fun _ => hres⟩, hI.k0⟩)
def zod (r0 row : List Int) : Prop := row.length = r0.length /\ (∀ n ∈ row, 0 <= n /\ n <= 1048576) /\ row.sum = r0.sum /\ 1 <= row.sum /\ row.sum <= 1048576
theorem znO {l : List Int} {k : Nat} {x : Int} (h : l[k]? = some x) : (l.take (k + 1)).sum = (l.take k).sum + x := by rw [zh h, List.sum_append]; simp
theorem zjh (c : Mx) (v : Value) (D : Nat -> Prop) (W : World) (hc : SlR 1 (RSl 1 zt) D W v c) : Calls Tryz.prog 20 #[.agg #[v]] W (Ret fun r w' => r = .bool (decide (VMx c)) /\ Ext W w') := by
 obtain ⟨av, cv, rfl⟩ := hc.form
 have hmx := hc.max
 refine zlt Tryz.func20 O Tryz.ntmps20 O (zlE ?_)
 refine Vs 2 O ?_
 refine V.box 1 O O (fun b1 => ?_)
 refine Vs 11 O ?_
 refine zlh 13 O (fun g0 => ?_) (fun g0 => ?_)
 ·
  refine Vs 31 O ?_
  refine zjH Tryz.results20 O (fun w hI => ⟨_, rfl, by rw [znq (fun h => by have := h.r1; omega)], hI.k0⟩)
 ·
  refine Vs 6 O ?_
  refine zlh 19 O (fun g1 => ?_) (fun g1 => ?_)
  ·
   refine Vs 25 O ?_
   refine zjH Tryz.results20 O (fun w hI => ⟨_, rfl, by rw [znq (fun h => by have := h.r2; omega)], hI.k0⟩)
  ·
   obtain ⟨r0, he_r0, hm_r0⟩ := gE_ c (0) (by omega)
   obtain ⟨b_r0, o_r0, c_r0, ha_r0, _, hc_r0, hR_r0⟩ := hc.at he_r0
   obtain ⟨v1_r0, rfl, hs_r0⟩ := hR_r0
   obtain ⟨a1_r0, n1_r0, rfl⟩ := hs_r0.form
   refine zm0 1000 0 O O hc_r0 ?_
   have hhd : c.headD [] = r0 := by
    cases c with
    | nil => simp at he_r0
    | cons a c => simpa using he_r0
   refine Vs 2 O ?_
   refine V.ix 1000 tR34 ts27 O ha_r0 (by omega) (0) (by omega) O ?_
   refine Vs 5 O ?_
   refine zlh 27 O (fun g2 => ?_) (fun g2 => ?_)
   ·
    refine Vs 17 O ?_
    refine zjH Tryz.results20 O (fun w hI => ⟨_, rfl, by rw [znq (fun h => by have := h.w1; rw [hhd] at this; omega)], hI.k0⟩)
   ·
    refine Vs 2 O ?_
    refine V.ix 1000 tR34 ts27 O ha_r0 (by omega) (0) (by omega) O ?_
    refine Vs 6 O ?_
    refine zjn O (fun g3 => ?_) (fun g3 => ?_)
    ·
     refine Vs 7 O ?_
     refine zjH Tryz.results20 O (fun w hI => ⟨_, rfl, by rw [znq (fun h => by have := h.w2; rw [hhd] at this; omega)], hI.k0⟩)
    ·
     have hno : ∀ row ∈ c, ¬ zod r0 row -> ¬ VMx c := fun row hr hb h => hb (by have := (vmx_ref.1 h).2 row hr; rwa [hhd] at this)
     refine Vs 17 O ?_
     refine zm3 (σ := Nat × Int) [1, 36, 37] [1] [1] O (fun e ⟨i, f⟩ => (38, .int .i64 i) :: (3, .int .i64 f) :: e) (fun e ⟨i, f⟩ => e) (fun ⟨i, f⟩ => i <= c.length /\ (∀ j row, j < i -> c[j]? = some row -> zod r0 row) /\ (0 < i -> f = r0.sum)) (fun ⟨i, f⟩ => c.length - i) ((0, 0)) (zl4 O) (zl5 O) (fun _ => rfl) (fun _ => rfl) (fun _ => rfl) (⟨zns _, fun j row h => absurd h (Nat.not_lt_zero _), fun h => absurd h (Nat.lt_irrefl 0)⟩) ?_
     rintro ⟨i, f⟩ ⟨hi, hall, hf⟩
     show V _ _ _ _ _ ((38, .int .i64 i) :: (3, .int .i64 f) :: _) _ (_) _
     refine Vs 6 O ?_
     refine zjn O (fun hlt => ?_) (fun hlt => ?_)
     ·
      obtain ⟨r1, he_r1, hm_r1⟩ := gE_ c (0) (by omega)
      obtain ⟨b_r1, o_r1, c_r1, ha_r1, _, hc_r1, hR_r1⟩ := hc.at he_r1
      obtain ⟨v1_r1, rfl, hs_r1⟩ := hR_r1
      obtain ⟨a1_r1, n1_r1, rfl⟩ := hs_r1.form
      refine zm0 2000 0 O O hc_r1 ?_
      have hr1 : r1 = r0 := by rw [he_r0] at he_r1; exact (Option.some.inj he_r1).symm
      have hrl1 : r1.length = r0.length := by rw [hr1]
      refine Vs 7 O ?_
      obtain ⟨row, he_row, hm_row⟩ := gE_ c (i) (by omega)
      obtain ⟨b_row, o_row, c_row, ha_row, _, hc_row, hR_row⟩ := hc.at he_row
      obtain ⟨v1_row, rfl, hs_row⟩ := hR_row
      obtain ⟨a1_row, n1_row, rfl⟩ := hs_row.form
      refine zm0 3000 0 O O hc_row ?_
      refine V.ix 3000 tR34 ts27 O ha_row (by omega) (_) (rfl) O ?_
      refine Vs 12 O ?_
      refine V.ix 2000 tR34 ts27 O ha_r1 (by omega) (0) (by omega) O ?_
      refine Vs 5 O ?_
      refine zjn O (fun w0 => ?_) (fun w0 => ?_)
      ·
       refine Vs 12 O ?_
       refine zjH Tryz.results20 O (fun w hI => ⟨_, rfl, by rw [znq (hno row hm_row (fun h => w0 (by have := h.1; omega)))], hI.k0⟩)
      ·
       have hrl : row.length = r0.length := by omega
       refine Vs 16 O ?_
       refine zm3 (σ := Nat × Int) [1, 3, 4, 36, 37, 38, 51, 52] [1] [1] O (fun e ⟨k, s⟩ => (53, .int .i64 k) :: (6, .int .i64 s) :: e) (fun e ⟨k, s⟩ => e) (fun ⟨k, s⟩ => k <= row.length /\ (∀ n ∈ row.take k, 0 <= n /\ n <= 1048576) /\ s = (row.take k).sum /\ 0 <= s /\ s <= k * 1048576) (fun ⟨k, s⟩ => row.length - k) ((0, 0)) (zl4 O) (zl5 O) (fun _ => rfl) (fun _ => rfl) (fun _ => rfl) (⟨zns _, fun n hn => by simp at hn, rfl, Int.le_refl 0, by omega⟩) ?_
       rintro ⟨k, s⟩ ⟨hk, hin, hs, hs0, hs1⟩
       show V _ _ _ _ _ ((53, .int .i64 k) :: (6, .int .i64 s) :: _) _ (_) _
       refine Vs 6 O ?_
       refine zjn O (fun hlt2 => ?_) (fun hlt2 => ?_)
       ·
        refine Vs 6 O ?_
        obtain ⟨x, he_x, hm_x⟩ := gE_ row (k) (by omega)
        obtain ⟨b_x, o_x, c_x, ha_x, _, hc_x, hR_x⟩ := hs_row.at he_x
        obtain rfl := hR_x
        refine zm0 4000 0 O O hc_x ?_
        refine V.ix 4000 tR27 ts3 O ha_x (by omega) (_) (rfl) O ?_
        refine Vs 10 O ?_
        refine zlh 59 O (fun w1 => ?_) (fun w1 => ?_)
        ·
         refine Vs 23 O ?_
         refine zjH Tryz.results20 O (fun w hI => ⟨_, rfl, by rw [znq (hno row hm_row (fun h => by have := h.2.1 x hm_x; omega))], hI.k0⟩)
        ·
         refine Vs 5 O ?_
         refine zjn O (fun w2 => ?_) (fun w2 => ?_)
         ·
          refine Vs 17 O ?_
          refine zjH Tryz.results20 O (fun w hI => ⟨_, rfl, by rw [znq (hno row hm_row (fun h => by have := h.2.1 x hm_x; omega))], hI.k0⟩)
         ·
          have hin2 : ∀ n ∈ row.take (k + 1), 0 <= n /\ n <= 1048576 := fun n hn => by
           rw [zh he_x, znw, znv] at hn
           rcases hn with hn | rfl
           . exact hin n hn
           . omega
          have hs2 := znO he_x
          refine Va 14 O (by omega) ?_
          refine zjy (⟨k + 1, s + x⟩) (zl4 O) (zl5 O) (⟨by omega, hin2, by rw [hs2, hs], by omega, by omega⟩) (by first | omega | (dsimp only; omega)) 0 O O
       ·
        obtain rfl : k = row.length := by omega
        rw [zni] at hin hs
        refine Vs 6 O ?_
        refine zm4 (σ := Int) [1, 6, 36, 37, 38] [1] [1] O (fun e f' => (3, .int .i64 f') :: e) (fun e f' => e) (fun f' => f' = if i = 0 then row.sum else f) (fun _ => rfl) (fun _ => rfl) ?_ ?_
        ·
         refine Vs 6 O ?_
         refine zjn O (fun z0 => ?_) (fun z0 => ?_)
         ·
          refine Vs 4 O ?_
          refine zjD (row.sum) (Sub.cons (by rw [hs]; rfl) (zl4 O)) (zl5 O) (by rw [zno (by omega)]) 0 O O
         ·
          refine Vs 1 O ?_
          refine zjD (f) (zl4 O) (zl5 O) (by rw [znn (by omega)]) 0 O O
        rintro f' hf'
        show V _ _ _ _ _ ((3, .int .i64 f') :: _) _ (_) _
        have hfr : f' = r0.sum := by
         by_cases e : i = 0
         ·
          subst e
          rw [zno rfl] at hf'
          have : row = r0 := by rw [he_r0] at he_row; exact (Option.some.inj he_row).symm
          rw [hf', this]
         ·
          rw [znn e] at hf'
          rw [hf']
          exact hf (by omega)
        refine Vs 7 O ?_
        refine zlh 73 O (fun y0 => ?_) (fun y0 => ?_)
        ·
         refine Vs 21 O ?_
         refine zjH Tryz.results20 O (fun w hI => ⟨_, rfl, by rw [znq (hno row hm_row (fun h => y0 (by rw [hs, hfr]; exact h.2.2.1)))], hI.k0⟩)
        ·
         refine Vs 4 O ?_
         refine zlh 77 O (fun y1 => ?_) (fun y1 => ?_)
         ·
          refine Vs 17 O ?_
          refine zjH Tryz.results20 O (fun w hI => ⟨_, rfl, by rw [znq (hno row hm_row (fun h => by have := h.2.2.2.1; omega))], hI.k0⟩)
         ·
          refine Vs 5 O ?_
          refine zjn O (fun y2 => ?_) (fun y2 => ?_)
          ·
           refine Vs 11 O ?_
           refine zjH Tryz.results20 O (fun w hI => ⟨_, rfl, by rw [znq (hno row hm_row (fun h => by have := h.2.2.2.2; omega))], hI.k0⟩)
          ·
           have hrow : zod r0 row := ⟨hrl, hin, by omega, by omega, by omega⟩
           have hall2 : ∀ j row, j < i + 1 -> c[j]? = some row -> zod r0 row := fun j row' hj hr => by
            by_cases e : j = i
            ·
             subst e
             rw [he_row] at hr
             cases hr
             exact hrow
            . exact hall j row' (by omega) hr
           refine Va 7 O (by omega) ?_
           refine zjy (⟨i + 1, f'⟩) (zl4 O) (zl5 O) (⟨by omega, hall2, fun _ => hfr⟩) (by first | omega | (dsimp only; omega)) 0 O O
     ·
      obtain rfl : i = c.length := by omega
      have hres : VMx c := vmx_ref.2 ⟨⟨by omega, by omega, by rw [hhd]; omega, by rw [hhd]; omega⟩, fun row hr => by
       obtain ⟨k, hk⟩ := List.mem_iff_getElem?.1 hr
       rw [hhd]
       exact hall k row (znr.1 hk).1 hk⟩
      refine Vs 11 O ?_
      refine zjH Tryz.results20 O (fun w hI => ⟨_, rfl, by rw [znp hres], hI.k0⟩)
theorem znR (c : Mx) (hv : VMx c) (v : Value) (D : Nat -> Prop) (W : World) (hc : SlR 1 (RSl 1 zt) D W v c) : Calls Tryz.prog 22 #[.agg #[v]] W (Ret fun r w' => SlR 1 (RSl 1 zt) (fun b => W.heap.size <= b) w' r (zN c) /\ Ext W w') := by
 obtain ⟨av, cv, rfl⟩ := hc.form
 have hr1 := hv.r1
 have hr2 := hv.r2
 have hw2 := hv.w2
 have hwid := hv.wid
 refine zlt Tryz.func22 O Tryz.ntmps22 O (zlE ?_)
 obtain ⟨r0, he_r0, hm_r0⟩ := gE_ c (0) (by omega)
 obtain ⟨b_r0, o_r0, c_r0, ha_r0, _, hc_r0, hR_r0⟩ := hc.at he_r0
 obtain ⟨v1_r0, rfl, hs_r0⟩ := hR_r0
 obtain ⟨a1_r0, n1_r0, rfl⟩ := hs_r0.form
 refine zm0 1000 0 O O hc_r0 ?_
 have hhd : c.headD [] = r0 := by
  cases c with
  | nil => simp at he_r0
  | cons a c => simpa using he_r0
 rw [hhd] at hwid hw2
 refine Vs 2 O ?_
 refine V.box 1 O O (fun b1 => ?_)
 refine Vs 5 O ?_
 refine V.bs0 7 tR34 ts27 O (fun b7 => ?_)
 refine Vs 8 O ?_
 refine V.ix 1000 tR34 ts27 O ha_r0 (by omega) (0) (by omega) O ?_
 refine Vs 5 O ?_
 refine zmc 7 (e' := OwP 27 1 (RSl 1 zt) (fun _ => False) (.slice (some ⟨b7, 0, none⟩) 0 0) []) O (fun w hI => ⟨⟨[], hI.at 7 rfl, fun i x h => by simp at h⟩, fun _ h => h.elim⟩) OwP.loc (fun _ h => h) (fun q hq => hq.elim id False.elim) ?_
 refine Vs 1 O ?_
 refine zm3 (σ := Nat × Value × (Nat -> Prop)) [1, 12] [1] [1] O (fun e ⟨y, u, F⟩ => (13, .int .i64 y) :: (3, u) :: e) (fun e ⟨y, u, F⟩ => (7, OwP 27 1 (RSl 1 zt) F u ((zN c).take y)) :: e) (fun ⟨y, u, F⟩ => y <= r0.length) (fun ⟨y, u, F⟩ => r0.length - y) ((0, .slice (some ⟨b7, 0, none⟩) 0 0, fun _ => False)) (zl4 O) (zl5 O) (fun _ => rfl) (fun _ => rfl) (fun _ => rfl) (zns _) ?_
 rintro ⟨y, u, F⟩ hy
 show V _ _ _ _ _ ((13, .int .i64 y) :: (3, u) :: _) _ ((7, OwP 27 1 (RSl 1 zt) F u ((zN c).take y)) :: _) _
 have htl : (zN c).length = r0.length := by rw [qi, hhd]
 have hyl : ((zN c).take y).length = y := by rw [znH, htl]; omega
 refine Vs 6 O ?_
 refine zjn O (fun hlt => ?_) (fun hlt => ?_)
 ·
  have htk := zfq (c := c) (y := y) (by rw [hhd]; omega)
  refine Vs 12 O ?_
  refine V.bs0 16 tR27 ts3 O (fun b16 => ?_)
  refine Vs 13 O ?_
  refine zm3 (σ := Nat × Value) [1, 3, 4, 12, 13, 19] [1, 7] [1] O (fun e ⟨x, u2⟩ => (20, .int .i64 x) :: (5, u2) :: e) (fun e ⟨x, u2⟩ => (16, .row 3 1 u2 x (((jm c y).take x).map zd)) :: e) (fun ⟨x, u2⟩ => x <= c.length) (fun ⟨x, u2⟩ => c.length - x) ((0, _)) (zl4 O) (zl5 O) (fun _ => rfl) (fun _ => rfl) (fun _ => rfl) (zns _) ?_
  rintro ⟨x, u2⟩ hx
  show V _ _ _ _ _ ((20, .int .i64 x) :: (5, u2) :: _) _ ((16, .row 3 1 u2 x (((jm c y).take x).map zd)) :: _) _
  refine Vs 6 O ?_
  refine zjn O (fun hlt2 => ?_) (fun hlt2 => ?_)
  ·
   refine Vs 15 O ?_
   obtain ⟨row, he_row, hm_row⟩ := gE_ c (x) (by omega)
   obtain ⟨b_row, o_row, c_row, ha_row, _, hc_row, hR_row⟩ := hc.at he_row
   obtain ⟨v1_row, rfl, hs_row⟩ := hR_row
   obtain ⟨a1_row, n1_row, rfl⟩ := hs_row.form
   refine zm0 2000 0 O O hc_row ?_
   refine V.ix 2000 tR34 ts27 O ha_row (by omega) (_) (rfl) O ?_
   have hrl := hwid row hm_row
   obtain ⟨e, he_e, hm_e⟩ := gE_ row (y) (by omega)
   obtain ⟨b_e, o_e, c_e, ha_e, _, hc_e, hR_e⟩ := hs_row.at he_e
   obtain rfl := hR_e
   refine zm0 3000 0 O O hc_e ?_
   refine Vs 2 O ?_
   refine V.ix 3000 tR27 ts3 O ha_e (by omega) (y) (by omega) O ?_
   refine Vs 1 O ?_
   refine zm6 32 [(0, _)] tR27 ts3 tz3 (by decide) O O (by kernel_rfl) (fun b32 => ?_)
   refine zlN 16 32 tu27 Tryz.el3 O (by decide) O O (by omega) (by omega) (fun u16 => ?_)
   refine Va 8 O (by omega) ?_
   refine zm2 16 O (e' := .row 3 1 u16 (x + 1) (((jm c y).take (x + 1)).map zd)) (by rw [zh (show (jm c y)[x]? = some e by unfold jm; rw [znu, he_row]; show some (row[y]?.getD 0) = _; rw [he_e]; rfl), List.map_append]; rfl) ?_
   refine zjy (⟨x + 1, u16⟩) (zl4 O) (zl5 O) (by omega) (by first | omega | (dsimp only; omega)) 0 O O
  ·
   obtain rfl : x = c.length := by omega
   refine zm2 16 O (e' := .row 3 1 u2 (jm c y).length ((jm c y).map zd)) (by rw [List.take_of_length_le (by rw [xK]; exact znC _), xK]) ?_
   refine zlF (fun w hI => qJ (show w.ownsRow 0 3 1 u2 _ _ from hI.at 16 O)) ?_
   rintro ⟨ab, cb, rfl⟩
   refine zmc 16 (e' := DaP (RSl 1 zt) (fun q => (Value.slice ab (jm c y).length cb).ownBlock = some q) (jm c y) [.slice ab (jm c y).length cb]) O (fun w hI => ⟨_, rfl, zkx zd (fun _ _ => rfl) (hI.at 16 O) (fun g hg => hg)⟩) DaP.loc (fun _ h => h) (fun q hq => hq) ?_
   refine Vs 8 O ?_
   refine zm6 37 [(0, _)] tR34 ts27 tz27 (by decide) O O (by kernel_rfl) (fun b37 => ?_)
   refine zmt [7, 16] (Hn := fun u => [(7, OwP 27 1 (RSl 1 zt) (fun q => F q \/ (Value.slice ab (jm c y).length cb).ownBlock = some q) u ((zN c).take y ++ [jm c y]))]) (u := fun u => u) [(1, some (1, 0))] O (fun _ => rfl) (fun _ => rfl) (fun w hI => zmu 7 16 37 hI O O O O tu34 Tryz.el27 O (by decide) O O O (fun D x cs h => zgO D x cs h) (by omega) (by omega)) (fun u7 => ?_)
   refine Va 8 O (by omega) ?_
   rw [<- htk]
   refine zjy (⟨y + 1, u7, fun q => F q \/ (Value.slice ab (jm c y).length cb).ownBlock = some q⟩) (zl4 O) (zl5 O) (by omega) (by first | omega | (dsimp only; omega)) 0 O O
 ·
  obtain rfl : y = r0.length := by omega
  rw [<- htl, zni]
  refine Vs 12 O ?_
  refine zjH Tryz.results22 O (fun w hI => ⟨_, rfl, (show OwH _ _ _ _ _ _ _ from hI.at 7 O).sl (by omega) (fun q hq => hI.own 7 0 O O q hq), hI.k0⟩)
theorem znW {n : Nat} {l : Mx} {x : Nat} (h : x < n) : (jD n l).take (x + 1) = (jD n l).take x ++ [jm l x] := zh (by unfold jD; rw [znu, List.getElem?_range h]; rfl)
theorem znM (n : Nat) (l : Mx) (hl : ∀ col ∈ l, col.length = n) (hn : n <= 1000000) (hll : l.length <= 1000000) (v : Value) (D : Nat -> Prop) (W : World) (hc : SlR 1 (RSl 1 zt) D W v l) : Calls Tryz.prog 24 #[.int .i64 n, v] W (Ret fun r w' => (∃ u, r = .agg #[u] /\ SlR 1 (RSl 1 zt) (fun b => W.heap.size <= b) w' u (jD n l)) /\ Ext W w') := by
 obtain ⟨av, cv, rfl⟩ := hc.form
 have hrl := zc6 n l
 refine zlu Tryz.func24 O Tryz.ntmps24 O (zlE ?_)
 refine Vs 2 O ?_
 refine V.alloc 4 tz36 O O (fun b4 => ?_)
 refine Vs 4 O ?_
 refine V.alloc 5 tz36 O O (fun b5 => ?_)
 refine Vs 8 O ?_
 refine zlM 900 27 1 O ?_
 refine zmc 900 (e' := OwP 27 1 (RSl 1 zt) (fun _ => False) (.slice none 0 0) []) O (fun w hI => OwH.nil) OwP.loc (fun _ h => h) (fun q hq => hq.elim id False.elim) ?_
 refine Vs 1 O ?_
 refine zm3 (σ := Nat × Option Addr × Nat × (Nat -> Prop)) [0, 1, 4, 5] [4] [4, 5] O (fun e ⟨x, aj, cj, F⟩ => (6, .int .i64 x) :: e) (fun e ⟨x, aj, cj, F⟩ => (5, .own b5 [.slice aj ((jD n l).take x).length cj] 36) :: (900, OwP 27 1 (RSl 1 zt) F (.slice aj ((jD n l).take x).length cj) ((jD n l).take x)) :: e) (fun ⟨x, aj, cj, F⟩ => x <= n) (fun ⟨x, aj, cj, F⟩ => n - x) ((0, none, 0, fun _ => False)) (zl4 O) (zl5 O) (fun _ => rfl) (fun _ => rfl) (fun _ => rfl) (zns _) ?_
 rintro ⟨x, aj, cj, F⟩ hx
 show V _ _ _ _ _ ((6, .int .i64 x) :: _) _ ((5, .own b5 [.slice aj ((jD n l).take x).length cj] 36) :: (900, OwP 27 1 (RSl 1 zt) F (.slice aj ((jD n l).take x).length cj) ((jD n l).take x)) :: _) _
 have hxl : ((jD n l).take x).length = x := by rw [znH, hrl]; omega
 refine Vs 8 O ?_
 refine zjn O (fun hlt => ?_) (fun hlt => ?_)
 ·
  have htk := znW (n := n) (l := l) (x := x) (by omega)
  refine Vs 6 O ?_
  refine V.bs0 15 tR27 ts3 O (fun b15 => ?_)
  refine Vs 12 O ?_
  refine zm3 (σ := Nat × Value) [0, 1, 4, 5, 6, 16, 17] [4, 5, 900] [4, 5] O (fun e ⟨k, u2⟩ => (18, .int .i64 k) :: (7, u2) :: e) (fun e ⟨k, u2⟩ => (15, .row 3 1 u2 k (((jm l x).take k).map zd)) :: e) (fun ⟨k, u2⟩ => k <= l.length) (fun ⟨k, u2⟩ => l.length - k) ((0, _)) (zl4 O) (zl5 O) (fun _ => rfl) (fun _ => rfl) (fun _ => rfl) (zns _) ?_
  rintro ⟨k, u2⟩ hk
  show V _ _ _ _ _ ((18, .int .i64 k) :: (7, u2) :: _) _ ((15, .row 3 1 u2 k (((jm l x).take k).map zd)) :: _) _
  refine Vs 6 O ?_
  refine zjn O (fun hlt2 => ?_) (fun hlt2 => ?_)
  ·
   refine Vs 6 O ?_
   obtain ⟨row, he_row, hm_row⟩ := gE_ l (k) (by omega)
   obtain ⟨b_row, o_row, c_row, ha_row, _, hc_row, hR_row⟩ := hc.at he_row
   obtain ⟨v1_row, rfl, hs_row⟩ := hR_row
   obtain ⟨a1_row, n1_row, rfl⟩ := hs_row.form
   refine zm0 1000 0 O O hc_row ?_
   refine V.ix 1000 tR34 ts27 O ha_row (by omega) (_) (rfl) O ?_
   have hrw := hl row hm_row
   obtain ⟨e, he_e, hm_e⟩ := gE_ row (x) (by omega)
   obtain ⟨b_e, o_e, c_e, ha_e, _, hc_e, hR_e⟩ := hs_row.at he_e
   obtain rfl := hR_e
   refine zm0 2000 0 O O hc_e ?_
   refine Vs 8 O ?_
   refine V.ix 2000 tR27 ts3 O ha_e (by omega) (x) (by omega) O ?_
   refine Vs 1 O ?_
   refine zm6 27 [(0, _)] tR27 ts3 tz3 (by decide) O O (by kernel_rfl) (fun b27 => ?_)
   refine zlN 15 27 tu27 Tryz.el3 O (by decide) O O (by omega) (by omega) (fun u15 => ?_)
   refine Va 8 O (by omega) ?_
   refine zm2 15 O (e' := .row 3 1 u15 (k + 1) (((jm l x).take (k + 1)).map zd)) (by rw [zh (show (jm l x)[k]? = some e by unfold jm; rw [znu, he_row]; show some (row[x]?.getD 0) = _; rw [he_e]; rfl), List.map_append]; rfl) ?_
   refine zjy (⟨k + 1, u15⟩) (zl4 O) (zl5 O) (by omega) (by first | omega | (dsimp only; omega)) 0 O O
  ·
   obtain rfl : k = l.length := by omega
   refine zm2 15 O (e' := .row 3 1 u2 (jm l x).length ((jm l x).map zd)) (by rw [List.take_of_length_le (by rw [xK]; exact znC _), xK]) ?_
   refine zlF (fun w hI => qJ (show w.ownsRow 0 3 1 u2 _ _ from hI.at 15 O)) ?_
   rintro ⟨ab, cb, rfl⟩
   refine zmc 15 (e' := DaP (RSl 1 zt) (fun q => (Value.slice ab (jm l x).length cb).ownBlock = some q) (jm l x) [.slice ab (jm l x).length cb]) O (fun w hI => ⟨_, rfl, zkx zd (fun _ _ => rfl) (hI.at 15 O) (fun g hg => hg)⟩) DaP.loc (fun _ h => h) (fun q hq => hq) ?_
   refine Vs 9 O ?_
   refine zm6 33 [(0, _)] tR34 ts27 tz27 (by decide) O O (by kernel_rfl) (fun b33 => ?_)
   refine zmt [900, 15] (Hn := fun u => [(900, OwP 27 1 (RSl 1 zt) (fun q => F q \/ (Value.slice ab (jm l x).length cb).ownBlock = some q) u ((jD n l).take x ++ [jm l x]))]) (u := fun u => u) [(4, some (4, 0)), (5, some (5, 0)), (30, some (5, 0))] O (fun _ => rfl) (fun _ => rfl) (fun w hI => zmu 900 15 33 hI O O O O tu34 Tryz.el27 O (by decide) O O O (fun D x cs h => zgO D x cs h) (by omega) (by omega)) (fun u900 => ?_)
   refine zlF (p := ∃ ao c, u900 = .slice ao ((jD n l).take x ++ [jm l x]).length c) (fun w hI => zds (hI.at 900 O)) (fun hu => ?_)
   obtain ⟨an, cn, rfl⟩ := hu
   refine Va 10 O (by omega) ?_
   rw [<- htk] at *
   refine zjy (⟨x + 1, an, cn, fun q => F q \/ (Value.slice ab (jm l x).length cb).ownBlock = some q⟩) (zl4 O) (zl5 O) (by omega) (by first | omega | (dsimp only; omega)) 0 O O
 ·
  obtain rfl : x = n := by omega
  rw [List.take_of_length_le (by rw [hrl]; exact znC _)] at *
  refine Vs 12 O ?_
  refine zjP Tryz.results24 tg36 ts36 O O O (fun w hI => ⟨_, rfl, ⟨_, rfl, (show OwH _ _ _ _ _ _ _ from hI.at 900 O).sl (by omega) (fun q hq => hI.own 900 0 O O q hq)⟩, hI.k0⟩)
theorem znK (f : Int) (x : Nat) : ∀ L : Mx, ((L.map fun c => c.map (f * ·)).map (atC x)).sum = f * (L.map (atC x)).sum
 | [] => by simp
 | c :: L => by rw [List.map_cons, List.map_cons, List.sum_cons, znK f x L, List.map_cons, List.sum_cons, zcN, Int.mul_add]
theorem znX {n : Nat} {l : Mx} (h : 1 <= n) : (jD n l).headD [] = jm l 0 := by
 obtain ⟨m, rfl⟩ : ∃ m, n = m + 1 := ⟨n - 1, by omega⟩
 simp [jD, List.range_succ_eq_map]
theorem znS {n : Nat} {l : Mx} {t : Int} (h1 : 1 <= n) (h2 : n <= 256) (hl1 : 1 <= l.length) (hl2 : l.length <= 256) (hc : ∀ col ∈ l, ∀ v ∈ col, 0 <= v) (ht1 : 1 <= t) (ht2 : t <= 1048576) (hs : ∀ x, x < n -> (l.map (atC x)).sum = t) : VMx (jD n l) := by
 have hh := znX (l := l) h1
 have hm : ∀ row ∈ jD n l, ∃ x, x < n /\ row = jm l x := fun row hr => by
  obtain ⟨x, hx, rfl⟩ := List.mem_map.1 hr
  exact ⟨x, List.mem_range.1 hx, rfl⟩
 have h0 : (jm l 0).sum = t := by rw [zgr]; exact hs 0 h1
 refine ⟨?_, ?_, ?_, ?_, fun row hr => ?_, fun row hr v hv => ?_, ?_, ?_, fun row hr => ?_⟩
 . rw [zc6]; exact h1
 . rw [zc6]; exact h2
 . rw [hh, xK]; exact hl1
 . rw [hh, xK]; exact hl2
 ·
  obtain ⟨x, _, rfl⟩ := hm row hr
  rw [hh, xK, xK]
 ·
  obtain ⟨x, _, rfl⟩ := hm row hr
  obtain ⟨col, hcol, rfl⟩ := List.mem_map.1 hv
  cases hx : col[x]? with
  | none => exact Int.le_refl 0
  | some v => exact hc col hcol v (zne hx)
 . rw [hh, h0]; exact ht1
 . rw [hh, h0]; exact ht2
 ·
  obtain ⟨x, hx, rfl⟩ := hm row hr
  rw [hh, h0, zgr]; exact hs x hx
def zjg (f : Int) : Mx -> Mx
 | [] => []
 | d :: r => d :: d.map ((f - 1) * ·) :: r.map fun c => c.map (f * ·)
theorem zo5 {c : Mx} (hv : VMx c) {A B : Mx} {d : List Int} (hT : zN c = A ++ d :: B) {f : Int} (hf : 2 <= f) (h1 : f * (c.headD []).sum <= 1048576) (h2 : (c.headD []).length + 1 <= 256) : zgL (jD c.length (zjg f (d :: B ++ A))) = zgL c := by
 have hcol : ∀ col ∈ A ++ d :: B, col.length = c.length /\ ∀ v ∈ col, 0 <= v := fun col hc => zfb hv (hT ▸ hc)
 have hlen : (A ++ d :: B).length = (c.headD []).length := by rw [<- hT, qi]
 have hmul : ∀ {m : Int} {col : List Int}, 0 <= m -> (∀ v ∈ col, 0 <= v) -> ∀ v ∈ col.map (m * ·), 0 <= v := fun hm hc v hv => by
  obtain ⟨u, hu, rfl⟩ := List.mem_map.1 hv
  exact znI hm (hc u hu)
 have hd := hcol d (List.mem_append_right _ (znh ..))
 have hBA : ∀ col ∈ B ++ A, col.length = c.length /\ ∀ v ∈ col, 0 <= v := fun col hc => hcol col (by
  rcases znw.1 hc with h | h
  . exact List.mem_append_right _ (zng _ h)
  ·
   exact List.mem_append_left _ h)
 have hout : ∀ col ∈ zjg f (d :: B ++ A), col.length = c.length /\ ∀ v ∈ col, 0 <= v := fun col hc => by
  rcases znt.1 hc with rfl | hc
  . exact hd
  rcases znt.1 hc with rfl | hc
  . exact ⟨by rw [znx]; exact hd.1, hmul (by omega) hd.2⟩
  obtain ⟨col', hc', rfl⟩ := List.mem_map.1 hc
  exact ⟨by rw [znx]; exact (hBA _ hc').1, hmul (by omega) (hBA _ hc').2⟩
 have hol : (zjg f (d :: B ++ A)).length = (c.headD []).length + 1 := by
  rw [<- hlen]
  show (d :: d.map ((f - 1) * ·) :: (B ++ A).map fun c => c.map (f * ·)).length = _
  simp only [znG, znx, znl]
  omega
 have hpos := hv.s1
 have hval : VMx (jD c.length (zjg f (d :: B ++ A))) := by
  refine znS (t := f * (c.headD []).sum) hv.r1 hv.r2 (by omega) (by omega) (fun col hc => (hout col hc).2) ?_ h1 fun x hx => ?_
  ·
   have := Int.mul_le_mul (show (1 : Int) <= f by omega) hpos (by decide) (by omega)
   omega
  ·
   have hrow : ((zN c).map (atC x)).sum = (c.headD []).sum := by
    rw [ziy hv.wid hx]
    exact hv.sm _ (List.getElem_mem hx)
   rw [hT, List.map_append, List.map_cons, List.sum_append, List.sum_cons] at hrow
   show ((d :: d.map ((f - 1) * ·) :: (B ++ A).map fun c => c.map (f * ·)).map (atC x)).sum = _
   rw [List.map_cons, List.map_cons, List.sum_cons, List.sum_cons, znK, zcN, List.map_append, List.sum_append, <- hrow, Int.sub_mul, Int.mul_add, Int.mul_add, Int.mul_add]
   omega
 have ht := zf8 hv.r1 fun col hc => (hout col hc).1
 rw [kh hval, kh hv, zc6, ht]
 have h3 : IsAbs (A ++ d :: B) (ze2 (zN c)) := hT ▸ zcQ (zN c)
 rw [h3.norm hf (zcQ (zjg f (d :: B ++ A)))]
theorem zjj (c : Mx) (v : Value) (D : Nat -> Prop) (W : World) (hc : SlR 1 (RSl 1 zt) D W v c) : Calls Tryz.prog 21 #[.agg #[v]] W (Ret fun r w' => r = .int .i64 (zoc c) /\ Ext W w') := by
 obtain ⟨av, cv, rfl⟩ := hc.form
 have hmx := hc.max
 refine zlt Tryz.func21 O Tryz.ntmps21 O (zlE ?_)
 refine Vs 2 O ?_
 refine V.box 1 O O (fun b1 => ?_)
 refine Vs 7 O ?_
 refine zlT Tryz.call20 O (fun w hI => zjh c _ D w (Tr1 hI.k0 hc)) ?_
 refine zll O (fun w hI => zkO O (by first | exact zb | rfl)) ?_
 refine Vs 2 O ?_
 refine zjn O (fun v0 => ?_) (fun v0 => ?_)
 ·
  refine Vs 7 O ?_
  refine zjH Tryz.results21 O (fun w hI => ⟨_, rfl, by unfold zoc; rw [znn v0], hI.k0⟩)
 ·
  have v0 := znm.1 v0
  have hr1 := v0.r1
  obtain ⟨r0, he_r0, hm_r0⟩ := gE_ c (0) (by omega)
  obtain ⟨b_r0, o_r0, c_r0, ha_r0, _, hc_r0, hR_r0⟩ := hc.at he_r0
  obtain ⟨v1_r0, rfl, hs_r0⟩ := hR_r0
  obtain ⟨a1_r0, n1_r0, rfl⟩ := hs_r0.form
  refine zm0 1000 0 O O hc_r0 ?_
  have hhd : c.headD [] = r0 := by
   cases c with
   | nil => simp at he_r0
   | cons a c => simpa using he_r0
  have hb := (vmx_ref.1 v0).2 r0 hm_r0
  have hw2 := v0.w2
  rw [hhd] at hw2
  refine Vs 12 O ?_
  refine V.ix 1000 tR34 ts27 O ha_r0 (by omega) (0) (by omega) O ?_
  refine Vs 6 O ?_
  refine zm3 (σ := Nat × Int) [12, 13] [] [] O (fun e ⟨k, s⟩ => (14, .int .i64 k) :: (3, .int .i64 s) :: e) (fun e ⟨k, s⟩ => e) (fun ⟨k, s⟩ => k <= r0.length /\ s = (r0.take k).sum /\ 0 <= s /\ s <= k * 1048576) (fun ⟨k, s⟩ => r0.length - k) ((0, 0)) (zl4 O) (zl5 O) (fun _ => rfl) (fun _ => rfl) (fun _ => rfl) (⟨zns _, rfl, Int.le_refl 0, by omega⟩) ?_
  rintro ⟨k, s⟩ ⟨hk, hs, hs0, hs1⟩
  show V _ _ _ _ _ ((14, .int .i64 k) :: (3, .int .i64 s) :: _) _ (_) _
  refine Vs 6 O ?_
  refine zjn O (fun hlt => ?_) (fun hlt => ?_)
  ·
   refine Vs 6 O ?_
   obtain ⟨x, he_x, hm_x⟩ := gE_ r0 (k) (by omega)
   obtain ⟨b_x, o_x, c_x, ha_x, _, hc_x, hR_x⟩ := hs_r0.at he_x
   obtain rfl := hR_x
   refine zm0 2000 0 O O hc_x ?_
   refine V.ix 2000 tR27 ts3 O ha_x (by omega) (_) (rfl) O ?_
   have hx := hb.2.1 x hm_x
   have hs2 := znO he_x
   refine Va 16 O (by omega) ?_
   refine zjy (⟨k + 1, s + x⟩) (zl4 O) (zl5 O) (⟨by omega, by rw [hs2, hs], by omega, by omega⟩) (by first | omega | (dsimp only; omega)) 0 O O
  ·
   obtain rfl : k = r0.length := by omega
   rw [zni] at hs
   refine Vs 12 O ?_
   refine zjH Tryz.results21 O (fun w hI => ⟨_, rfl, by unfold zoc; rw [zno v0, hhd, hs], hI.k0⟩)
end Go.Proofs.YtaenledoagbddaaGreatDoor
namespace Go.GL
open Go.RowKit
section
variable {P : Program} {env : Env} {w : World} {dst : Option Tmp} {ty : TypeId} {pos : String} {aft : Array Edge} {g : Option (Nat × Bool)} {t t' : TypeId} {x y : Operand} {m j : Int}
theorem zoe (hx : ev env x = some (.int .i64 m)) (hy : ev env y = some (.int .i64 j)) (hj : j ≠ 0) : zI P ⟨dst, .binOp .rem t x y t', ty, pos, aft, g⟩ env w (.int .i64 (m.tmod j)) w := by
 intro n a ha
 simp [execOp, ha.eval hx, ha.eval hy, eqGuard_rem, binOp_rem, Op.intDiv, hj]
end
section
variable {P : Program} {n : Nat} {Q : Exit -> Act -> World -> Prop} {ks : List Fr} {env : Env} {A : Tgs} {H Hs : Hp} {Bs B0 : zH} {ops : Array Oper} {L : List Nat} {fuel : Nat} {listed : Array Bool} {d d2 : Nat} {ty ty2 : TypeId} {ps ps2 : String} {aft aft2 : Array Edge} {g g2 : Option (Nat × Bool)}
theorem VD.call22 (i i2 j : Nat) {f f2 : FuncId} {xs xs2 : Array Operand} {ts ts2 : Array TypeId} {vs vs2 : List Value} {Φ Φ2 : Value -> World -> World -> Prop} (hf : ∀ args w, (callFunc f args).run P w = .ok (.enter f args) w) (hf2 : ∀ args w, (callFunc f2 args).run P w = .ok (.enter f2 args) w)
  (hi : (ops[i]?, ops[i2]?) = (some ⟨some d, .call ⟨.value (.func f), xs, ts⟩, ty, ps, aft, g⟩, some ⟨some d2, .call ⟨.value (.func f2), xs2, ts2⟩, ty2, ps2, aft2, g2⟩)) (hr : Region.ready .any ops listed = [i, i2])
  (hn : (Nat.blt d n, gd ops env g, xW env xs.toList, Nat.blt d2 n, gd ops env g2, xW env xs2.toList, xP (Hs.map (·.1))) = (true, some true, some vs, true, some true, some vs2, true)) (hB : Bs.drop j = B0)
  (hc : ∀ w, VI Bs H w -> Calls P f vs.toArray w (Ret fun r w' => Φ r w w' /\ Ext w w')) (hc2 : ∀ w, VI Bs H w -> Calls P f2 vs2.toArray w (Ret fun r w' => Φ2 r w w' /\ Ext w w'))
  (h : ∀ r w w', VI Bs H w -> Ext w w' -> Φ r w w' -> (∀ q, HS H q -> q < w.heap.size) -> VD P n Q ks ops Hs B0 L fuel (listed.setIfInBounds i true) ((d, r) :: env) ((d, none) :: A) H ((w', HS H) :: Bs))
  (h2 : ∀ r w w', VI Bs H w -> Ext w w' -> Φ2 r w w' -> (∀ q, HS H q -> q < w.heap.size) -> VD P n Q ks ops Hs B0 L fuel (listed.setIfInBounds i2 true) ((d2, r) :: env) ((d2, none) :: A) H ((w', HS H) :: Bs)) : VD P n Q ks ops Hs B0 L (fuel + 1) listed env A H Bs := by
 simp only [Prod.mk.injEq] at hn hi
 obtain ⟨hi1, hi2⟩ := hi
 obtain ⟨b1, g1, v1, b2, g2', v2, hu⟩ := hn
 subst hB
 intro hH hA w hI a ha
 refine ⟨fun h0 => (by rw [hr] at h0; cases h0), fun k hk => ?_⟩
 rw [hr] at hk
 have key : ∀ {i d : Nat} {f : FuncId} {xs : Array Operand} {ts : Array TypeId} {vs : List Value} {ty : TypeId} {ps : String} {aft : Array Edge} {g : Option (Nat × Bool)} {Φ : Value -> World -> World -> Prop}, (∀ args w, (callFunc f args).run P w = .ok (.enter f args) w) -> ops[i]? = some ⟨some d, .call ⟨.value (.func f), xs, ts⟩, ty, ps, aft, g⟩ -> Nat.blt d n = true -> gd ops env g = some true -> xW env xs.toList = some vs ->
   (∀ w, VI Bs H w -> Calls P f vs.toArray w (Ret fun r w' => Φ r w w' /\ Ext w w')) -> (∀ r w w', VI Bs H w -> Ext w w' -> Φ r w w' -> (∀ q, HS H q -> q < w.heap.size) -> VD P n Q ks ops Hs (Bs.drop j) L fuel (listed.setIfInBounds i true) ((d, r) :: env) ((d, none) :: A) H ((w', HS H) :: Bs)) ->
   wpOp P ops (NQ (QK P Q ks)) i (fun a' w' => (i ∉ L -> VI (Bs.drop j) Hs w -> VI (Bs.drop j) Hs w') /\ jG P .any ops (NQ (QK P Q ks)) (VI (Bs.drop j) Hs) L fuel (listed.setIfInBounds i true) a' w') a w := by
  intro i d f xs ts vs ty ps aft g Φ hf hi hb hg hv hc h
  have hm : Does P ⟨some d, .call ⟨.value (.func f), xs, ts⟩, ty, ps, aft, g⟩ env w (fun r w' => Φ r w w' /\ Ext w w') := .inr ⟨f, _, F.call hf (yk hv), hc w hI⟩
  have hgo : ∀ r w', Φ r w w' /\ Ext w w' -> VI (Bs.drop j) Hs w' /\ WD P n ops (QK P Q ks) (VI (Bs.drop j) Hs) L fuel (listed.setIfInBounds i true) ((d, r) :: env) w' := by
   rintro r w' ⟨hP, hk⟩
   exact ⟨((hI.ext hk).drop j).pick hH hu, h r w w' hI hk hP (fun q ⟨x, hx, hq⟩ => hI.low x hx q hq) hH hA.none w' (hI.ext hk).here⟩
  unfold wpOp
  simp only [hi]
  rw [zno (xq hg a ha)]
  refine .inl ?_
  unfold Oper.wp
  rcases hm with ⟨v, w', hrun, hR⟩ | ⟨f, args, hm, hc⟩
  ·
   rw [hrun n a ha, Oper.upon_value]
   exact ⟨fun _ _ => (hgo v w' hR).1, (hgo v w' hR).2 _ (ha.put hb)⟩
  ·
   rw [hm n a ha, Oper.upon_enter]
   refine hc.mono ?_
   rintro e w' ⟨v, rfl, hR⟩
   exact ⟨fun _ _ => (hgo v w' hR).1, (hgo v w' hR).2 _ (ha.put hb)⟩
 have hk : k = i \/ k = i2 := by simpa using hk
 rcases hk with rfl | rfl
 . exact key hf hi1 b1 g1 v1 hc h
 . exact key hf2 hi2 b2 g2' v2 hc2 h2
theorem V.pin {n : Nat} {Q : Exit -> Act -> World -> Prop} {pos : Pos} (k : Nat) {e : HE} {p : World -> Prop} (hn : (zi H k, xV H k) = (some e, none)) (hl : (HE.dat e.S p).loc) (hp : ∀ w, VI Bs H w -> p w)
  (h : ∀ w, p w -> (∀ b, HS (hset H k (.dat e.S p)) b -> ¬ e.S b) -> V P n Q ks pos env A (hset H k (.dat e.S p)) ((w, HS (hset H k (.dat e.S p))) :: Bs)) : V P n Q ks pos env A H Bs := by
 simp only [Prod.mk.injEq] at hn
 intro hA w hI
 have he : (HE.dat e.S p).holds w := ⟨hp w hI, fun q hq => hI.low _ (zf hn.1) q hq⟩
 have hF := hI.freeze hn.1 he hl (fun q h => h) (fun b hb => hb)
 have hg : zi (hset H k (.dat e.S p)) k = some (.dat e.S p) := by rw [qm hn.1, Nat.beq_refl]; rfl
 exact h w (hp w hI) (fun b hb hs => hF.offF k hg b hs hb) (hA.res hn.1 hn.2) w hF.here
end
end Go.GL
namespace Go.Proofs.YtaenledoagbddaaGreatDoor
open Go.GL
abbrev Cl1 := { v : Value // v.oneCell' = true }
def RC1 : Rel Cl1 := fun _ _ x cs => cs = [x.1]
theorem zji : zF RC1 := fun _ _ _ _ _ _ _ _ h => h
instance : StC RC1 := ⟨zji⟩
theorem zo6 {D : Nat -> Prop} {w : World} {v : Value} {l : Mx} (h : SlR 1 (RSl 1 zt) D w v l) : ∃ hs : List Cl1, hs.length = l.length /\ SlR 1 RC1 D w v hs /\ ∀ (i : Nat) x, l[i]? = some x -> ∃ u, hs[i]? = some u /\ SlR 1 zt D w u.1 x := by
 obtain ⟨ao, cap, rfl, h2, h3, h4⟩ := h
 have main : ∀ k, k <= l.length -> ∃ hs : List Cl1, hs.length = k /\ ∀ (i : Nat) u, hs[i]? = some u -> ∃ x b o, l[i]? = some x /\ ao = some ⟨b, o, none⟩ /\ D b /\ Cells w b (o + i * 1) [u.1] /\ SlR 1 zt D w u.1 x := by
  intro k
  induction k with
  | zero => exact fun _ => ⟨[], rfl, fun i u h => by simp at h⟩
  | succ k ih =>
   intro hk
   obtain ⟨hs, g1, g2⟩ := ih (by omega)
   obtain ⟨b, o, cs, e1, e2, e3, e4, v, rfl, e5⟩ := h4 k _ (znd (show k < l.length by omega))
   refine ⟨hs ++ [⟨v, e5.one⟩], by simp [g1], fun i u hu => ?_⟩
   by_cases hi : i < hs.length
   ·
    rw [znD hi] at hu
    exact g2 i u hu
   ·
    rw [znE (by omega)] at hu
    have hik : i = k := by
     have := (znr.1 hu).1
     simp at this; omega
    subst hik
    rw [g1, Nat.sub_self] at hu
    obtain rfl : ⟨v, e5.one⟩ = u := by simpa using hu
    exact ⟨_, b, o, znd (show i < l.length by omega), e1, e2, e4, e5⟩
 obtain ⟨hs, g1, g2⟩ := main l.length (znC _)
 refine ⟨hs, g1, ⟨ao, cap, by rw [g1], by rw [g1]; exact h2, h3, fun i u hu => ?_⟩, fun i x hx => ?_⟩
 ·
  obtain ⟨x, b, o, e1, e2, e3, e4, e5⟩ := g2 i u hu
  exact ⟨b, o, [u.1], e2, e3, rfl, e4, rfl⟩
 ·
  have hi := (znr.1 hx).1
  obtain ⟨x', b, o, e1, e2, e3, e4, e5⟩ := g2 i _ (znd (show i < hs.length by omega))
  rw [hx] at e1
  cases e1
  exact ⟨_, znd (show i < hs.length by omega), e5⟩
theorem znY (l : List Cl1) (hlen : l.length <= 1048576) (v : Value) (D : Nat -> Prop) (W : World) (hl : SlR 1 RC1 D W v l) : Calls Tryz.prog 23 #[v] W (Ret fun r w' => (w'.ownsRow 0 27 1 r l.length (l.map Subtype.val) /\ ∀ q, r.ownBlock = some q -> W.heap.size <= q) /\ Ext W w') := by
 obtain ⟨ao, co, rfl⟩ := hl.form
 refine zlt Tryz.func23 O Tryz.ntmps23 O (zlE ?_)
 refine Vs 9 O ?_
 refine zll O (fun w hI => zkI tu34 O) ?_
 cases ao
 ·
  obtain rfl := zgn hl
  refine Vs 2 O ?_
  refine V.bool O (fun h => ?_) (fun h => ?_)
  ·
   refine Vs 7 O ?_
   refine zjH Tryz.results23 O (fun w hI => ⟨_, rfl, ⟨kr _ _ _, (fun q hq => by cases hq)⟩, hI.k0⟩)
  . cases h
 ·
  refine Vs 2 O ?_
  refine V.bool O (fun h => ?_) (fun h => ?_)
  . cases h
  ·
   refine Vs 4 O ?_
   refine V.bs0 5 tR34 ts27 O (fun b5 => ?_)
   refine Vs 1 O ?_
   refine zm8 5 (fun x : Cl1 => [x.1]) (fun _ => rfl) (fun x u hu => (znv.1 hu) ▸ x.2) (fun _ _ _ _ h => h) tu34 Tryz.el27 O (by decide) O (fun w hI => ⟨_, Tr1 hI.k0 hl⟩) (by omega) (by omega) (fun u5 => ?_)
   refine zm2 5 O (e' := .row 27 1 u5 l.length (l.map Subtype.val)) (by rw [Nat.zero_add, List.nil_append, <- List.map_eq_flatMap]) ?_
   refine Vs 4 O ?_
   refine zjH Tryz.results23 O (fun w hI => ⟨_, rfl, ⟨hI.at 5 rfl, fun b hb => hI.own 5 0 O O b hb⟩, hI.k0⟩)
theorem znZ {H : Hp} {l : List Cl1} (k : Nat) (hlen : l.length <= 1048576) {v : Value} {D : Nat -> Prop} {w : World} (hl : SlR 1 RC1 D w v l) : Calls Tryz.prog 23 #[v] w (Ret fun r w' => ∃ y : Option Addr × Nat, r = .slice y.1 l.length y.2 /\ Hands H [] [(k, .row 27 1 (.slice y.1 l.length y.2) l.length (l.map Subtype.val))] w w') := by
 refine (znY l hlen v D w hl).mono ?_
 rintro _ w' ⟨r, rfl, ⟨h1, h2⟩, hk⟩
 obtain ⟨ao, co, rfl⟩ := qJ h1
 refine ⟨_, rfl, (ao, co), rfl, hk.mono fun q _ h => h.elim, fun x hx => ?_, List.pairwise_singleton _ _⟩
 rw [znv] at hx
 subst hx
 exact ⟨h1, trivial, fun _ h => h, fun q hq => ⟨.inr (h2 q hq), xl h1 hq⟩⟩
def nmA (f : Int) (i : Nat) (l : List Int) : List Int := if i = 0 then l else l.map (f * ·)
def nmB (f : Int) (i : Nat) (l : List Int) : List Int := if i = 0 then l.map ((f - 1) * ·) else []
def nmO (f : Int) (M : Mx) (i : Nat) : Mx := zjg f (M.take i)
theorem zo7 {f : Int} {M : Mx} {i : Nat} {col : List Int} (h : M[i]? = some col) : nmO f M (i + 1) = if i = 0 then [nmA f 0 col, nmB f 0 col] else nmO f M i ++ [nmA f i col] := by
 unfold nmO
 rw [zh h]
 cases i with
 | zero => simp [zjg, nmA, nmB]
 | succ i =>
  cases M with
  | nil => simp at h
  | cons d r =>
   rw [znn (by omega), List.take_succ_cons]
   simp [zjg, nmA]
theorem zo0 {f : Int} {n : Nat} : ∀ {M : Mx}, (∀ col ∈ M, col.length = n) -> ∀ col ∈ zjg f M, col.length = n
 | [], _, col, h => by cases h
 | d :: r, hM, col, h => by
  rcases znt.1 h with rfl | h
  . exact hM _ (znh ..)
  rcases znt.1 h with rfl | h
  . rw [znx]; exact hM _ (znh ..)
  obtain ⟨c, hc, rfl⟩ := List.mem_map.1 h
  rw [znx]; exact hM c (zng _ hc)
theorem znP (f : Int) : ∀ M : Mx, (zjg f M).length <= M.length + 1
 | [] => by simp [zjg]
 | d :: r => by simp [zjg]
theorem znL (c : Mx) (tn f : Int) (v : Value) (D : Nat -> Prop) (W : World) (hc : SlR 1 (RSl 1 zt) D W v c) (ht : Tab W) :
  Calls Tryz.prog 5 #[.agg #[v], .int .i64 tn, .int .i64 f] W (Ret fun r w' => r = .bool true /\ Ext W w') := by
 obtain ⟨ac, cc, rfl⟩ := hc.form
 refine zlv Tryz.func5 O Tryz.ntmps5 O (zlE ?_)
 refine Vs 2 O ?_
 refine V.box 3 O O (fun b3 => ?_)
 refine Vs 6 O ?_
 refine zlT Tryz.call12 O (fun w hI => zdZ w (Tr1 hI.k0 ht)) ?_
 refine zll O (fun w hI => zkO O (by first | exact zb | rfl)) ?_
 refine Vs 2 O ?_
 refine V.bool O (fun k0 => ?_) (fun k0 => ?_)
 . cases k0
 ·
  refine Vs 6 O ?_
  refine zlV Tryz.call16 O (fun w hI => znQ c 8 _ D w (Tr1 hI.k0 hc)) ?_
  rintro rr w1 w2 hI1 hk12 ⟨q, rfl, hq⟩ hlow
  refine zll O (fun w hI => zkO O (by first | exact zb | rfl)) ?_
  refine Vs 1 O ?_
  refine V.sb 22 O (fun q1 => ?_) (fun q1 => ?_)
  ·
   refine Vs 27 O ?_
   refine zjH Tryz.results5 O (fun w hI => ⟨_, rfl, rfl, hI.k1⟩)
  ·
   have hsm := hq (by simpa using q1)
   refine Vs 1 O ?_
   refine zlT Tryz.call20 O (fun w hI => zjh c _ D w (Tr1 hI.k1 hc)) ?_
   refine zll O (fun w hI => zkO O (by first | exact zb | rfl)) ?_
   refine Vs 2 O ?_
   refine zlh 27 O (fun q2 => ?_) (fun q2 => ?_)
   ·
    refine Vs 22 O ?_
    refine zjH Tryz.results5 O (fun w hI => ⟨_, rfl, rfl, hI.k1⟩)
   ·
    have hv := znm.1 q2
    refine Vs 1 O ?_
    refine zlT Tryz.call21 O (fun w hI => zjj c _ D w (Tr1 hI.k1 hc)) ?_
    refine Vs 3 O ?_
    refine zlh 32 O (fun q3 => ?_) (fun q3 => ?_)
    ·
     refine Vs 17 O ?_
     refine zjH Tryz.results5 O (fun w hI => ⟨_, rfl, rfl, hI.k1⟩)
    ·
     refine Vs 4 O ?_
     refine zlh 36 O (fun q4 => ?_) (fun q4 => ?_)
     ·
      refine Vs 13 O ?_
      refine zjH Tryz.results5 O (fun w hI => ⟨_, rfl, rfl, hI.k1⟩)
     ·
      refine Vs 5 O ?_
      refine zjn O (fun q5 => ?_) (fun q5 => ?_)
      ·
       refine Vs 7 O ?_
       refine zjH Tryz.results5 O (fun w hI => ⟨_, rfl, rfl, hI.k1⟩)
      ·
       have htot : zoc c = (c.headD []).sum := zno hv
       have hs1 := hv.s1
       have hsum : f * (c.headD []).sum <= 1048576 := by
        have := Int.mul_le_mul (show f <= 9 by omega) (show (c.headD []).sum <= 1000 by omega) (by omega) (by decide)
        omega
       have hcl : c.length <= 8 := by have := hsm.1; omega
       have hwl : (c.headD []).length <= 8 := by have := hsm.2 _ (kg hv.r1); omega
       have hw1 := hv.w1
       refine Vs 5 O ?_
       refine zlV Tryz.call22 O (fun w hI => znR c hv _ D w (Tr1 hI.k1 hc)) ?_
       rintro r1 w3 w4 hI3 hk34 hcols hlow1
       have hTl := qi c
       have hTc : ∀ col ∈ zN c, col.length = c.length /\ ∀ v ∈ col, 0 <= v := fun col h => zfb hv h
       have hTb : ∀ col ∈ zN c, ∀ v ∈ col, 0 <= v /\ v <= 1048576 := fun col h => zfx hv h
       obtain ⟨hs, hhl, hhs, hhc⟩ := zo6 hcols
       obtain ⟨at_, ct, rfl⟩ := hcols.form
       refine Vs 8 O ?_
       refine zll O (fun w hI => zoe O O (by omega)) ?_
       have hk1 := Int.tmod_lt_of_pos tn (show (0 : Int) < ((zN c).length : Int) by omega)
       have hk2 : -(((zN c).length : Nat) : Int) < tn.tmod ((zN c).length : Int) := by
        have h1 := Int.tmod_lt_of_pos (-tn) (show (0 : Int) < ((zN c).length : Int) by omega)
        rw [Int.neg_tmod] at h1
        omega
       refine Vs 4 O ?_
       refine zm4 (σ := Nat) [2, 3, 7] [3] [3] O (fun e k => (8, .int .i64 k) :: e) (fun e k => e) (fun k => k < (zN c).length) (fun _ => rfl) (fun _ => rfl) ?_ ?_
       ·
        refine Vs 6 O ?_
        refine zjn O (fun kn_q => ?_) (fun kn_q => ?_)
        ·
         refine Va 7 O (by omega) ?_
         refine zjD ((tn.tmod ((zN c).length : Int) + (zN c).length).toNat) (Sub.cons (by rw [Int.toNat_of_nonneg (by omega)]; rfl) (zl4 O)) (zl5 O) (by omega) 0 O O
        ·
         refine Vs 1 O ?_
         refine zjD ((tn.tmod ((zN c).length : Int)).toNat) (Sub.cons (by rw [Int.toNat_of_nonneg (by omega)]; rfl) (zl4 O)) (zl5 O) (by omega) 0 O O
       rintro k hk
       have hcap : (zN c).length <= ct := by
        obtain ⟨_, _, e1, e2, _⟩ := hcols
        cases e1
        exact e2
       have hdl : (hs.drop k).length = (zN c).length - k := by rw [List.length_drop, hhl]
       have htl : (hs.take k).length = k := by rw [znH, hhl]; omega
       have hsl58 : Value.slice (if ct = 0 then at_ else Option.map (fun x => Addr.add x (0 * 1)) at_) (k : Int).toNat ct = .slice at_ k ct := by rw [znn (show ct ≠ 0 by omega)]; cases at_ <;> simp [Addr.add]
       refine Vs 2 O ?_
       refine Vw [3] [] O ?_
       refine Vd [0, 1, 4, 5] 0 (by kernel_rfl) O O O ?_
       refine VD.pl 2 O (by kernel_rfl) O (fun w => zk8 tR34 ts27 O O (by omega)) ?_
       refine VD.pl 6 O (by kernel_rfl) O (fun w => zk9 tR34 ts27 O O (by omega)) ?_
       refine zmk 3 0 [] (Hn := fun y : Option Addr × Nat => [(930, .row 27 1 (.slice y.1 (hs.drop k).length y.2) (hs.drop k).length ((hs.drop k).map Subtype.val))]) [(3, some (3, 0))] Tryz.call23 O (by kernel_rfl) O O (fun _ => rfl) (fun _ _ => rfl) (fun _ => rfl) (fun w hI => znZ 930 (by rw [List.length_drop]; omega) ((hhs.keep zji hI.k0 (fun b hb _ hs => by have := hlow1 b hs; omega)).drop k (by omega))) ?_
       rintro _ ⟨ay, cy⟩ rfl
       refine VD.apS 7 930 0 (fun x : Cl1 => [x.1]) (fun _ => rfl) (fun x u hu => (znv.1 hu) ▸ x.2) (fun _ _ _ _ h => h) tu34 Tryz.el27 O (by decide) O (by kernel_rfl) O O (fun w hI => ⟨_, (show SlR 1 RC1 (fun b => w3.heap.size <= b) w (Value.slice (if ct = 0 then at_ else Option.map (fun x => Addr.add x (0 * 1)) at_) (k : Int).toNat ct) (hs.take k) from by rw [hsl58]; exact (hhs.keep zji hI.k0 (fun b hb _ hs => by have := hlow1 b hs; omega)).take k (by omega))⟩) (by omega) (by omega) (fun u930 => ?_)
       have hmore : ∀ (i : Nat) x, ((zN c).drop k ++ (zN c).take k)[i]? = some x -> ∃ u, (hs.drop k ++ hs.take k)[i]? = some u /\ SlR 1 zt (fun b => w3.heap.size <= b) w4 u.1 x := fun i x hx => by
        by_cases hi : i < ((zN c).drop k).length
        ·
         rw [znD hi, List.getElem?_drop] at hx
         obtain ⟨u, h1, h2⟩ := hhc _ x hx
         exact ⟨u, by rw [znD (by rw [List.length_drop] at hi ⊢; omega), List.getElem?_drop]; exact h1, h2⟩
        ·
         rw [znE (by omega)] at hx
         have hik : i - ((zN c).drop k).length < k := by
          have := (znr.1 hx).1
          rw [znH] at this
          omega
         rw [List.getElem?_take_of_lt hik] at hx
         obtain ⟨u, h1, h2⟩ := hhc _ x hx
         have he : (hs.drop k).length = ((zN c).drop k).length := by rw [List.length_drop, List.length_drop, hhl]
         exact ⟨u, by rw [znE (by omega), he, List.getElem?_take_of_lt hik]; exact h1, h2⟩
       have hMsub : ∀ col ∈ (zN c).drop k ++ (zN c).take k, col ∈ zN c := fun col h => (znw.1 h).elim List.mem_of_mem_drop List.mem_of_mem_take
       have hMl : ((zN c).drop k ++ (zN c).take k).length = (zN c).length := by rw [znl, List.length_drop, znH]; omega
       have hHl : (hs.drop k ++ hs.take k).length = (zN c).length := by rw [znl, List.length_drop, znH]; omega
       have hlaw : zgL (jD c.length (zjg f ((zN c).drop k ++ (zN c).take k))) = zgL c := by
        have hd := List.getElem_cons_drop hk
        have hT : zN c = (zN c).take k ++ (zN c)[k] :: (zN c).drop (k + 1) := by rw [hd, List.take_append_drop]
        have := zo5 hv hT (f := f) (by omega) hsum (by omega)
        rw [<- hd]
        exact this
       generalize hMe : (zN c).drop k ++ (zN c).take k = Mo at *
       generalize hHe : hs.drop k ++ hs.take k = Hs at *
       refine Vd [8] 0 (by kernel_rfl) O O O ?_
       refine zkr (by kernel_rfl) ?_
       refine Vs 2 O ?_
       refine zm2 930 O (e' := .row 27 1 u930 Hs.length (Hs.map Subtype.val)) (by rw [<- hHe, znl, List.map_append, <- List.map_eq_flatMap]) ?_
       refine zlF (fun w hI => qJ (show w.ownsRow 0 27 1 u930 _ _ from hI.at 930 O)) ?_
       rintro ⟨aM, cM, rfl⟩
       refine Vs 1 O ?_
       refine V.bs0 60 tR34 ts27 O (fun b60 => ?_)
       refine Vs 11 O ?_
       refine V.pin 930 O (p := fun w => SlR 1 RC1 (fun q => (Value.slice aM Hs.length cM).ownBlock = some q) w (.slice aM Hs.length cM) Hs) (fun w w' T h hk hT => h.keep zji hk fun b hb _ => hT b hb) (fun w hI => zkx Subtype.val (fun _ _ => rfl) (hI.at 930 O) (fun g hg => hg)) (fun wp hpin hap => ?_)
       refine zmc 60 (e' := OwP 27 1 (RSl 1 zt) (fun _ => False) (.slice (some ⟨b60, 0, none⟩) 0 0) []) O (fun w hI => ⟨⟨[], hI.at 60 rfl, fun i x h => by simp at h⟩, fun _ h => h.elim⟩) OwP.loc (fun _ h => h) (fun q hq => hq.elim id False.elim) ?_
       refine Vs 1 O ?_
       refine zm3 (σ := Nat × Value × (Nat -> Prop)) [2, 3, 61, 62] [3, 930] [3] O (fun e ⟨i, u, F⟩ => (63, .int .i64 i) :: (10, u) :: e) (fun e ⟨i, u, F⟩ => (60, OwP 27 1 (RSl 1 zt) F u (nmO f Mo i)) :: e) (fun ⟨i, u, F⟩ => i <= Mo.length) (fun ⟨i, u, F⟩ => Mo.length - i) ((0, .slice (some ⟨b60, 0, none⟩) 0 0, fun _ => False)) (zl4 O) (zl5 O) (fun _ => rfl) (fun _ => rfl) (fun _ => rfl) (zns _) ?_
       rintro ⟨i, u, F⟩ hi
       show V _ _ _ _ _ ((63, .int .i64 i) :: (10, u) :: _) _ ((60, OwP 27 1 (RSl 1 zt) F u (nmO f Mo i)) :: _) _
       refine Vs 6 O ?_
       refine zjn O (fun li => ?_) (fun li => ?_)
       ·
        obtain ⟨col, hcol⟩ : ∃ col, Mo[i]? = some col := ⟨_, znd (by omega)⟩
        obtain ⟨uh, huh, hcd⟩ := hmore i col hcol
        have hcm := hMsub col (zne hcol)
        have hcb := hTb col hcm
        have hcl2 := (hTc col hcm).1
        have hnx := zo7 (f := f) hcol
        have hno : (nmO f Mo i).length <= i + 1 := by unfold nmO; have := znP f (Mo.take i); rw [znH] at this; omega
        have hno2 : (nmO f Mo i ++ [col]).length = (nmO f Mo i).length + 1 := by simp
        obtain ⟨uv, huv⟩ := uh
        obtain ⟨ax, cx, hxf⟩ := hcd.form
        dsimp only at hxf
        subst hxf
        dsimp only at hcd
        refine Vs 7 O ?_
        obtain ⟨uz, he_uz, hm_uz⟩ := gE_ Hs (i) (by omega)
        obtain ⟨b_uz, o_uz, c_uz, ha_uz, hd_uz, hc_uz, hR_uz⟩ := hpin.atD he_uz
        obtain rfl := hR_uz
        refine zm1 1000 0 O O (fun h_ => by have h1_ := hap _ h_; have h2_ := hd_uz; first | omega | exact h1_ h2_) hc_uz ?_
        refine V.ix 1000 tR34 ts27 O ha_uz (by omega) (_) (rfl) O ?_
        obtain rfl : (⟨.slice ax col.length cx, huv⟩ : Cl1) = uz := by rw [huh] at he_uz; exact Option.some.inj he_uz
        refine Vs 6 O ?_
        refine zjE (p := i = 0) (fun hi0 => ?_) (fun hi0 => ?_)
        ·
         subst hi0
         rw [zno rfl] at hnx
         refine Vs 1 O ?_
         refine V.bs0 68 tR27 ts3 O (fun b68 => ?_)
         refine V.bs0 69 tR27 ts3 O (fun b69 => ?_)
         refine Vs 13 O ?_
         refine zm3 (σ := Nat × Value × Value) [2, 3, 10, 11, 61, 62, 63, 70, 71] [3, 60, 930] [3] O (fun e ⟨z, ua, ub⟩ => (72, .int .i64 z) :: (13, ua) :: (14, ub) :: e) (fun e ⟨z, ua, ub⟩ => (68, .row 3 1 ua z ((col.take z).map zd)) :: (69, .row 3 1 ub z (((col.take z).map ((f - 1) * ·)).map zd)) :: e) (fun ⟨z, ua, ub⟩ => z <= col.length) (fun ⟨z, ua, ub⟩ => col.length - z) ((0, _, _)) (zl4 O) (zl5 O) (fun _ => rfl) (fun _ => rfl) (fun _ => rfl) (zns _) ?_
         rintro ⟨z, ua, ub⟩ hz
         show V _ _ _ _ _ ((72, .int .i64 z) :: (13, ua) :: (14, ub) :: _) _ ((68, .row 3 1 ua z ((col.take z).map zd)) :: (69, .row 3 1 ub z (((col.take z).map ((f - 1) * ·)).map zd)) :: _) _
         refine Vs 6 O ?_
         refine zjn O (fun lz => ?_) (fun lz => ?_)
         ·
          refine Vs 6 O ?_
          obtain ⟨x, he_x, hm_x⟩ := gE_ col (z) (by omega)
          obtain ⟨b_x, o_x, c_x, ha_x, hd_x, hc_x, hR_x⟩ := hcd.atD he_x
          obtain rfl := hR_x
          refine zm1 2000 1 O O (fun h_ => by have h1_ := hlow1 _ h_; have h2_ := hd_x; first | omega | exact h1_ h2_) hc_x ?_
          refine V.ix 2000 tR27 ts3 O ha_x (by omega) (_) (rfl) O ?_
          have hxb := hcb x hm_x
          have hxm : 0 <= x * (f - 1) /\ x * (f - 1) <= 1048576 * 8 := ⟨znI (by omega) (by omega), Int.mul_le_mul (by omega) (by omega) (by omega) (by decide)⟩
          refine Vs 10 O ?_
          refine zjn O (fun e => ?_) (fun e => ?_)
          ·
           refine Vs 3 O ?_
           refine zm6 80 [(0, _)] tR27 ts3 tz3 (by decide) O O (by kernel_rfl) (fun b80 => ?_)
           refine zlN 68 80 tu27 Tryz.el3 O (by decide) O O (by omega) (by omega) (fun u68 => ?_)
           refine Va 5 O (by omega) ?_
           refine zm6 87 [(0, _)] tR27 ts3 tz3 (by decide) O O (by kernel_rfl) (fun b87 => ?_)
           refine zlN 69 87 tu27 Tryz.el3 O (by decide) O O (by omega) (by omega) (fun u69 => ?_)
           refine Va 9 O (by omega) ?_
           refine zm2 68 O (e' := .row 3 1 u68 (z + 1) ((col.take (z + 1)).map zd)) (by rw [zh he_x, List.map_append]; rfl) ?_
           refine zm2 69 O (e' := .row 3 1 u69 (z + 1) (((col.take (z + 1)).map ((f - 1) * ·)).map zd)) (by rw [zh he_x, List.map_append, List.map_append, Int.mul_comm x]; rfl) ?_
           refine zjy (⟨z + 1, u68, u69⟩) (zl4 O) (zl5 O) (by omega) (by first | omega | (dsimp only; omega)) 0 O O
          . exact absurd O e
         ·
          obtain rfl : z = col.length := by omega
          refine zm2 68 O (e' := .row 3 1 ua (col).length ((col).map zd)) (by rw [zni]) ?_
          refine zm2 69 O (e' := .row 3 1 ub (col.map ((f - 1) * ·)).length ((col.map ((f - 1) * ·)).map zd)) (by rw [zni, znx]) ?_
          refine zlF (fun w hI => qJ (show w.ownsRow 0 3 1 ua _ _ from hI.at 68 O)) ?_
          rintro ⟨ab68, cb68, rfl⟩
          refine zmc 68 (e' := DaP (RSl 1 zt) (fun q => (Value.slice ab68 (col).length cb68).ownBlock = some q) (col) [.slice ab68 (col).length cb68]) O (fun w hI => ⟨_, rfl, zkx zd (fun _ _ => rfl) (hI.at 68 O) (fun g hg => hg)⟩) DaP.loc (fun _ h => h) (fun q hq => hq) ?_
          refine zlF (fun w hI => qJ (show w.ownsRow 0 3 1 ub _ _ from hI.at 69 O)) ?_
          rintro ⟨ab69, cb69, rfl⟩
          refine zmc 69 (e' := DaP (RSl 1 zt) (fun q => (Value.slice ab69 (col.map ((f - 1) * ·)).length cb69).ownBlock = some q) (col.map ((f - 1) * ·)) [.slice ab69 (col.map ((f - 1) * ·)).length cb69]) O (fun w hI => ⟨_, rfl, zkx zd (fun _ _ => rfl) (hI.at 69 O) (fun g hg => hg)⟩) DaP.loc (fun _ h => h) (fun q hq => hq) ?_
          refine Vs 9 O ?_
          refine zm6 98 [(0, _)] tR34 ts27 tz27 (by decide) O O (by kernel_rfl) (fun b98 => ?_)
          refine zmt [60, 68] (Hn := fun u => [(60, OwP 27 1 (RSl 1 zt) (fun q => F q \/ (Value.slice ab68 (col).length cb68).ownBlock = some q) u (nmO f Mo 0 ++ [col]))]) (u := fun u => u) [(3, some (3, 0))] O (fun _ => rfl) (fun _ => rfl) (fun w hI => zmu 60 68 98 hI O O O O tu34 Tryz.el27 O (by decide) O O O (fun D x cs h => zgO D x cs h) (by omega) (by omega)) (fun u60 => ?_)
          refine Vs 9 O ?_
          refine zjn O (fun e => ?_) (fun e => ?_)
          ·
           refine Vs 3 O ?_
           refine zm6 104 [(0, _)] tR34 ts27 tz27 (by decide) O O (by kernel_rfl) (fun b104 => ?_)
           refine zmt [60, 69] (Hn := fun u => [(60, OwP 27 1 (RSl 1 zt) (fun q => (F q \/ (Value.slice ab68 (col).length cb68).ownBlock = some q) \/ (Value.slice ab69 (col.map ((f - 1) * ·)).length cb69).ownBlock = some q) u ((nmO f Mo 0 ++ [col]) ++ [col.map ((f - 1) * ·)]))]) (u := fun u => u) [(3, some (3, 0))] O (fun _ => rfl) (fun _ => rfl) (fun w hI => zmu 60 69 104 hI O O O O tu34 Tryz.el27 O (by decide) O O O (fun D x cs h => zgO D x cs h) (by omega) (by omega)) (fun u60 => ?_)
           refine Va 8 O (by omega) ?_
           rw [show (nmO f Mo 0 ++ [col]) ++ [col.map ((f - 1) * ·)] = nmO f Mo (0 + 1) by rw [hnx]; rfl]
           refine zjy (⟨0 + 1, u60, fun q => (F q \/ (Value.slice ab68 (col).length cb68).ownBlock = some q) \/ (Value.slice ab69 (col.map ((f - 1) * ·)).length cb69).ownBlock = some q⟩) (zl4 O) (zl5 O) (by omega) (by first | omega | (dsimp only; omega)) 0 O O
          . exact absurd O e
        ·
         rw [znn hi0] at hnx
         refine Vs 1 O ?_
         refine V.bs0 1068 tR27 ts3 O (fun b1068 => ?_)
         refine V.bs0 1069 tR27 ts3 O (fun b1069 => ?_)
         refine Vs 13 O ?_
         refine zm3 (σ := Nat × Value) [2, 3, 10, 11, 61, 62, 63, 70, 71] [3, 60, 930] [3] O (fun e ⟨z, ua⟩ => (72, .int .i64 z) :: (13, ua) :: (14, .slice (some ⟨b1069, 0, none⟩) 0 0) :: e) (fun e ⟨z, ua⟩ => (1068, .row 3 1 ua z (((col.take z).map (f * ·)).map zd)) :: e) (fun ⟨z, ua⟩ => z <= col.length) (fun ⟨z, ua⟩ => col.length - z) ((0, _)) (zl4 O) (zl5 O) (fun _ => rfl) (fun _ => rfl) (fun _ => rfl) (zns _) ?_
         rintro ⟨z, ua⟩ hz
         show V _ _ _ _ _ ((72, .int .i64 z) :: (13, ua) :: (14, .slice (some ⟨b1069, 0, none⟩) 0 0) :: _) _ ((1068, .row 3 1 ua z (((col.take z).map (f * ·)).map zd)) :: _) _
         refine Vs 6 O ?_
         refine zjn O (fun lz => ?_) (fun lz => ?_)
         ·
          refine Vs 6 O ?_
          obtain ⟨x, he_x, hm_x⟩ := gE_ col (z) (by omega)
          obtain ⟨b_x, o_x, c_x, ha_x, hd_x, hc_x, hR_x⟩ := hcd.atD he_x
          obtain rfl := hR_x
          refine zm1 3000 1 O O (fun h_ => by have h1_ := hlow1 _ h_; have h2_ := hd_x; first | omega | exact h1_ h2_) hc_x ?_
          refine V.ix 3000 tR27 ts3 O ha_x (by omega) (_) (rfl) O ?_
          have hxb := hcb x hm_x
          have hxm : 0 <= x * f /\ x * f <= 1048576 * 9 := ⟨znI (by omega) (by omega), Int.mul_le_mul (by omega) (by omega) (by omega) (by decide)⟩
          refine Vs 10 O ?_
          refine zjn O (fun e => ?_) (fun e => ?_)
          . exact absurd (by omega) hi0
          ·
           refine Va 5 O (by omega) ?_
           refine zm6 93 [(0, _)] tR27 ts3 tz3 (by decide) O O (by kernel_rfl) (fun b93 => ?_)
           refine zlN 1068 93 tu27 Tryz.el3 O (by decide) O O (by omega) (by omega) (fun u1068 => ?_)
           refine Va 8 O (by omega) ?_
           refine zm2 1068 O (e' := .row 3 1 u1068 (z + 1) (((col.take (z + 1)).map (f * ·)).map zd)) (by rw [zh he_x, List.map_append, List.map_append, Int.mul_comm x]; rfl) ?_
           refine zjy (⟨z + 1, u1068⟩) (zl4 O) (zl5 O) (by omega) (by first | omega | (dsimp only; omega)) 0 O O
         ·
          obtain rfl : z = col.length := by omega
          refine zm2 1068 O (e' := .row 3 1 ua (col.map (f * ·)).length ((col.map (f * ·)).map zd)) (by rw [zni, znx]) ?_
          refine zlF (fun w hI => qJ (show w.ownsRow 0 3 1 ua _ _ from hI.at 1068 O)) ?_
          rintro ⟨ab1068, cb1068, rfl⟩
          refine zmc 1068 (e' := DaP (RSl 1 zt) (fun q => (Value.slice ab1068 (col.map (f * ·)).length cb1068).ownBlock = some q) (col.map (f * ·)) [.slice ab1068 (col.map (f * ·)).length cb1068]) O (fun w hI => ⟨_, rfl, zkx zd (fun _ _ => rfl) (hI.at 1068 O) (fun g hg => hg)⟩) DaP.loc (fun _ h => h) (fun q hq => hq) ?_
          refine Vs 9 O ?_
          refine zm6 1098 [(0, _)] tR34 ts27 tz27 (by decide) O O (by kernel_rfl) (fun b1098 => ?_)
          refine zmt [60, 1068] (Hn := fun u => [(60, OwP 27 1 (RSl 1 zt) (fun q => F q \/ (Value.slice ab1068 (col.map (f * ·)).length cb1068).ownBlock = some q) u (nmO f Mo i ++ [col.map (f * ·)]))]) (u := fun u => u) [(3, some (3, 0))] O (fun _ => rfl) (fun _ => rfl) (fun w hI => zmu 60 1068 1098 hI O O O O tu34 Tryz.el27 O (by decide) O O O (fun D x cs h => zgO D x cs h) (by omega) (by omega)) (fun u60 => ?_)
          refine Vs 9 O ?_
          refine zjn O (fun e => ?_) (fun e => ?_)
          . exact absurd (by omega) hi0
          ·
           refine Va 7 O (by omega) ?_
           rw [show nmO f Mo i ++ [col.map (f * ·)] = nmO f Mo (i + 1) by rw [hnx]; unfold nmA; rw [znn hi0]]
           refine zjy (⟨i + 1, u60, fun q => F q \/ (Value.slice ab1068 (col.map (f * ·)).length cb1068).ownBlock = some q⟩) (zl4 O) (zl5 O) (by omega) (by first | omega | (dsimp only; omega)) 0 O O
       ·
        obtain rfl : i = Mo.length := by omega
        have hMO : nmO f Mo Mo.length = zjg f Mo := by unfold nmO; rw [zni]
        rw [hMO]
        have hNc : ∀ col ∈ zjg f Mo, col.length = c.length := zo0 fun col h => (hTc col (hMsub col h)).1
        have hNl : (zjg f Mo).length <= Mo.length + 1 := znP f Mo
        refine zlF (p := ∃ ao c, u = .slice ao (zjg f Mo).length c) (fun w hI => zds (hI.at 60 O)) (fun hu => ?_)
        obtain ⟨an, cn, rfl⟩ := hu
        refine Vs 6 O ?_
        refine Vw [3] [] O ?_
        refine Vd [0, 1, 2, 3, 6] 0 (by kernel_rfl) O O O ?_
        refine VD.call2 4 0 Tryz.call24 O (by kernel_rfl) O O (fun w hI => znM c.length (zjg f Mo) hNc (by omega) (by omega) _ (fun _ => True) w ((show OwH _ _ _ _ _ _ _ from hI.at 60 O).sl (by omega) (fun _ _ => trivial))) ?_
        rintro r5 w5 w6 hI5 hk56 ⟨u5, rfl, h5⟩ hlow5
        refine VD.call2 5 1 Tryz.call17 O (by kernel_rfl) O O (fun w hI => zdr (jD c.length (zjg f Mo)) _ _ w (h5.keep (yD za) hI.k0 (fun b hb _ hs => by have := hlow5 b hs; omega)) (Tr1 hI.k4 ht)) ?_
        rintro r6 w7 w8 hI7 hk78 ⟨u6, rfl, h6⟩ hlow6
        rw [hlaw] at h6
        refine VD.call2 7 2 Tryz.call17 O (by kernel_rfl) O O (fun w hI => zdr c _ D w (Tr1 hI.k5 hc) (Tr1 hI.k5 ht)) ?_
        rintro r7 w9 wa hI9 hk9a ⟨u7, rfl, h7⟩ hlow7
        refine zlU 8 3 Tryz.call18 O (by kernel_rfl) O O (fun w hI => jF (zgL c) (zgL c) _ _ _ _ w (h6.keep (yD za) hI.k1 (fun b hb _ hs => by have := hlow6 b hs; omega)) (h7.keep (yD za) hI.k0 (fun b hb _ hs => by have := hlow7 b hs; omega))) ?_
        refine Vd [9] 3 (by kernel_rfl) O O O ?_
        refine zkr (by kernel_rfl) ?_
        refine Vs 2 O ?_
        refine zjH Tryz.results5 O (fun w hI => ⟨_, rfl, by rw [znp rfl], hI.k6⟩)
end Go.Proofs.YtaenledoagbddaaGreatDoor
