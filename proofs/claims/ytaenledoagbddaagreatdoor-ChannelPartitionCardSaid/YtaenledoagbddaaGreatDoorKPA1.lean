/-
  Contracts and the mathematics that the proof needs. Nothing here is a claim.
-/
import Derived.Test.YtaenledoagbddaaGreatDoorKU5
import Derived.WalkKit
import Derived.Deep.Quiet
import Derived.Deep.LoopGhost
import Derived.Below
import Derived.OrdersHeld
import Derived.KernelRfl
import Derived.WalkSpells
import Derived.ChangeKeysEq
import Derived.Lib.SliceRun
import Derived.Test.YtaenledoagbddaaGreatDoorRows
import Derived.ProofKit
import Derived.OpenShut
import Derived.ReadAgain
import Derived.ChangeBears
import Derived.Laws.Strings
import Derived.Test.YtaenledoagbddaaGreatDoorProg
import Derived.Lib.AppendStr
import Derived.Lib.SmallJoins
import Derived.Lib.Builder
import Derived.Lib.UnsafeStr
import Derived.Laws.Externs
import Derived.Lib.ItoaNum
import Derived.Lib.ItoaMem
import Derived.Maps.RangeRun
import Derived.MapKept
import Derived.Shelf.Strings.BuilderK
import Derived.Shelf.LaysM
import Derived.Shelf.Strconv.Itoa3
import Derived.Lib.ItoaLen
import Derived.Handed
import Derived.LaidLaws
import Derived.WideKeyMaps
import Derived.DeepKeys4
import Derived.Shelf.SlSortCmp.WholeK
import Derived.Ground.SlsfProg
import Derived.Shelf.SlSortCmp.NoneTotal
import Derived.Shelf.SlSortCmp.Whole1
import Derived.Test.YtaenledoagbddaaGreatDoorTie
import Derived.Test.YtaenledoagbddaaGreatDoorCards
namespace Go.GL
abbrev G.sp := @zlf
abbrev WD.sp := @zlg
abbrev V.sp := @zlh
abbrev G.sb := @zli
abbrev VD.rs := @zlS
abbrev V.call2 := @zlV
end Go.GL
namespace Go.GL
open Go.ChangeShapes Go.WideShapes Go.ChangeAt Go.RowKit
section
variable {H : Type} {enc : TypeId × Value -> H} {P : Program} {w w' W W' : World} {base : Nat} {sp : Nat -> Bool} {held : Bool}
theorem zoq {b o n : Nat} {cs : List Value} (h : w.cells? base ⟨b, o, none⟩ n = some cs) : cs.length = n /\ Cells w b o cs := by
 obtain ⟨_, h1, h2⟩ := World.cells?_some h
 refine ⟨h1, fun j v hv => ?_⟩
 have hj : j < n := by rw [<- h1]; exact (znr.1 hv).1
 have := h2 j hj
 rw [hv] at this
 rw [<- this, yO]
theorem zoH {α : Type} {R : Rel α} {t e : TypeId} {c fuel : Nat} {cs : List Value} {x : DataW H × List MemPlace} (Q : DataW H -> Prop) (ht : P.underlying t = some (.slice e)) (hc : P.cellsOf e = c) (hc0 : 0 < c) (hQ : ∀ es rs, x.1 = .slice es rs -> ∀ d ∈ es, Q d)
  (hR : ∀ (n : Nat) (cs : List Value) (y : DataW H × List MemPlace), Q y.1 -> DataW.trod enc P w base sp held n e cs = some y -> ∃ z, R (fun _ => True) w z cs) (h : DataW.trod enc P w base sp held fuel t cs = some x) : ∃ v l, cs = [v] /\ SlR c R (fun _ => True) w v l /\ (l = [] \/ ∃ es rs, x.1 = .slice es rs /\ es.length = l.length) := by
 rcases DataW.trod_slice ht h with ⟨rfl, _⟩ | ⟨a, len, cap, elems, rest, n, _, rfl, rfl, _, hlc, hcm, hel, hat, _⟩
 . exact ⟨_, [], rfl, SlR.nil, .inl rfl⟩
 ·
  rw [hc] at hat
  have zi : ∀ i : Nat, i < len -> ∃ z cs', w.cells? base (a.add (i * c)) c = some cs' /\ R (fun _ => True) w z cs' := by
   intro i hi
   have h1 := hat i hi
   obtain ⟨y, hy⟩ : ∃ y, elems[i]? = some y := ⟨_, znd (by omega)⟩
   rw [hy, Option.bind_eq_some_iff] at h1
   obtain ⟨cs', h2, h3⟩ := h1
   obtain ⟨z, hz⟩ := hR n cs' y (hQ _ _ rfl _ (List.mem_map.2 ⟨y, zne hy, rfl⟩)) h3
   exact ⟨z, cs', h2, hz⟩
  have hlist : ∀ k, k <= len -> ∃ l : List α, l.length = k /\ ∀ (i : Nat) z, l[i]? = some z -> ∃ cs', w.cells? base (a.add (i * c)) c = some cs' /\ R (fun _ => True) w z cs' := by
   intro k
   induction k with
   | zero => intro _; exact ⟨[], rfl, fun i z h => by simp at h⟩
   | succ k ih =>
    intro hk
    obtain ⟨l, h1, h2⟩ := ih (by omega)
    obtain ⟨z, cs', h3, h4⟩ := zi k (by omega)
    refine ⟨l ++ [z], by simp [h1], fun i y hy => ?_⟩
    by_cases e : i < l.length
    . rw [znD e] at hy; exact h2 i y hy
    ·
     rw [znE (by omega)] at hy
     have hi : i = k := by
      have := (znr.1 hy).1
      simp at this; omega
     subst hi
     rw [h1, Nat.sub_self] at hy
     simp at hy
     subst hy
     exact ⟨cs', h3, h4⟩
  obtain ⟨l, hl, hle⟩ := hlist len (znC _)
  subst hl
  refine ⟨_, l, rfl, ⟨some a, cap, rfl, hlc, by simpa [maxLen] using hcm, fun i z hz => ?_⟩, .inr ⟨_, _, rfl, by simp [hel]⟩⟩
  obtain ⟨cs', h3, h4⟩ := hle i z hz
  obtain ⟨_, h5, h6⟩ := World.cells?_some h3
  have hspot : a.spot = none := by
   have hi : 0 < l.length := by have := (znr.1 hz).1; omega
   obtain ⟨_, cs0, h7, _⟩ := zi 0 hi
   obtain ⟨_, h8, h9⟩ := World.cells?_some h7
   have h10 := h9 0 hc0
   obtain ⟨u, hu⟩ : ∃ u, cs0[0]? = some u := ⟨_, znd (by omega)⟩
   rw [hu] at h10
   have h11 := World.cell?_spot h10
   simpa [Addr.add] using h11
  obtain ⟨b, o, s⟩ := a
  simp at hspot
  subst hspot
  exact ⟨b, o, cs', rfl, trivial, h5, (zoq (by rw [yO] at h3; exact h3)).2, h4⟩
theorem zod {α : Type} {R : Rel α} {t e : TypeId} {c fuel : Nat} {cs : List Value} {x : DataW H × List MemPlace} (ht : P.underlying t = some (.slice e)) (hc : P.cellsOf e = c) (hc0 : 0 < c)
  (hR : ∀ (n : Nat) (cs : List Value) (y : DataW H × List MemPlace), DataW.trod enc P w base sp held n e cs = some y -> ∃ z, R (fun _ => True) w z cs) (h : DataW.trod enc P w base sp held fuel t cs = some x) : ∃ v l, cs = [v] /\ SlR c R (fun _ => True) w v l := by
 obtain ⟨v, l, h1, h2, _⟩ := zoH (fun _ => True) ht hc hc0 (fun _ _ _ _ _ => trivial) (fun n cs y _ => hR n cs y) h
 exact ⟨v, l, h1, h2⟩
theorem zoe {e : TypeId} {n : Nat} {cs : List Value} {y : DataW H × List MemPlace} (he : P.underlying e = some (.int .i64)) (h : DataW.trod enc P w base sp held n e cs = some y) : ∃ z, zt (fun _ => True) w z cs := by
 obtain ⟨z, h1, _⟩ := DataW.trod_int he h
 exact ⟨z, h1⟩
end
end Go.GL
namespace Go.Proofs.YtaenledoagbddaaGreatDoor
open Go.GL Go.ChangeShapes Go.WideShapes Go.ChangeAt Go.RowKit
set_option maxRecDepth 100000 in
theorem zof {H : Type} {enc : TypeId × Value -> H} {W : World} {r : Reach} {b0 base : Nat} {sp : Nat -> Bool} {held : Bool} {v : Value} {d : DataW H} {ps : List MemPlace} (hval : Value.okWide Tryz.prog W r b0 27 v) (hd : DataW.Trod enc Tryz.prog W base sp held 27 v d ps) :
  ∃ l, SlR 1 zt (fun _ => True) W v l := by
 obtain ⟨a, len, cap, rfl⟩ := okWide_slice tu27 hval
 obtain ⟨k, hn⟩ := hd
 have hc3 : Tryz.prog.cellsOf 3 = 1 := by kernel_rfl
 obtain ⟨ev, es, hev, hsl⟩ := zod tu27 hc3 (by decide) (fun n cs y h => zoe tu3 h) hn
 simp [Value.cells] at hev
 subst hev
 exact ⟨es, hsl⟩
end Go.Proofs.YtaenledoagbddaaGreatDoor
namespace Go.GL
open Go.ChangeShapes Go.WideShapes Go.ChangeAt Go.RowKit
section
variable {H : Type} {enc : TypeId × Value -> H} {P : Program} {w w' W W' : World} {base : Nat} {sp : Nat -> Bool} {held : Bool}
theorem zor {fs : Array Field} {m : Nat} {cs : List Value} {xs : List (DataW H × List MemPlace)} (hx : xs.length = fs.size) (hat : ∀ (i : Nat) (f : Field), fs[i]? = some f -> DataW.trod enc P w base sp held m f.type ((cs.drop f.offset).take (P.cellsOf f.type)) = xs[i]?) (i : Nat) {f : Field} (hf : fs[i]? = some f) {c : Nat} (hc : P.cellsOf f.type = c) :
  ∃ y, DataW.trod enc P w base sp held m f.type ((cs.drop f.offset).take c) = some y := by
 have h := hat i f hf
 have hi := (Array.getElem?_eq_some_iff.1 hf).1
 rw [znd (show i < xs.length by omega), hc] at h
 exact ⟨_, h⟩
end
end Go.GL
namespace Go.Proofs.YtaenledoagbddaaGreatDoor
open Go.GL Go.ChangeShapes Go.WideShapes Go.ChangeAt Go.RowKit
section
variable {H : Type} {enc : TypeId × Value -> H} {w : World} {base : Nat} {sp : Nat -> Bool} {held : Bool}
theorem zos : Tryz.prog.cellsOf 3 = 1 := by kernel_rfl
end
end Go.Proofs.YtaenledoagbddaaGreatDoor
namespace Go.GL
theorem VI.k6 {Bs : zH} {H : Hp} {w : World} {p0 p1 p2 p3 p4 p5 p6 : World × (Nat -> Prop)} (h : VI (p0 :: p1 :: p2 :: p3 :: p4 :: p5 :: p6 :: Bs) H w) : Keep p6.2 p6.1 w := (h.base p6 (by simp)).1
theorem VI.k7 {Bs : zH} {H : Hp} {w : World} {p0 p1 p2 p3 p4 p5 p6 p7 : World × (Nat -> Prop)} (h : VI (p0 :: p1 :: p2 :: p3 :: p4 :: p5 :: p6 :: p7 :: Bs) H w) : Keep p7.2 p7.1 w := (h.base p7 (by simp)).1
theorem VI.k8 {Bs : zH} {H : Hp} {w : World} {p0 p1 p2 p3 p4 p5 p6 p7 p8 : World × (Nat -> Prop)} (h : VI (p0 :: p1 :: p2 :: p3 :: p4 :: p5 :: p6 :: p7 :: p8 :: Bs) H w) : Keep p8.2 p8.1 w := (h.base p8 (by simp)).1
end Go.GL
namespace Go.Proofs.YtaenledoagbddaaGreatDoor
open Go.GL Go.ChangeShapes Go.WideShapes Go.ChangeAt Go.RowKit
section
variable {H : Type} {enc : TypeId × Value -> H} {w : World} {base : Nat} {sp : Nat -> Bool} {held : Bool}
set_option maxRecDepth 100000 in
theorem zog (k : Nat) (cs : List Value) (x : DataW H × List MemPlace) (h : DataW.trod enc Tryz.prog w base sp held k 27 cs = some x) : ∃ t, RSl 1 zt (fun _ => True) w t cs := by
 obtain ⟨v, l, e, hs⟩ := zod tu27 zos (by decide) (fun n cs y hy => zoe tu3 hy) h
 exact ⟨l, v, e, hs⟩
set_option maxRecDepth 100000 in
theorem zoh {r : Reach} {b0 : Nat} {v : Value} {d : DataW H} {ps : List MemPlace} (hval : Value.okWide Tryz.prog w r b0 36 v) (hd : DataW.Trod enc Tryz.prog w base sp held 36 v d ps) :
  ∃ (c : List (List Int)) (u : Value), v = .agg #[u] /\ SlR 1 (RSl 1 zt) (fun _ => True) w u c := by
 unfold Value.okWide at hval
 rw [Tryz.underlying36] at hval
 obtain ⟨cs, rfl, hsz, _⟩ := hval
 obtain ⟨k, hn⟩ := hd
 obtain ⟨xs, m, hk, _, hl, hx, hat⟩ := DataW.trod_struct Tryz.underlying36 hn
 rw [show Tryz.prog.cellsOf 36 = 1 by kernel_rfl] at hl
 obtain ⟨l⟩ := cs
 match l, hl with
 | [c0], _ =>
  obtain ⟨y0, h0⟩ := zor hx hat 0 rfl (c := 1) (by kernel_rfl)
  obtain ⟨v0, l0, e0, hs0⟩ := zod tu34 (show Tryz.prog.cellsOf 27 = 1 by kernel_rfl) (by decide) (fun n cs y hy => zog n cs y hy) h0
  simp [Value.cells] at e0
  subst e0
  exact ⟨l0, _, rfl, hs0⟩
end
open Go.GL
theorem zjg (s c : List Int) (L : List (List Int)) : wtC s (c :: L) = (if zP c ≠ 0 /\ xg c = s then zP c else 0) + wtC s L := by
 unfold wtC
 rw [List.map_cons, List.sum_cons]
theorem zot {s : List Int} {L L' : List (List Int)} (h : L.Perm L') : wtC s L = wtC s L' := by
 induction h with
 | nil => rfl
 | cons x _ ih => rw [zjg, zjg, ih]
 | swap x y l => rw [zjg, zjg, zjg, zjg]; omega
 | trans _ _ h1 h2 => rw [h1, h2]
theorem zo0 {c : List Int} {m : Int} (hm : 0 < m) : zP (c.map (m * ·)) = m * zP c /\ xg (c.map (m * ·)) = xg c := by
 have h := zb9 (l := c) (show 0 <= m by omega)
 refine ⟨h, ?_⟩
 unfold xg
 rw [h, List.map_map]
 exact List.map_congr_left fun x _ => Int.mul_ediv_mul_of_pos _ _ hm
theorem zo1 {s : List Int} {m : Int} (hm : 0 < m) : ∀ L : List (List Int), wtC s (L.map fun c => c.map (m * ·)) = m * wtC s L
 | [] => by show (0 : Int) = m * 0; omega
 | c :: L => by
  rw [List.map_cons, zjg, zjg, zo1 hm L, (zo0 hm).1, (zo0 hm).2, Int.mul_add]
  congr 1
  by_cases h0 : zP c = 0
  . rw [znn (fun g => g.1 (by rw [h0, Int.mul_zero])), znn (fun g => g.1 h0), Int.mul_zero]
  ·
   have : m * zP c ≠ 0 := Int.mul_ne_zero (by omega) h0
   by_cases e : xg c = s
   . rw [zno ⟨this, e⟩, zno ⟨h0, e⟩]
   . rw [znn (fun g => e g.2), znn (fun g => e g.2), Int.mul_zero]
def zoO (c : Mx) : Int := if VMx c then (c.headD []).sum else 0
theorem zjh : ∀ {l seen : List Int}, seen.Nodup -> (zv seen l).Nodup
 | [], _, h => h
 | y :: l, seen, h => by
  rw [zv]
  refine zjh ?_
  split
  . exact h
  ·
   rename_i hn
   rw [List.nodup_append]
   exact ⟨h, List.pairwise_singleton _ _, fun a ha b hb e => hn (by rw [<- znv.1 hb, <- e]; exact ha)⟩
theorem zoi (p : List Int) : 0 <= nP p := by
 have : ∀ (p : List Int) (n : Int), 0 <= n -> 0 <= p.foldl (fun n c => max n (c + 1)) n := by
  intro p
  induction p with
  | nil => intro n h; exact h
  | cons c p ih => intro n h; exact ih _ (by show 0 <= max n (c + 1); omega)
 exact this p 0 (Int.le_refl 0)
theorem zou {n k : Nat} (h : k < n) : (zc7 n).idxOf (k : Int) = k := by
 have hn : (zc7 n).Nodup := by
  unfold zc7 List.Nodup
  rw [List.pairwise_map]
  exact List.nodup_range.imp fun h e => h (by omega)
 have hk : (zc7 n)[k]? = some (k : Int) := by simp [zc7, h]
 obtain ⟨hl, e⟩ := znr.1 hk
 have := hn.idxOf_getElem k hl
 rwa [e] at this
theorem znS (n : Nat) : zc7 (n + 1) = zc7 n ++ [(n : Int)] := by simp [zc7, List.range_succ]
theorem zjf : ∀ (k : Nat) (p : List Int), p.length = k -> ziT p -> zv [] p = zc7 (nP p).toNat
 | 0, p, hk, _ => by
  obtain rfl : p = [] := List.length_eq_zero_iff.1 hk
  rfl
 | k + 1, p, hk, h => by
  obtain ⟨q, c, rfl⟩ : ∃ q c, p = q ++ [c] := ⟨p.dropLast, p.getLast (by intro e; rw [e] at hk; simp at hk), (List.dropLast_concat_getLast _).symm⟩
  obtain ⟨h1, h2, h3⟩ := zfc.1 h
  have ih := zjf k q (by simpa using hk) h1
  have hn := zoi q
  rw [xh, ih, zhK]
  by_cases e : c = nP q
  ·
   rw [znn (by rw [mem_upTo]; omega), show (max (nP q) (c + 1)).toNat = (nP q).toNat + 1 by omega, znS]
   rw [show (((nP q).toNat : Nat) : Int) = c by omega]
  . rw [zno (by rw [mem_upTo]; omega), show max (nP q) (c + 1) = nP q by omega]
theorem zo2 {p : List Int} (h : ziT p) {c : Int} (hc : c ∈ p) : 0 <= c /\ c < nP p := by
 have h1 : c ∈ zv [] p := firsts_mem.2 (.inr hc)
 rw [zjf _ p rfl h, mem_upTo] at h1
 have := zoi p
 omega
theorem zoI {p : List Int} (h : ziT p) : yp p = p := by
 unfold yp
 conv => rhs; rw [<- List.map_id p]
 refine List.map_congr_left fun c hc => ?_
 obtain ⟨h1, h2⟩ := zo2 h hc
 rw [zjf _ p rfl h]
 have := zou (n := (nP p).toNat) (k := c.toNat) (by omega)
 rw [show ((c.toNat : Nat) : Int) = c by omega] at this
 rw [this]
 show ((c.toNat : Nat) : Int) = c
 omega
def zop (ls : List Int) (y : Int) : List Int := ls.map fun l => if l = y then 1 else 0
def zje (n : Nat) (k : Int) : List Int := (zc7 n).map fun j => if k = j then 1 else 0
def ofP (p : List Int) : Mx := p.map (zje (nP p).toNat)
theorem znY : ∀ {row : List Int}, (∀ n ∈ row, 0 <= n) -> (row.filter fun n => decide (0 < n)).length = 1 -> (row.findIdx fun n => decide (0 < n)) < row.length /\ ∀ y, y < row.length -> row[y]?.getD 0 = if (row.findIdx fun n => decide (0 < n)) = y then row.sum else 0
 | [], _, h => by simp at h
 | n :: row, hn, h => by
  have h0 := hn n (znh ..)
  have hr : ∀ x ∈ row, 0 <= x := fun x hx => hn x (zng _ hx)
  by_cases hp : 0 < n
  ·
   have hz : ∀ x ∈ row, x = 0 := by
    rw [List.filter_cons_of_pos (by simpa using hp), znG] at h
    have h1 : (row.filter fun n => decide (0 < n)) = [] := List.length_eq_zero_iff.1 (by omega)
    intro x hx
    have h2 := hr x hx
    by_cases hx0 : 0 < x
    ·
     have : x ∈ row.filter fun n => decide (0 < n) := List.mem_filter.2 ⟨hx, by simpa using hx0⟩
     rw [h1] at this; cases this
    . omega
   have hs : row.sum = 0 := by
    clear h hn hr
    induction row with
    | nil => rfl
    | cons x row ih => rw [List.sum_cons, hz x (znh ..), ih fun y hy => hz y (zng _ hy)]; rfl
   rw [List.findIdx_cons, List.sum_cons, hs]
   simp only [hp, decide_true, cond_true]
   refine ⟨by simp, fun y hy => ?_⟩
   cases y with
   | zero => simp
   | succ y =>
    rw [znn (by omega), List.getElem?_cons_succ]
    cases hy' : row[y]? with
    | none => rfl
    | some v => exact hz v (zne hy')
  ·
   rw [List.filter_cons_of_neg (by simpa using hp)] at h
   obtain ⟨g1, g2⟩ := znY hr h
   rw [List.findIdx_cons]
   simp only [hp, decide_false, cond_false]
   refine ⟨by rw [znG]; omega, fun y hy => ?_⟩
   rw [List.sum_cons, show n = 0 by omega, Int.zero_add]
   cases y with
   | zero => rw [znn (by omega)]; rfl
   | succ y =>
    rw [List.getElem?_cons_succ, g2 y (by rw [znG] at hy; omega)]
    by_cases e : (row.findIdx fun n => decide (0 < n)) = y
    . rw [zno e, zno (by omega)]
    . rw [znn e, znn (by omega)]
theorem zoP {c : Mx} (hv : VMx c) (ho : zfG c) {l : Int} (hl : l ∈ zbd c) : 0 <= l /\ l < ((c.headD []).length : Int) := by
 obtain ⟨row, hr, rfl⟩ := List.mem_map.1 hl
 have h1 := (znY (hv.nn row hr) (ho row hr)).1
 have h2 := hv.wid row hr
 unfold ziz
 omega
theorem zov {c : Mx} (hv : VMx c) (ho : zfG c) : zN c = ((zc7 (c.headD []).length).map (zop (zbd c))).map fun col => col.map ((c.headD []).sum * ·) := by
 unfold zN zc7
 rw [List.map_map, List.map_map]
 refine List.map_congr_left fun y hy => ?_
 have hy := List.mem_range.1 hy
 simp only [Function.comp, zop, zbd, List.map_map, jm]
 refine List.map_congr_left fun row hr => ?_
 have h1 := (znY (hv.nn row hr) (ho row hr)).2 y (by rw [hv.wid row hr]; exact hy)
 rw [h1, hv.sm row hr]
 show _ = (c.headD []).sum * (if ziz row = (y : Int) then 1 else 0)
 by_cases e : (row.findIdx fun n => decide (0 < n)) = y
 . rw [zno e, zno (show ziz row = (y : Int) by unfold ziz; omega), Int.mul_one]
 . rw [znn e, znn (show ¬ ziz row = (y : Int) by unfold ziz; omega), Int.mul_zero]
theorem znQ {p : List Int} (hp : p ≠ []) : ((ofP p).headD []).length = (nP p).toNat := by
 cases p with
 | nil => exact absurd rfl hp
 | cons c p => simp [ofP, zje, zbc]
theorem zo3 {p : List Int} (hp : p ≠ []) : zN (ofP p) = (zc7 (nP p).toNat).map (zop p) := by
 unfold zN
 rw [znQ hp]
 conv => rhs; unfold zc7
 rw [List.map_map]
 refine List.map_congr_left fun y hy => ?_
 have hy := List.mem_range.1 hy
 unfold jm ofP
 rw [List.map_map]
 refine List.map_congr_left fun k _ => ?_
 simp only [Function.comp, zje]
 rw [znu, show (zc7 (nP p).toNat)[y]? = some (y : Int) by simp [zc7, hy]]
 rfl
theorem ind_gcd {ls : List Int} {y : Int} : (y ∈ ls -> zP (zop ls y) = 1) /\ (y ∉ ls -> zP (zop ls y) = 0) := by
 constructor
 ·
  intro h
  have h1 : (1 : Int) ∈ zop ls y := List.mem_map.2 ⟨y, h, zno rfl⟩
  exact Int.dvd_antisymm (yz _) (by omega) (ya h1) (Int.one_dvd _)
 ·
  intro h
  have h0 : (0 : Int) ∣ zP (zop ls y) := xo fun n hn => by
   obtain ⟨l, hl, rfl⟩ := List.mem_map.1 hn
   rw [znn (fun e : l = y => h (e ▸ hl))]
   exact Int.dvd_refl 0
  exact Int.zero_dvd.1 h0
theorem zo4 {α : Type} [DecidableEq α] {F : α -> List Int} {s : List Int} (Y : List α) : ∀ {U : List α}, (∀ u ∈ U, u ∉ Y -> zP (F u) = 0) -> wtC s (U.map F) = wtC s ((U.filter fun u => decide (u ∈ Y)).map F)
 | [], _ => rfl
 | u :: U, h => by
  have ih := zo4 (s := s) Y (U := U) fun v hv => h v (zng _ hv)
  rw [List.map_cons, zjg, ih]
  by_cases hu : u ∈ Y
  . rw [List.filter_cons_of_pos (by simpa using hu), List.map_cons, zjg]
  . rw [List.filter_cons_of_neg (by simpa using hu), znn (fun g => g.1 (h u (znh ..) hu)), Int.zero_add]
theorem zoJ {F : Int -> List Int} {s : List Int} {U Y : List Int} (hU : U.Nodup) (hY : Y.Nodup) (hs : ∀ y ∈ Y, y ∈ U) (h : ∀ u ∈ U, u ∉ Y -> zP (F u) = 0) : wtC s (U.map F) = wtC s (Y.map F) := by
 rw [zo4 Y h]
 refine zot (List.Perm.map F ((List.perm_ext_iff_of_nodup (hU.filter _) hY).2 fun y => ?_))
 rw [List.mem_filter, decide_eq_true_iff]
 exact ⟨fun g => g.2, fun g => ⟨hs y g, g⟩⟩
theorem zo9 (n : Nat) : (zc7 n).Nodup := by
 unfold zc7 List.Nodup
 rw [List.pairwise_map]
 exact List.nodup_range.imp fun h e => h (by omega)
theorem zo5 {s : List Int} {L : Mx} : zgq s L ↔ 0 < wtC s L := by
 constructor
 . exact zf6
 ·
  intro h
  refine Classical.byContradiction fun hn => ?_
  rw [zdi fun c hc h0 e => hn ⟨c, hc, h0, e⟩] at h
  omega
theorem zoj (l : List Int) : (zv [] l).map (zop l) = (zc7 (nP (yp l)).toNat).map (zop (yp l)) := by
 have hn := (zax _ l rfl).2
 rw [hn, znz]
 have hnd : (zv [] l).Nodup := zjh List.nodup_nil
 apply List.ext_getElem?
 intro j
 rw [znu, znu]
 by_cases hj : j < (zv [] l).length
 ·
  rw [znd hj, show (zc7 (zv [] l).length)[j]? = some (j : Int) by simp [zc7, hj]]
  simp only [Option.map_some, Option.some.injEq]
  unfold zop yp
  rw [List.map_map]
  refine List.map_congr_left fun x hx => ?_
  have hm : x ∈ zv [] l := firsts_mem.2 (.inr hx)
  have hlt := List.idxOf_lt_length_of_mem hm
  have hg : (zv [] l)[(zv [] l).idxOf x] = x := List.getElem_idxOf hlt
  simp only [Function.comp]
  by_cases e : x = (zv [] l)[j]
  ·
   have h1 := hnd.idxOf_getElem j hj
   rw [<- e] at h1
   rw [zno e, zno (by omega)]
  ·
   rw [znn e, znn (fun h => e (by
    have : (zv [] l).idxOf x = j := by omega
    rw [<- hg]; congr 1))]
 ·
  rw [znB (by omega), znB (by rw [zbc]; omega)]
  rfl
theorem zok {c : Mx} (hv : VMx c) : yp (zbd c) ≠ [] := fun e => by
 have h1 := congrArg List.length e
 rw [zdQ] at h1
 have := hv.r1
 simp [zbd] at h1
 rw [h1] at this
 simp at this
theorem zow {c out out' : Mx} (hv : VMx c) (ho : zfG c) (h : IsAbs (zN c) out) (h' : IsAbs (zN (ofP (yp (zbd c)))) out') : out' = out := by
 have hT : 0 < (c.headD []).sum := by have := hv.s1; omega
 have hw : ∀ s, wtC s (zN c) = (c.headD []).sum * wtC s (zN (ofP (yp (zbd c)))) := fun s => by
  rw [zov hv ho, zo1 hT, zo3 (zok hv), <- zoj]
  congr 1
  refine zoJ (zo9 _) (zjh List.nodup_nil) (fun y hy => ?_) (fun u _ hu => ind_gcd.2 fun g => hu (firsts_mem.2 (.inr g)))
  have hy := firsts_mem.1 hy
  have := zoP hv ho (hy.elim (fun h => by cases h) id)
  exact mem_upTo.2 (by omega)
 refine IsAbs.same h' h hT (fun s => ?_) hw
 rw [zo5, zo5, hw s]
 constructor
 . intro g; exact Int.mul_pos hT g
 . intro g; exact Int.pos_of_mul_pos_left (by rw [Int.mul_comm]; exact g) hT
theorem zji {n : Nat} {k : Int} (hk : 0 <= k /\ k < (n : Int)) : (zje n k).length = n /\ (∀ x ∈ zje n k, 0 <= x) /\ (zje n k).sum = 1 /\ ((zje n k).filter fun n => decide (0 < n)).length = 1 /\ ziz (zje n k) = k := by
 have main : ∀ n : Nat, (k < (n : Int) -> (zje n k).sum = 1 /\ ((zje n k).filter fun n => decide (0 < n)).length = 1 /\ ((zje n k).findIdx fun n => decide (0 < n) : Nat) = k.toNat) /\ ((n : Int) <= k -> (zje n k).sum = 0 /\ ((zje n k).filter fun n => decide (0 < n)) = [] /\ ((zje n k).findIdx fun n => decide (0 < n) : Nat) = n) := by
  intro n
  induction n with
  | zero => exact ⟨fun h => by omega, fun _ => ⟨rfl, rfl, rfl⟩⟩
  | succ n ih =>
   have hs : zje (n + 1) k = zje n k ++ [if k = (n : Int) then 1 else 0] := by unfold zje; rw [znS, List.map_append]; rfl
   have hl : (zje n k).length = n := by simp [zje, zbc]
   rw [hs, List.sum_append, List.filter_append, List.findIdx_append]
   by_cases h1 : k < (n : Int)
   ·
    obtain ⟨g1, g2, g3⟩ := ih.1 h1
    refine ⟨fun _ => ?_, fun h => by omega⟩
    rw [g1, g3, znn (show ¬ k = (n : Int) by omega), znl, g2, zno (by rw [hl]; omega)]
    exact ⟨rfl, rfl, rfl⟩
   ·
    obtain ⟨g1, g2, g3⟩ := ih.2 (by omega)
    rw [g1, g2, g3, hl, znn (Nat.lt_irrefl n)]
    by_cases e : k = (n : Int)
    ·
     refine ⟨fun _ => ?_, fun h => by omega⟩
     rw [zno e]
     refine ⟨rfl, rfl, ?_⟩
     show 0 + n = k.toNat
     omega
    ·
     refine ⟨fun h => by omega, fun _ => ?_⟩
     rw [znn e]
     refine ⟨rfl, rfl, ?_⟩
     show 1 + n = n + 1
     omega
 obtain ⟨h1, h2, h3⟩ := (main n).1 hk.2
 refine ⟨by simp [zje, zbc], fun x hx => ?_, h1, h2, ?_⟩
 ·
  obtain ⟨j, _, rfl⟩ := List.mem_map.1 hx
  split <;> omega
 ·
  unfold ziz
  rw [h3]
  omega
theorem znT {p : List Int} (hp : p ≠ []) (hc : ziT p) (hl : p.length <= 256) : VMx (ofP p) /\ zfG (ofP p) /\ zbd (ofP p) = p /\ ((ofP p).headD []).sum = 1 := by
 have hu : ∀ k ∈ p, 0 <= k /\ k < (((nP p).toNat : Nat) : Int) := fun k hk => by have := zo2 hc hk; omega
 have hlen := znQ hp
 have hmem := kg (c := ofP p) (by unfold ofP; rw [znx]; exact List.length_pos_iff.2 hp)
 obtain ⟨k0, hk0, he0⟩ := List.mem_map.1 hmem
 have h0 := zji (hu k0 hk0)
 rw [he0] at h0
 have hf : (zv [] p).length <= p.length := by
  have : ∀ (l seen : List Int), (zv seen l).length <= seen.length + l.length := by
   intro l
   induction l with
   | nil => intro seen; simp [zv]
   | cons x l ih =>
    intro seen
    have := ih (if x ∈ seen then seen else seen ++ [x])
    rw [zv, znG]
    split at this
    . rename_i h; rw [zno h]; omega
    . rename_i h; rw [znn h]; rw [znl, zny] at this; omega
  have := this p []
  simpa using this
 rw [zjf _ p rfl hc, zbc] at hf
 refine ⟨⟨by unfold ofP; rw [znx]; exact List.length_pos_iff.2 hp, by unfold ofP; rw [znx]; exact hl, by rw [hlen]; have := hu k0 hk0; omega, by rw [hlen]; omega, fun row hr => ?_, fun row hr => ?_, by rw [h0.2.2.1]; omega, by rw [h0.2.2.1]; omega, fun row hr => ?_⟩, fun row hr => ?_, ?_, h0.2.2.1⟩
 ·
  obtain ⟨k, hk, rfl⟩ := List.mem_map.1 hr
  rw [hlen]; exact (zji (hu k hk)).1
 ·
  obtain ⟨k, hk, rfl⟩ := List.mem_map.1 hr
  exact (zji (hu k hk)).2.1
 ·
  obtain ⟨k, hk, rfl⟩ := List.mem_map.1 hr
  rw [h0.2.2.1]; exact (zji (hu k hk)).2.2.1
 ·
  obtain ⟨k, hk, rfl⟩ := List.mem_map.1 hr
  exact (zji (hu k hk)).2.2.2.1
 ·
  unfold zbd ofP
  rw [List.map_map]
  conv => rhs; rw [<- List.map_id p]
  exact List.map_congr_left fun k hk => (zji (hu k hk)).2.2.2.2
def zoS (c : Mx) : Nat := ((zN c).filter fun col => decide (zP col ≠ 0)).length
theorem zoK {p : List Int} (hp : p ≠ []) (hc : ziT p) : (zoS (ofP p) : Int) = nP p := by
 unfold zoS
 rw [zo3 hp, List.filter_eq_self.2 fun col hcol => ?_, znx, zbc]
 . have := zoi p; omega
 ·
  obtain ⟨j, hj, rfl⟩ := List.mem_map.1 hcol
  rw [<- zjf _ p rfl hc] at hj
  rw [decide_eq_true_iff, ind_gcd.1 ((firsts_mem.1 hj).elim (fun h => by cases h) id)]
  decide
def znN : Int -> List Int -> Bool
 | _, [] => true
 | n, c :: r => if c < 0 \/ n < c then false else znN (max n (c + 1)) r
theorem znU : ∀ (r q : List Int), ziT q -> (znN (nP q) r = true ↔ ziT (q ++ r))
 | [], q, h => by rw [List.append_nil]; exact ⟨fun _ => h, fun _ => rfl⟩
 | c :: r, q, h => by
  rw [znN]
  have hs : q ++ c :: r = (q ++ [c]) ++ r := by simp
  by_cases hc : c < 0 \/ nP q < c
  ·
   rw [zno hc]
   refine ⟨fun h => (by cases h), fun h2 => ?_⟩
   have h3 := h2 q.length c (by rw [znE (by omega)]; simp)
   rw [List.take_append_of_le_length (by omega), zni] at h3
   omega
  ·
   rw [znn hc, <- zhK, hs]
   exact znU r (q ++ [c]) (zfc.2 ⟨h, by omega, by omega⟩)
theorem canB_iff {p : List Int} : znN 0 p = true ↔ ziT p := by
 have := znU p [] (fun i c h => by simp at h)
 simpa [nP] using this
theorem znK (l : List Int) (v : Value) (D : Nat -> Prop) (W : World) (hl : SlR 1 zt D W v l) (hlen : l.length <= 1000000) : Calls Tryz.prog 99 #[v] W (Ret fun r w' => r = .bool (znN 0 l) /\ Ext W w') := by
 obtain ⟨av, cv, rfl⟩ := hl.form
 refine zlt Tryz.func99 O Tryz.ntmps99 O (zlE ?_)
 refine Vs 19 O ?_
 refine zm3 (σ := Nat × Int) [6, 7] [] [] O (fun e ⟨i, t⟩ => (8, .int .i64 i) :: (3, .int .i64 t) :: e) (fun e ⟨i, t⟩ => e) (fun ⟨i, t⟩ => i <= l.length /\ 0 <= t /\ t <= i /\ znN t (l.drop i) = znN 0 l) (fun ⟨i, t⟩ => l.length - i) ((0, 0)) (zl4 O) (zl5 O) (fun _ => rfl) (fun _ => rfl) (fun _ => rfl) (⟨zns _, Int.le_refl 0, Int.le_refl 0, rfl⟩) ?_
 rintro ⟨i, t⟩ ⟨hi, h0, h1, heq⟩
 show V _ _ _ _ _ ((8, .int .i64 i) :: (3, .int .i64 t) :: _) _ (_) _
 refine Vs 6 O ?_
 refine zjn O (fun hlt => ?_) (fun hlt => ?_)
 ·
  refine Vs 6 O ?_
  obtain ⟨x, he_x, hm_x⟩ := gE_ l (i) (by omega)
  obtain ⟨b_x, o_x, c_x, ha_x, _, hc_x, hR_x⟩ := hl.at he_x
  obtain rfl := hR_x
  refine zm0 1000 0 O O hc_x ?_
  refine V.ix 1000 tR27 ts3 O ha_x (by omega) (_) (rfl) O ?_
  rw [yC he_x, znN] at heq
  refine Vs 10 O ?_
  refine zlh 14 O (fun g0 => ?_) (fun g0 => ?_)
  ·
   rw [zno (.inl g0)] at heq
   refine Vs 19 O ?_
   refine zjH Tryz.results99 O (fun w hI => ⟨_, rfl, by rw [<- heq], hI.k0⟩)
  ·
   refine Vs 6 O ?_
   refine zjn O (fun g1 => ?_) (fun g1 => ?_)
   ·
    rw [zno (.inr (by omega))] at heq
    refine Vs 12 O ?_
    refine zjH Tryz.results99 O (fun w hI => ⟨_, rfl, by rw [<- heq], hI.k0⟩)
   ·
    rw [znn (by omega)] at heq
    refine Va 15 O (by omega) ?_
    refine zjy (⟨i + 1, max t (x + 1)⟩) (zl4 O) (zl5 O) (⟨by omega, by omega, by omega, heq⟩) (by first | omega | (dsimp only; omega)) 0 O O
 ·
  obtain rfl : i = l.length := by omega
  rw [List.drop_length, znN] at heq
  refine Vs 11 O ?_
  refine zjH Tryz.results99 O (fun w hI => ⟨_, rfl, by rw [<- heq], hI.k0⟩)
theorem znO (l : List Int) (v : Value) (D : Nat -> Prop) (W : World) (hl : SlR 1 zt D W v l) (hlen : l.length <= 1000000) : Calls Tryz.prog 48 #[v] W (Ret fun r w' => r = .bool (znN 0 l) /\ Ext W w') := by
 obtain ⟨av, cv, rfl⟩ := hl.form
 refine zlt Tryz.func48 O Tryz.ntmps48 O (zlE ?_)
 refine Vs 19 O ?_
 refine zm3 (σ := Nat × Int) [6, 7] [] [] O (fun e ⟨i, t⟩ => (8, .int .i64 i) :: (3, .int .i64 t) :: e) (fun e ⟨i, t⟩ => e) (fun ⟨i, t⟩ => i <= l.length /\ 0 <= t /\ t <= i /\ znN t (l.drop i) = znN 0 l) (fun ⟨i, t⟩ => l.length - i) ((0, 0)) (zl4 O) (zl5 O) (fun _ => rfl) (fun _ => rfl) (fun _ => rfl) (⟨zns _, Int.le_refl 0, Int.le_refl 0, rfl⟩) ?_
 rintro ⟨i, t⟩ ⟨hi, h0, h1, heq⟩
 show V _ _ _ _ _ ((8, .int .i64 i) :: (3, .int .i64 t) :: _) _ (_) _
 refine Vs 6 O ?_
 refine zjn O (fun hlt => ?_) (fun hlt => ?_)
 ·
  refine Vs 6 O ?_
  obtain ⟨x, he_x, hm_x⟩ := gE_ l (i) (by omega)
  obtain ⟨b_x, o_x, c_x, ha_x, _, hc_x, hR_x⟩ := hl.at he_x
  obtain rfl := hR_x
  refine zm0 1000 0 O O hc_x ?_
  refine V.ix 1000 tR27 ts3 O ha_x (by omega) (_) (rfl) O ?_
  rw [yC he_x, znN] at heq
  refine Vs 10 O ?_
  refine zlh 14 O (fun g0 => ?_) (fun g0 => ?_)
  ·
   rw [zno (.inl g0)] at heq
   refine Vs 19 O ?_
   refine zjH Tryz.results48 O (fun w hI => ⟨_, rfl, by rw [<- heq], hI.k0⟩)
  ·
   refine Vs 6 O ?_
   refine zjn O (fun g1 => ?_) (fun g1 => ?_)
   ·
    rw [zno (.inr (by omega))] at heq
    refine Vs 12 O ?_
    refine zjH Tryz.results48 O (fun w hI => ⟨_, rfl, by rw [<- heq], hI.k0⟩)
   ·
    rw [znn (by omega)] at heq
    refine Va 15 O (by omega) ?_
    refine zjy (⟨i + 1, max t (x + 1)⟩) (zl4 O) (zl5 O) (⟨by omega, by omega, by omega, heq⟩) (by first | omega | (dsimp only; omega)) 0 O O
 ·
  obtain rfl : i = l.length := by omega
  rw [List.drop_length, znN] at heq
  refine Vs 11 O ?_
  refine zjH Tryz.results48 O (fun w hI => ⟨_, rfl, by rw [<- heq], hI.k0⟩)
theorem znP (c : Mx) (v : Value) (D : Nat -> Prop) (W : World) (hc : SlR 1 (RSl 1 zt) D W v c) : Calls Tryz.prog 31 #[.agg #[v]] W (Ret fun r w' => r = .int .i64 (zoO c) /\ Ext W w') := by
 obtain ⟨av, cv, rfl⟩ := hc.form
 have hmx := hc.max
 refine zlt Tryz.func31 O Tryz.ntmps31 O (zlE ?_)
 refine Vs 2 O ?_
 refine V.box 1 O O (fun b1 => ?_)
 refine Vs 7 O ?_
 refine zlT Tryz.call39 O (fun w hI => jE c _ D w (Tr1 hI.k0 hc)) ?_
 refine zll O (fun w hI => zkO O (by first | exact zb | rfl)) ?_
 refine Vs 2 O ?_
 refine zjn O (fun v0 => ?_) (fun v0 => ?_)
 ·
  refine Vs 7 O ?_
  refine zjH Tryz.results31 O (fun w hI => ⟨_, rfl, by unfold zoO; rw [znn v0], hI.k0⟩)
 ·
  have v0 := znm.1 v0
  have hr1 := v0.r1
  obtain ⟨r0, he_r0, hm_r0⟩ := gE_ c (0) (by omega)
  obtain ⟨b_r0, o_r0, c_r0, ha_r0, _, hc_r0, hR_r0⟩ := hc.at he_r0
  obtain ⟨v1_r0, rfl, hs_r0⟩ := hR_r0
  obtain ⟨a1_r0, n1_r0, rfl⟩ := hs_r0.form
  refine zm0 1000 0 O O hc_r0 ?_
  have hhd : c.headD [] = r0 := by
   cases c with
   | nil => simp at he_r0
   | cons a c => simpa using he_r0
  refine Vs 6 O ?_
  refine V.ix 1000 tR34 ts27 O ha_r0 (by omega) (0) (by omega) O ?_
  refine Vs 1 O ?_
  refine zlT Tryz.call85 O (fun w hI => zdn r0 _ _ w (Tr1 hI.k0 hs_r0)) ?_
  refine Vs 4 O ?_
  refine zjH Tryz.results31 O (fun w hI => ⟨_, rfl, by unfold zoO; rw [zno v0, hhd, zbb (v0.nn _ hm_r0) (by have := v0.s2; rw [hhd] at this; omega), Int.zero_add], hI.k0⟩)
theorem zol {α : Type} {l : List α} {k : Nat} {x y : α} (hx : l[k]? = some x) : y ∈ l.take (k + 1) ↔ y ∈ l.take k \/ y = x := by
 rw [List.take_add_one, hx]
 simp
theorem zom (l : List Int) (x : Int) (v : Value) (D : Nat -> Prop) (W : World) (hv : SlR 1 zt D W v l) : Calls Tryz.prog 98 #[v, .int .i64 x] W (Ret fun r w' => (∃ i : Int, r = .int .i64 i /\ (0 <= i ↔ x ∈ l)) /\ Ext W w') := by
 obtain ⟨av, cv, rfl⟩ := hv.form
 have hmx := hv.max
 refine zlu Tryz.func98 O Tryz.ntmps98 O (zlE ?_)
 refine Vs 14 O ?_
 refine zm3 (σ := Nat) [0, 1, 7] [] [] O (fun e k => (8, .int .i64 k) :: e) (fun e k => e) (fun k => k <= l.length /\ x ∉ l.take k) (fun k => l.length - k) (0) (zl4 O) (zl5 O) (fun _ => rfl) (fun _ => rfl) (fun _ => rfl) (⟨zns _, by simp⟩) ?_
 rintro k ⟨hk, hn⟩
 refine Vs 6 O ?_
 refine zjn O (fun hlt => ?_) (fun hlt => ?_)
 ·
  refine Vs 15 O ?_
  obtain ⟨y, he_y, hm_y⟩ := gE_ l (k) (by omega)
  obtain ⟨b_y, o_y, c_y, ha_y, _, hc_y, hR_y⟩ := hv.at he_y
  obtain rfl := hR_y
  refine zm0 1000 0 O O hc_y ?_
  refine V.ix 1000 tR27 ts3 O ha_y (by omega) (_) (rfl) O ?_
  refine Vs 4 O ?_
  refine zjn O (fun he => ?_) (fun he => ?_)
  ·
   refine Vs 12 O ?_
   refine zjH Tryz.results98 O (fun w hI => ⟨_, rfl, ⟨_, rfl, by rw [he]; exact ⟨fun _ => hm_y, fun _ => by omega⟩⟩, hI.k0⟩)
  ·
   refine Va 7 O (by omega) ?_
   refine zjy (k + 1) (zl4 O) (zl5 O) (⟨by omega, fun h => ((zol he_y).1 h).elim hn he⟩) (by first | omega | (dsimp only; omega)) 0 O O
 ·
  have : k = l.length := by omega
  subst this
  rw [zni] at hn
  refine Vs 11 O ?_
  refine zjH Tryz.results98 O (fun w hI => ⟨_, rfl, ⟨_, rfl, ⟨fun h => by omega, fun h => absurd h hn⟩⟩, hI.k0⟩)
theorem znV (l : List Int) (x : Int) (v : Value) (D : Nat -> Prop) (W : World) (hv : SlR 1 zt D W v l) : Calls Tryz.prog 97 #[v, .int .i64 x] W (Ret fun r w' => r = .bool (decide (x ∈ l)) /\ Ext W w') := by
 refine zlu Tryz.func97 O Tryz.ntmps97 O (zlE ?_)
 refine Vs 9 O ?_
 refine zlV Tryz.call98 O (fun w hI => zom l x v D w (Tr1 hI.k0 hv)) ?_
 rintro r w1 w2 hI1 hk12 ⟨i, rfl, hi⟩ hlow
 refine Vs 5 O ?_
 refine zjH Tryz.results97 O (fun w hI => ⟨_, rfl, by simp [hi], hI.k1⟩)
theorem zo6 {p : List Int} (h : ziT p) (i : Nat) : ziT (p.take i) := fun j c hj => by
 have hl := (znr.1 hj).1
 rw [znH] at hl
 rw [znJ, zno (by omega)] at hj
 have := h j c hj
 rwa [List.take_take, Nat.min_eq_left (by omega)]
theorem zon {sz : List Int} {P : Int -> Prop} (h : ∀ y ∈ sz, P y) {j : Nat} {v : Int} (hv : P v) : ∀ y ∈ sz.set j v, P y := fun y hy => (List.mem_or_eq_of_mem_set hy).elim (h y) (fun e => e ▸ hv)
theorem zox (l : List Int) (v : Value) (D : Nat -> Prop) (W : World) (hl : SlR 1 zt D W v l) (hlen : l.length <= 1000000) : Calls Tryz.prog 138 #[v] W (Ret fun r w' => (∃ sz : List Int, SlR 1 zt (fun b => W.heap.size <= b) w' r sz /\ (sz.length : Int) = if znN 0 l = true then nP l else 0) /\ Ext W w') := by
 obtain ⟨av, cv, rfl⟩ := hl.form
 refine zlt Tryz.func138 O Tryz.ntmps138 O (zlE ?_)
 refine Vs 9 O ?_
 refine zlT Tryz.call99 O (fun w hI => znK l _ D w (Tr1 hI.k0 hl) hlen) ?_
 refine zll O (fun w hI => zkO O (by first | exact zb | rfl)) ?_
 refine Vs 2 O ?_
 refine V.bool O (fun k0 => ?_) (fun k0 => ?_)
 ·
  have k1 : ¬ znN 0 l = true := by simpa using k0
  refine Vs 7 O ?_
  refine zjH Tryz.results138 O (fun w hI => ⟨_, rfl, ⟨[], SlR.nil, by rw [znn k1]; rfl⟩, hI.k0⟩)
 ·
  have k1 : znN 0 l = true := by simpa using k0
  have hcan := canB_iff.1 k1
  rw [zno k1]
  refine Vs 15 O ?_
  refine zlM 900 3 1 O ?_
  refine Vs 1 O ?_
  refine zm3 (σ := Nat × Value × List Int) [9, 10] [] [] O (fun e ⟨i, u, sz⟩ => (11, .int .i64 i) :: (3, u) :: e) (fun e ⟨i, u, sz⟩ => (900, .row 3 1 u sz.length (sz.map zd)) :: e) (fun ⟨i, u, sz⟩ => i <= l.length /\ (sz.length : Int) = nP (l.take i) /\ ∀ x ∈ sz, 0 <= x /\ x <= i) (fun ⟨i, u, sz⟩ => l.length - i) ((0, .slice none 0 0, [])) (zl4 O) (zl5 O) (fun _ => rfl) (fun _ => rfl) (fun _ => rfl) (⟨zns _, rfl, fun x hx => by cases hx⟩) ?_
  rintro ⟨i, u, sz⟩ ⟨hi, hsz, hb⟩
  show V _ _ _ _ _ ((11, .int .i64 i) :: (3, u) :: _) _ ((900, .row 3 1 u sz.length (sz.map zd)) :: _) _
  refine Vs 6 O ?_
  refine zjn O (fun hlt => ?_) (fun hlt => ?_)
  ·
   refine Vs 6 O ?_
   obtain ⟨x, he_x, hm_x⟩ := gE_ l (i) (by omega)
   obtain ⟨b_x, o_x, c_x, ha_x, _, hc_x, hR_x⟩ := hl.at he_x
   obtain rfl := hR_x
   refine zm0 1000 0 O O hc_x ?_
   refine V.ix 1000 tR27 ts3 O ha_x (by omega) (_) (rfl) O ?_
   obtain ⟨_, hx0, hx1⟩ := zfc.1 (show ziT (l.take i ++ [x]) by rw [<- zh he_x]; exact zo6 hcan (i + 1))
   obtain ⟨k, rfl⟩ : ∃ k : Nat, x = (k : Int) := ⟨x.toNat, by omega⟩
   have hnn := zoi (l.take i)
   have hnx : nP (l.take (i + 1)) = max (nP (l.take i)) ((k : Int) + 1) := by rw [zh he_x, zhK]
   have hi1 : sz.length <= i := by
    have h1 := zjf _ (l.take i) rfl (zo6 hcan i)
    have h2 := zfr (l.take i)
    rw [h1, zbc, znH] at h2
    omega
   refine zlF (fun w hI => zcd (show w.ownsRow 0 3 1 u _ _ from hI.at 900 O)) ?_
   rintro ⟨ab, cb, rfl, hab⟩
   refine Vs 13 O ?_
   refine zjn O (fun e0 => ?_) (fun e0 => ?_)
   ·
    refine Vs 2 O ?_
    refine zm6 20 [(0, _)] tR27 ts3 tz3 (by decide) O O (by kernel_rfl) (fun b20 => ?_)
    refine zlN 900 20 tu27 Tryz.el3 O (by decide) O O (by omega) (by omega) (fun u900 => ?_)
    refine Vs 6 O ?_
    refine zm2 900 O (e' := .row 3 1 u900 (sz.length + 1) ((sz ++ [(0 : Int)]).map zd)) (by rw [List.map_append]; rfl) ?_
    refine zlP 900 O (by omega) ?_
    rintro bq cq rfl hcap_900
    have hz : (sz ++ [(0 : Int)])[k]? = some 0 := by rw [znE (by omega), show k - sz.length = 0 by omega]; rfl
    refine Va 1 O (by omega) ?_
    refine zlR 900 (k) tg3 O (by omega) (show _ = some (Value.int .i64 0) by rw [znu, hz]; rfl) ?_
    refine Va 2 O (by omega) ?_
    refine V.rs 900 (k) ts3 O (by omega) (by simp; omega) ?_
    refine zm2 900 O (e' := .row 3 1 (.slice (some ⟨bq, 0, none⟩) (sz.length + 1) cq) ((sz ++ [(0 : Int)]).set k 1).length (((sz ++ [(0 : Int)]).set k 1).map zd)) (by rw [List.map_set, List.length_set, znl]; rfl) ?_
    refine Va 7 O (by omega) ?_
    refine zjy (⟨i + 1, _, (sz ++ [(0 : Int)]).set k 1⟩) (zl4 O) (zl5 O) (⟨by omega, by rw [List.length_set, znl, zny]; omega, zon (P := fun y => 0 <= y /\ y <= ((i + 1 : Nat) : Int)) (fun y hy => (znw.1 hy).elim (fun g => by have := hb y g; omega) (fun g => by have := znv.1 g; omega)) (by omega)⟩) (by first | omega | (dsimp only; omega)) 0 O O
   ·
    obtain ⟨z, hz⟩ : ∃ z, sz[k]? = some z := ⟨_, znd (by omega)⟩
    have hzb := hb z (zne hz)
    obtain ⟨bq, rfl⟩ := hab (by omega)
    refine Va 6 O (by omega) ?_
    refine zlR 900 (k) tg3 O (by omega) (show _ = some (Value.int .i64 z) by rw [znu, hz]; rfl) ?_
    refine Va 2 O (by omega) ?_
    refine V.rs 900 (k) ts3 O (by omega) (by simp; omega) ?_
    refine zm2 900 O (e' := .row 3 1 (.slice (some ⟨bq, 0, none⟩) sz.length cb) (sz.set k (z + 1)).length ((sz.set k (z + 1)).map zd)) (by rw [List.map_set, List.length_set]) ?_
    refine Va 7 O (by omega) ?_
    refine zjy (⟨i + 1, _, sz.set k (z + 1)⟩) (zl4 O) (zl5 O) (⟨by omega, by rw [List.length_set]; omega, zon (P := fun y => 0 <= y /\ y <= ((i + 1 : Nat) : Int)) (fun y hy => by have := hb y hy; omega) (by omega)⟩) (by first | omega | (dsimp only; omega)) 0 O O
  ·
   obtain rfl : i = l.length := by omega
   rw [zni] at hsz
   refine Vs 12 O ?_
   refine zjH Tryz.results138 O (fun w hI => ⟨_, rfl, ⟨sz, zkx zd (fun _ _ => rfl) (hI.at 900 O) (fun b hb => hI.own 900 0 O O b hb), hsz⟩, hI.k0⟩)
theorem zoy (l : List Int) (v : Value) (D : Nat -> Prop) (W : World) (hl : SlR 1 zt D W v l) (hlen : l.length <= 1000000) : Calls Tryz.prog 100 #[v] W (Ret fun r w' => r = .int .i64 (if znN 0 l = true then nP l else 0) /\ Ext W w') := by
 refine zlt Tryz.func100 O Tryz.ntmps100 O (zlE ?_)
 refine Vs 8 O ?_
 refine zlV Tryz.call138 O (fun w hI => zox l _ D w (Tr1 hI.k0 hl) hlen) ?_
 rintro r1 w1 w2 hI1 hk12 ⟨sz, hs, hz⟩ hlow
 obtain ⟨a, c, rfl⟩ := hs.form
 refine Vs 5 O ?_
 refine zjH Tryz.results100 O (fun w hI => ⟨_, rfl, by rw [hz], hI.k1⟩)
theorem zoa (c : Mx) (hv : VMx c) (v : Value) (D : Nat -> Prop) (W : World) (hc : SlR 1 (RSl 1 zt) D W v c) : Calls Tryz.prog 70 #[v] W (Ret fun r w' => SlR 1 (RSl 1 zt) (fun b => W.heap.size <= b) w' r (zN c) /\ Ext W w') := by
 have h1 := hv.r1
 have h2 := hv.r2
 have h3 := hv.w2
 refine (zae c h1 hv.wid ⟨by omega, by omega⟩ v D W hc).mono ?_
 rintro _ w' ⟨r, rfl, ⟨rv, g1, g2, g3, g4⟩, hk⟩
 exact ⟨r, rfl, zhW g1 g2 (fun g hg => (g3 g hg).1) g4, hk⟩
theorem znW (c : Mx) (v : Value) (D : Nat -> Prop) (W : World) (hc : SlR 1 (RSl 1 zt) D W v c) : Calls Tryz.prog 41 #[.agg #[v]] W (Ret fun r w' => r = .int .i64 (if VMx c then (zoS c : Int) else 0) /\ Ext W w') := by
 obtain ⟨av, cv, rfl⟩ := hc.form
 refine zlt Tryz.func41 O Tryz.ntmps41 O (zlE ?_)
 refine Vs 2 O ?_
 refine V.box 1 O O (fun b1 => ?_)
 refine Vs 7 O ?_
 refine zlT Tryz.call39 O (fun w hI => jE c _ D w (Tr1 hI.k0 hc)) ?_
 refine zll O (fun w hI => zkO O (by first | exact zb | rfl)) ?_
 refine Vs 2 O ?_
 refine zjn O (fun v0 => ?_) (fun v0 => ?_)
 ·
  refine Vs 7 O ?_
  refine zjH Tryz.results41 O (fun w hI => ⟨_, rfl, by rw [znn v0], hI.k0⟩)
 ·
  have v0 := znm.1 v0
  have hw2 := v0.w2
  have htl := qi c
  refine Vs 12 O ?_
  refine zlV Tryz.call70 O (fun w hI => zoa c v0 _ D w (Tr1 hI.k0 hc)) ?_
  rintro r1 w1 w2 hI1 hk12 hres hlow
  obtain ⟨at_, ct, rfl⟩ := hres.form
  refine Vs 5 O ?_
  refine zm3 (σ := Nat × Nat) [11, 12] [] [] O (fun e ⟨i, n⟩ => (13, .int .i64 i) :: (3, .int .i64 n) :: e) (fun e ⟨i, n⟩ => e) (fun ⟨i, n⟩ => i <= (zN c).length /\ n = (((zN c).take i).filter fun col => decide (zP col ≠ 0)).length) (fun ⟨i, n⟩ => (zN c).length - i) ((0, 0)) (zl4 O) (zl5 O) (fun _ => rfl) (fun _ => rfl) (fun _ => rfl) (⟨zns _, rfl⟩) ?_
  rintro ⟨i, n⟩ ⟨hi, hn⟩
  show V _ _ _ _ _ ((13, .int .i64 i) :: (3, .int .i64 n) :: _) _ (_) _
  refine Vs 6 O ?_
  refine zjn O (fun hlt => ?_) (fun hlt => ?_)
  ·
   refine Vs 6 O ?_
   obtain ⟨col, he_col, hm_col⟩ := gE_ (zN c) (i) (by omega)
   obtain ⟨b_col, o_col, c_col, ha_col, hd_col, hc_col, hR_col⟩ := hres.atD he_col
   obtain ⟨v1_col, rfl, hs_col⟩ := hR_col
   obtain ⟨a1_col, n1_col, rfl⟩ := hs_col.form
   refine zm1 1000 0 O O (fun h_ => by have h1_ := hlow _ h_; have h2_ := hd_col; first | omega | exact h1_ h2_) hc_col ?_
   refine V.ix 1000 tR34 ts27 O ha_col (by omega) (_) (rfl) O ?_
   have hcb := zfx v0 hm_col
   have htk := zh he_col
   have hnle : n <= i := by
    rw [hn]
    refine znj (List.length_filter_le _ _) ?_
    rw [znH]; omega
   refine Vs 7 O ?_
   refine zlT Tryz.call71 O (fun w hI => zay col _ _ w (hs_col.keep za hI.k0 (fun b hb _ hs => by have := hlow b hs; omega)) (fun x hx => by have := hcb x hx; omega)) ?_
   have hg := yz col
   refine Vs 3 O ?_
   refine zjn O (fun g => ?_) (fun g => ?_)
   ·
    refine Va 11 O (by omega) ?_
    refine zjy (⟨i + 1, n + 1⟩) (zl4 O) (zl5 O) (⟨by omega, by rw [htk, List.filter_append, znl, <- hn, List.filter_cons_of_pos (by simp; omega)]; rfl⟩) (by first | omega | (dsimp only; omega)) 0 O O
   ·
    refine Va 7 O (by omega) ?_
    refine zjy (⟨i + 1, n⟩) (zl4 O) (zl5 O) (⟨by omega, by rw [htk, List.filter_append, znl, <- hn, List.filter_cons_of_neg (by simp; omega)]; rfl⟩) (by first | omega | (dsimp only; omega)) 0 O O
  ·
   obtain rfl : i = (zN c).length := by omega
   rw [zni] at hn
   refine Vs 12 O ?_
   refine zjH Tryz.results41 O (fun w hI => ⟨_, rfl, by rw [zno v0, hn]; rfl, hI.k1⟩)
theorem zoz {n k : Nat} (h : k < n) : (List.replicate n (Value.int .i64 0)).set k (.int .i64 1) = (zje n (k : Int)).map zd := by
 apply List.ext_getElem?
 intro i
 rw [List.getElem?_set]
 unfold zje zc7
 rw [List.map_map, List.map_map, znu, List.length_replicate]
 by_cases hi : i < n
 ·
  rw [List.getElem?_range hi]
  by_cases e : k = i
  ·
   rw [zno e, zno h]
   simp only [Option.map_some, Function.comp]
   rw [zno (by omega)]
  ·
   rw [znn e, List.getElem?_replicate, zno hi]
   simp only [Option.map_some, Function.comp]
   rw [znn (by omega)]
 ·
  rw [znn (by omega), znB (by simp; omega), znB (by simp; omega)]
  rfl
def znR (p : List Int) : Int := if p.length = 0 \/ ¬ znN 0 p = true then 1 else if 256 < p.length then 4 else 0
theorem znL (p : List Int) (hlen : p.length <= 1000000) (v : Value) (D : Nat -> Prop) (W : World) (hp : SlR 1 zt D W v p) : Calls Tryz.prog 47 #[v] W (Ret fun r w' => (∃ u, r = .tuple #[.agg #[u], .int .i64 (znR p)] /\ (znR p = 0 -> SlR 1 (RSl 1 zt) (fun b => W.heap.size <= b) w' u (ofP p)) /\ (znR p ≠ 0 -> u = .slice none 0 0)) /\ Ext W w') := by
 have hp0 := hp
 obtain ⟨av, cv, rfl⟩ := hp.form
 refine zlt Tryz.func47 O Tryz.ntmps47 O (zlE ?_)
 refine Vs 2 O ?_
 refine V.alloc 2 tz36 O O (fun b2 => ?_)
 refine Vs 10 O ?_
 refine zlh 11 O (fun g0 => ?_) (fun g0 => ?_)
 ·
  have hc : znR p = 1 := zno (.inl (by omega))
  refine Vs 9 O ?_
  refine zm9 [Value.slice none 0 0] [(0, 1)] [] O O (fun _ => by kernel_rfl) ?_
  refine Vs 6 O ?_
  refine zjS Tryz.results47 tg36 ts36 O O O O (fun w hI => ⟨_, rfl, ⟨_, by rw [hc], fun h => (by rw [hc] at h; cases h), fun _ => rfl⟩, hI.k0⟩)
 ·
  refine Vs 1 O ?_
  refine zlT Tryz.call99 O (fun w hI => znK p _ D w (Tr1 hI.k0 hp0) hlen) ?_
  refine zll O (fun w hI => zkO O (by first | exact zb | rfl)) ?_
  refine Vs 3 O ?_
  refine V.bool O (fun k0 => ?_) (fun k0 => ?_)
  ·
   have hc : znR p = 1 := zno (.inr (by simpa using k0))
   refine Vs 2 O ?_
   refine zm9 [Value.slice none 0 0] [(0, 1)] [] O O (fun _ => by kernel_rfl) ?_
   refine Vs 6 O ?_
   refine zjS Tryz.results47 tg36 ts36 O O O O (fun w hI => ⟨_, rfl, ⟨_, by rw [hc], fun h => (by rw [hc] at h; cases h), fun _ => rfl⟩, hI.k0⟩)
  ·
   have k1 : znN 0 p = true := by simpa using k0
   have hcan := canB_iff.1 k1
   refine Vs 10 O ?_
   refine zjn O (fun l0 => ?_) (fun l0 => ?_)
   ·
    have hc : znR p = 4 := by unfold znR; rw [znn (fun h => h.elim (fun h => g0 (by omega)) (fun h => h k1)), zno (by omega)]
    refine Vs 2 O ?_
    refine zm9 [Value.slice none 0 0] [(0, 1)] [] O O (fun _ => by kernel_rfl) ?_
    refine Vs 6 O ?_
    refine zjS Tryz.results47 tg36 ts36 O O O O (fun w hI => ⟨_, rfl, ⟨_, by rw [hc], fun h => (by rw [hc] at h; cases h), fun _ => rfl⟩, hI.k0⟩)
   ·
    have hc : znR p = 0 := by unfold znR; rw [znn (fun h => h.elim (fun h => g0 (by omega)) (fun h => h k1)), znn (by omega)]
    obtain ⟨n, hn⟩ : ∃ n : Nat, nP p = (n : Int) := ⟨(nP p).toNat, by have := zoi p; omega⟩
    have hnl : n <= p.length := by
     have h1 := zjf _ p rfl hcan
     have h2 := zfr p
     rw [h1, zbc, hn] at h2
     exact h2
    have hof : ofP p = p.map (zje n) := by unfold ofP; rw [hn]; rfl
    refine Vs 4 O ?_
    refine V.alloc 4 tz36 O O (fun b4 => ?_)
    refine Vs 10 O ?_
    refine zlM 900 27 1 O ?_
    refine zmc 900 (e' := OwP 27 1 (RSl 1 zt) (fun _ => False) (.slice none 0 0) []) O (fun w hI => OwH.nil) OwP.loc (fun _ h => h) (fun q hq => hq.elim id False.elim) ?_
    refine Vs 1 O ?_
    refine zm3 (σ := Nat × Option Addr × Nat × (Nat -> Prop)) [0, 2, 4, 21, 22] [2] [2, 4] O (fun e ⟨i, aj, cj, F⟩ => (23, .int .i64 i) :: e) (fun e ⟨i, aj, cj, F⟩ => (4, .own b4 [.slice aj ((p.take i).map (zje n)).length cj] 36) :: (900, OwP 27 1 (RSl 1 zt) F (.slice aj ((p.take i).map (zje n)).length cj) ((p.take i).map (zje n))) :: e) (fun ⟨i, aj, cj, F⟩ => i <= p.length) (fun ⟨i, aj, cj, F⟩ => p.length - i) ((0, none, 0, fun _ => False)) (zl4 O) (zl5 O) (fun _ => rfl) (fun _ => rfl) (fun _ => rfl) (zns _) ?_
    rintro ⟨i, aj, cj, F⟩ hi
    show V _ _ _ _ _ ((23, .int .i64 i) :: _) _ ((4, .own b4 [.slice aj ((p.take i).map (zje n)).length cj] 36) :: (900, OwP 27 1 (RSl 1 zt) F (.slice aj ((p.take i).map (zje n)).length cj) ((p.take i).map (zje n))) :: _) _
    have hjl : ((p.take i).map (zje n)).length = i := by rw [znx, znH]; omega
    refine Vs 6 O ?_
    refine zjn O (fun hlt => ?_) (fun hlt => ?_)
    ·
     refine Vs 6 O ?_
     obtain ⟨x, he_x, hm_x⟩ := gE_ p (i) (by omega)
     obtain ⟨b_x, o_x, c_x, ha_x, _, hc_x, hR_x⟩ := hp.at he_x
     obtain rfl := hR_x
     refine zm0 1000 0 O O hc_x ?_
     refine V.ix 1000 tR27 ts3 O ha_x (by omega) (_) (rfl) O ?_
     have hx := zo2 hcan hm_x
     obtain ⟨k, rfl⟩ : ∃ k : Nat, x = (k : Int) := ⟨x.toNat, by omega⟩
     have htj : (p.take (i + 1)).map (zje n) = (p.take i).map (zje n) ++ [zje n (k : Int)] := by rw [zh he_x, List.map_append]; rfl
     refine Vs 7 O ?_
     refine zlT Tryz.call100 O (fun w hI => zoy p _ D w (Tr1 hI.k0 hp0) hlen) ?_
     rw [zno k1, hn]
     refine zkh 29 tu27 Tryz.el3 O (by omega) (by omega) (zs := List.replicate n (.int .i64 0)) (ze3 _ _ O) (by simp) (fun b29 => ?_)
     refine Va 8 O (by omega) ?_
     refine V.rs 29 (k) ts3 O (by omega) (by simp; omega) ?_
     refine zm2 29 O (e' := .row 3 1 (.slice (some ⟨b29, 0, none⟩) n n) (zje n (k : Int)).length ((zje n (k : Int)).map zd)) (by rw [zoz (by omega)]; simp [zje, zbc]) ?_
     refine zmc 29 (e' := DaP (RSl 1 zt) (fun q => q = b29) (zje n (k : Int)) [.slice (some ⟨b29, 0, none⟩) n n]) O (fun w hI => ⟨_, rfl, zkx zd (fun _ _ => rfl) (hI.at 29 O) (fun g hg => (Option.some.inj hg).symm)⟩) DaP.loc (fun _ h => h) (fun q hq => congrArg some (show b29 = q from Eq.symm hq)) ?_
     refine Vs 6 O ?_
     refine zm6 36 [(0, _)] tR34 ts27 tz27 (by decide) O O (by kernel_rfl) (fun b36 => ?_)
     refine zmt [900, 29] (Hn := fun u => [(900, OwP 27 1 (RSl 1 zt) (fun q => F q \/ q = b29) u ((p.take i).map (zje n) ++ [zje n (k : Int)]))]) (u := fun u => u) [(2, some (2, 0)), (4, some (4, 0)), (25, some (1000, 0)), (33, some (4, 0))] O (fun _ => rfl) (fun _ => rfl) (fun w hI => zmu 900 29 36 hI O O O O tu34 Tryz.el27 O (by decide) O O O (fun D x cs h => zgO D x cs h) (by omega) (by omega)) (fun u900 => ?_)
     refine zlF (p := ∃ ao c, u900 = .slice ao ((p.take i).map (zje n) ++ [zje n (k : Int)]).length c) (fun w hI => zds (hI.at 900 O)) (fun hu => ?_)
     obtain ⟨an, cn, rfl⟩ := hu
     refine Va 9 O (by omega) ?_
     rw [<- htj] at *
     refine zjy (⟨i + 1, an, cn, fun q => F q \/ q = b29⟩) (zl4 O) (zl5 O) (by omega) (by first | omega | (dsimp only; omega)) 0 O O
    ·
     obtain rfl : i = p.length := by omega
     rw [zni] at *
     refine Vs 13 O ?_
     refine zjS Tryz.results47 tg36 ts36 O O O O (fun w hI => ⟨_, rfl, ⟨_, by rw [hc], fun _ => by rw [hof]; exact (show OwH _ _ _ _ _ _ _ from hI.at 900 O).sl (by omega) (fun q hq => hI.own 900 0 O O q hq), fun h => absurd hc h⟩, hI.k0⟩)
def zoE (c : Mx) (n : Int) : Prop := (c.length : Int) <= n /\ ∀ row ∈ c, (row.length : Int) <= n
theorem zob (c : Mx) (n : Int) (v : Value) (D : Nat -> Prop) (W : World) (hc : SlR 1 (RSl 1 zt) D W v c) : Calls Tryz.prog 16 #[.agg #[v], .int .i64 n] W (Ret fun r w' => (∃ q : Bool, r = .bool q /\ (q = true -> zoE c n)) /\ Ext W w') := by
 obtain ⟨av, cv, rfl⟩ := hc.form
 have hmx := hc.max
 refine zlu Tryz.func16 O Tryz.ntmps16 O (zlE ?_)
 refine Vs 2 O ?_
 refine V.box 2 O O (fun b2 => ?_)
 refine Vs 13 O ?_
 refine zjn O (fun g0 => ?_) (fun g0 => ?_)
 ·
  refine Vs 7 O ?_
  refine zjH Tryz.results16 O (fun w hI => ⟨_, rfl, ⟨_, rfl, fun h => by cases h⟩, hI.k0⟩)
 ·
  refine Vs 12 O ?_
  refine zm3 (σ := Nat) [1, 13, 14] [] [] O (fun e i => (15, .int .i64 i) :: e) (fun e i => e) (fun i => i <= c.length /\ ∀ j row, j < i -> c[j]? = some row -> (row.length : Int) <= n) (fun i => c.length - i) (0) (zl4 O) (zl5 O) (fun _ => rfl) (fun _ => rfl) (fun _ => rfl) (⟨zns _, fun j row h => absurd h (Nat.not_lt_zero _)⟩) ?_
  rintro i ⟨hi, hall⟩
  refine Vs 6 O ?_
  refine zjn O (fun hlt => ?_) (fun hlt => ?_)
  ·
   refine Vs 6 O ?_
   obtain ⟨x, he_x, hm_x⟩ := gE_ c (i) (by omega)
   obtain ⟨b_x, o_x, c_x, ha_x, _, hc_x, hR_x⟩ := hc.at he_x
   obtain ⟨v1_x, rfl, hs_x⟩ := hR_x
   obtain ⟨a1_x, n1_x, rfl⟩ := hs_x.form
   refine zm0 1000 0 O O hc_x ?_
   refine V.ix 1000 tR34 ts27 O ha_x (by omega) (_) (rfl) O ?_
   refine Vs 12 O ?_
   refine zjn O (fun g1 => ?_) (fun g1 => ?_)
   ·
    refine Vs 11 O ?_
    refine zjH Tryz.results16 O (fun w hI => ⟨_, rfl, ⟨_, rfl, fun h => by cases h⟩, hI.k0⟩)
   ·
    have hnx : i + 1 <= c.length /\ ∀ j row, j < i + 1 -> c[j]? = some row -> (row.length : Int) <= n := ⟨by omega, fun j row hj hr => by
     by_cases e : j = i
     ·
      subst e
      rw [he_x] at hr
      cases hr
      omega
     ·
      exact hall j row (by omega) hr⟩
    refine Va 7 O (by omega) ?_
    refine zjy (i + 1) (zl4 O) (zl5 O) (hnx) (by first | omega | (dsimp only; omega)) 0 O O
  ·
   obtain rfl : i = c.length := by omega
   have hres : zoE c n := ⟨by omega, fun row hr => by
    obtain ⟨k, hk⟩ := List.mem_iff_getElem?.1 hr
    exact hall k row (znr.1 hk).1 hk⟩
   refine Vs 11 O ?_
   refine zjH Tryz.results16 O (fun w hI => ⟨_, rfl, ⟨_, rfl, fun _ => hres⟩, hI.k0⟩)
def zoT (r0 row : List Int) : Prop := row.length = r0.length /\ (∀ n ∈ row, 0 <= n /\ n <= 1048576) /\ row.sum = r0.sum /\ 1 <= row.sum /\ row.sum <= 1048576
theorem zoA {l : List Int} {k : Nat} {x : Int} (h : l[k]? = some x) : (l.take (k + 1)).sum = (l.take k).sum + x := by rw [zh h, List.sum_append]; simp
theorem zjj (c : Mx) (v : Value) (D : Nat -> Prop) (W : World) (hc : SlR 1 (RSl 1 zt) D W v c) : Calls Tryz.prog 20 #[.agg #[v]] W (Ret fun r w' => r = .bool (decide (VMx c)) /\ Ext W w') := by
 obtain ⟨av, cv, rfl⟩ := hc.form
 have hmx := hc.max
 refine zlt Tryz.func20 O Tryz.ntmps20 O (zlE ?_)
 refine Vs 2 O ?_
 refine V.box 1 O O (fun b1 => ?_)
 refine Vs 11 O ?_
 refine zlh 13 O (fun g0 => ?_) (fun g0 => ?_)
 ·
  refine Vs 31 O ?_
  refine zjH Tryz.results20 O (fun w hI => ⟨_, rfl, by rw [znq (fun h => by have := h.r1; omega)], hI.k0⟩)
 ·
  refine Vs 6 O ?_
  refine zlh 19 O (fun g1 => ?_) (fun g1 => ?_)
  ·
   refine Vs 25 O ?_
   refine zjH Tryz.results20 O (fun w hI => ⟨_, rfl, by rw [znq (fun h => by have := h.r2; omega)], hI.k0⟩)
  ·
   obtain ⟨r0, he_r0, hm_r0⟩ := gE_ c (0) (by omega)
   obtain ⟨b_r0, o_r0, c_r0, ha_r0, _, hc_r0, hR_r0⟩ := hc.at he_r0
   obtain ⟨v1_r0, rfl, hs_r0⟩ := hR_r0
   obtain ⟨a1_r0, n1_r0, rfl⟩ := hs_r0.form
   refine zm0 1000 0 O O hc_r0 ?_
   have hhd : c.headD [] = r0 := by
    cases c with
    | nil => simp at he_r0
    | cons a c => simpa using he_r0
   refine Vs 2 O ?_
   refine V.ix 1000 tR34 ts27 O ha_r0 (by omega) (0) (by omega) O ?_
   refine Vs 5 O ?_
   refine zlh 27 O (fun g2 => ?_) (fun g2 => ?_)
   ·
    refine Vs 17 O ?_
    refine zjH Tryz.results20 O (fun w hI => ⟨_, rfl, by rw [znq (fun h => by have := h.w1; rw [hhd] at this; omega)], hI.k0⟩)
   ·
    refine Vs 2 O ?_
    refine V.ix 1000 tR34 ts27 O ha_r0 (by omega) (0) (by omega) O ?_
    refine Vs 6 O ?_
    refine zjn O (fun g3 => ?_) (fun g3 => ?_)
    ·
     refine Vs 7 O ?_
     refine zjH Tryz.results20 O (fun w hI => ⟨_, rfl, by rw [znq (fun h => by have := h.w2; rw [hhd] at this; omega)], hI.k0⟩)
    ·
     have hno : ∀ row ∈ c, ¬ zoT r0 row -> ¬ VMx c := fun row hr hb h => hb (by have := (vmx_ref.1 h).2 row hr; rwa [hhd] at this)
     refine Vs 17 O ?_
     refine zm3 (σ := Nat × Int) [1, 36, 37] [1] [1] O (fun e ⟨i, f⟩ => (38, .int .i64 i) :: (3, .int .i64 f) :: e) (fun e ⟨i, f⟩ => e) (fun ⟨i, f⟩ => i <= c.length /\ (∀ j row, j < i -> c[j]? = some row -> zoT r0 row) /\ (0 < i -> f = r0.sum)) (fun ⟨i, f⟩ => c.length - i) ((0, 0)) (zl4 O) (zl5 O) (fun _ => rfl) (fun _ => rfl) (fun _ => rfl) (⟨zns _, fun j row h => absurd h (Nat.not_lt_zero _), fun h => absurd h (Nat.lt_irrefl 0)⟩) ?_
     rintro ⟨i, f⟩ ⟨hi, hall, hf⟩
     show V _ _ _ _ _ ((38, .int .i64 i) :: (3, .int .i64 f) :: _) _ (_) _
     refine Vs 6 O ?_
     refine zjn O (fun hlt => ?_) (fun hlt => ?_)
     ·
      obtain ⟨r1, he_r1, hm_r1⟩ := gE_ c (0) (by omega)
      obtain ⟨b_r1, o_r1, c_r1, ha_r1, _, hc_r1, hR_r1⟩ := hc.at he_r1
      obtain ⟨v1_r1, rfl, hs_r1⟩ := hR_r1
      obtain ⟨a1_r1, n1_r1, rfl⟩ := hs_r1.form
      refine zm0 2000 0 O O hc_r1 ?_
      have hr1 : r1 = r0 := by rw [he_r0] at he_r1; exact (Option.some.inj he_r1).symm
      have hrl1 : r1.length = r0.length := by rw [hr1]
      refine Vs 7 O ?_
      obtain ⟨row, he_row, hm_row⟩ := gE_ c (i) (by omega)
      obtain ⟨b_row, o_row, c_row, ha_row, _, hc_row, hR_row⟩ := hc.at he_row
      obtain ⟨v1_row, rfl, hs_row⟩ := hR_row
      obtain ⟨a1_row, n1_row, rfl⟩ := hs_row.form
      refine zm0 3000 0 O O hc_row ?_
      refine V.ix 3000 tR34 ts27 O ha_row (by omega) (_) (rfl) O ?_
      refine Vs 12 O ?_
      refine V.ix 2000 tR34 ts27 O ha_r1 (by omega) (0) (by omega) O ?_
      refine Vs 5 O ?_
      refine zjn O (fun w0 => ?_) (fun w0 => ?_)
      ·
       refine Vs 12 O ?_
       refine zjH Tryz.results20 O (fun w hI => ⟨_, rfl, by rw [znq (hno row hm_row (fun h => w0 (by have := h.1; omega)))], hI.k0⟩)
      ·
       have hrl : row.length = r0.length := by omega
       refine Vs 16 O ?_
       refine zm3 (σ := Nat × Int) [1, 3, 4, 36, 37, 38, 51, 52] [1] [1] O (fun e ⟨k, s⟩ => (53, .int .i64 k) :: (6, .int .i64 s) :: e) (fun e ⟨k, s⟩ => e) (fun ⟨k, s⟩ => k <= row.length /\ (∀ n ∈ row.take k, 0 <= n /\ n <= 1048576) /\ s = (row.take k).sum /\ 0 <= s /\ s <= k * 1048576) (fun ⟨k, s⟩ => row.length - k) ((0, 0)) (zl4 O) (zl5 O) (fun _ => rfl) (fun _ => rfl) (fun _ => rfl) (⟨zns _, fun n hn => by simp at hn, rfl, Int.le_refl 0, by omega⟩) ?_
       rintro ⟨k, s⟩ ⟨hk, hin, hs, hs0, hs1⟩
       show V _ _ _ _ _ ((53, .int .i64 k) :: (6, .int .i64 s) :: _) _ (_) _
       refine Vs 6 O ?_
       refine zjn O (fun hlt2 => ?_) (fun hlt2 => ?_)
       ·
        refine Vs 6 O ?_
        obtain ⟨x, he_x, hm_x⟩ := gE_ row (k) (by omega)
        obtain ⟨b_x, o_x, c_x, ha_x, _, hc_x, hR_x⟩ := hs_row.at he_x
        obtain rfl := hR_x
        refine zm0 4000 0 O O hc_x ?_
        refine V.ix 4000 tR27 ts3 O ha_x (by omega) (_) (rfl) O ?_
        refine Vs 10 O ?_
        refine zlh 59 O (fun w1 => ?_) (fun w1 => ?_)
        ·
         refine Vs 23 O ?_
         refine zjH Tryz.results20 O (fun w hI => ⟨_, rfl, by rw [znq (hno row hm_row (fun h => by have := h.2.1 x hm_x; omega))], hI.k0⟩)
        ·
         refine Vs 5 O ?_
         refine zjn O (fun w2 => ?_) (fun w2 => ?_)
         ·
          refine Vs 17 O ?_
          refine zjH Tryz.results20 O (fun w hI => ⟨_, rfl, by rw [znq (hno row hm_row (fun h => by have := h.2.1 x hm_x; omega))], hI.k0⟩)
         ·
          have hin2 : ∀ n ∈ row.take (k + 1), 0 <= n /\ n <= 1048576 := fun n hn => by
           rw [zh he_x, znw, znv] at hn
           rcases hn with hn | rfl
           . exact hin n hn
           . omega
          have hs2 := zoA he_x
          refine Va 14 O (by omega) ?_
          refine zjy (⟨k + 1, s + x⟩) (zl4 O) (zl5 O) (⟨by omega, hin2, by rw [hs2, hs], by omega, by omega⟩) (by first | omega | (dsimp only; omega)) 0 O O
       ·
        obtain rfl : k = row.length := by omega
        rw [zni] at hin hs
        refine Vs 6 O ?_
        refine zm4 (σ := Int) [1, 6, 36, 37, 38] [1] [1] O (fun e f' => (3, .int .i64 f') :: e) (fun e f' => e) (fun f' => f' = if i = 0 then row.sum else f) (fun _ => rfl) (fun _ => rfl) ?_ ?_
        ·
         refine Vs 6 O ?_
         refine zjn O (fun z0 => ?_) (fun z0 => ?_)
         ·
          refine Vs 4 O ?_
          refine zjD (row.sum) (Sub.cons (by rw [hs]; rfl) (zl4 O)) (zl5 O) (by rw [zno (by omega)]) 0 O O
         ·
          refine Vs 1 O ?_
          refine zjD (f) (zl4 O) (zl5 O) (by rw [znn (by omega)]) 0 O O
        rintro f' hf'
        show V _ _ _ _ _ ((3, .int .i64 f') :: _) _ (_) _
        have hfr : f' = r0.sum := by
         by_cases e : i = 0
         ·
          subst e
          rw [zno rfl] at hf'
          have : row = r0 := by rw [he_r0] at he_row; exact (Option.some.inj he_row).symm
          rw [hf', this]
         ·
          rw [znn e] at hf'
          rw [hf']
          exact hf (by omega)
        refine Vs 7 O ?_
        refine zlh 73 O (fun y0 => ?_) (fun y0 => ?_)
        ·
         refine Vs 21 O ?_
         refine zjH Tryz.results20 O (fun w hI => ⟨_, rfl, by rw [znq (hno row hm_row (fun h => y0 (by rw [hs, hfr]; exact h.2.2.1)))], hI.k0⟩)
        ·
         refine Vs 4 O ?_
         refine zlh 77 O (fun y1 => ?_) (fun y1 => ?_)
         ·
          refine Vs 17 O ?_
          refine zjH Tryz.results20 O (fun w hI => ⟨_, rfl, by rw [znq (hno row hm_row (fun h => by have := h.2.2.2.1; omega))], hI.k0⟩)
         ·
          refine Vs 5 O ?_
          refine zjn O (fun y2 => ?_) (fun y2 => ?_)
          ·
           refine Vs 11 O ?_
           refine zjH Tryz.results20 O (fun w hI => ⟨_, rfl, by rw [znq (hno row hm_row (fun h => by have := h.2.2.2.2; omega))], hI.k0⟩)
          ·
           have hrow : zoT r0 row := ⟨hrl, hin, by omega, by omega, by omega⟩
           have hall2 : ∀ j row, j < i + 1 -> c[j]? = some row -> zoT r0 row := fun j row' hj hr => by
            by_cases e : j = i
            ·
             subst e
             rw [he_row] at hr
             cases hr
             exact hrow
            . exact hall j row' (by omega) hr
           refine Va 7 O (by omega) ?_
           refine zjy (⟨i + 1, f'⟩) (zl4 O) (zl5 O) (⟨by omega, hall2, fun _ => hfr⟩) (by first | omega | (dsimp only; omega)) 0 O O
     ·
      obtain rfl : i = c.length := by omega
      have hres : VMx c := vmx_ref.2 ⟨⟨by omega, by omega, by rw [hhd]; omega, by rw [hhd]; omega⟩, fun row hr => by
       obtain ⟨k, hk⟩ := List.mem_iff_getElem?.1 hr
       rw [hhd]
       exact hall k row (znr.1 hk).1 hk⟩
      refine Vs 11 O ?_
      refine zjH Tryz.results20 O (fun w hI => ⟨_, rfl, by rw [znp hres], hI.k0⟩)
def zoF (l : List Int) : Int := l.foldl max (l.headD 0)
theorem zoU : ∀ (l : List Int) (a : Int), (l.foldl max a = a \/ l.foldl max a ∈ l) /\ a <= l.foldl max a /\ ∀ x ∈ l, x <= l.foldl max a
 | [], a => ⟨.inl rfl, Int.le_refl a, fun x h => by cases h⟩
 | y :: l, a => by
  obtain ⟨h1, h2, h3⟩ := zoU l (max a y)
  rw [List.foldl_cons]
  refine ⟨?_, by omega, fun x hx => ?_⟩
  ·
   rcases h1 with h1 | h1
   ·
    rw [h1]
    by_cases h : a <= y
    . exact .inr (by rw [Int.max_eq_right h]; exact znh ..)
    . exact .inl (by omega)
   . exact .inr (zng _ h1)
  ·
   rcases znt.1 hx with rfl | hx
   . omega
   . exact h3 x hx
theorem zo7 {l : List Int} (h : 0 < l.length) : zoF l ∈ l /\ ∀ x ∈ l, x <= zoF l := by
 obtain ⟨h1, h2, h3⟩ := zoU l (l.headD 0)
 refine ⟨?_, h3⟩
 rcases h1 with h1 | h1
 ·
  show l.foldl max (l.headD 0) ∈ l
  rw [h1]
  cases l with
  | nil => simp at h
  | cons a l => exact znh ..
 . exact h1
theorem zoL {l : List Int} {m : Int} (hm : m ∈ l) (h : ∀ x ∈ l, x <= m) : m = zoF l := by
 obtain ⟨h1, h2⟩ := zo7 (List.length_pos_of_mem hm)
 have := h _ h1
 have := h2 m hm
 omega
theorem zoo (l : List Int) (v : Value) (D : Nat -> Prop) (W : World) (hl : SlR 1 zt D W v l) (hne : 0 < l.length) :
  Calls Tryz.prog 49 #[v] W (Ret fun r w' => r = .int .i64 (zoF l) /\ Ext W w') := by
 obtain ⟨av, cv, rfl⟩ := hl.form
 have hmx := hl.max
 refine zlt Tryz.func49 O Tryz.ntmps49 O (zlE ?_)
 refine Vs 13 O ?_
 refine zjn O (fun h => ?_) (fun h => ?_)
 . omega
 ·
  refine Vs 5 O ?_
  obtain ⟨x, he_x, hm_x⟩ := gE_ l (0) (by omega)
  obtain ⟨b_x, o_x, c_x, ha_x, _, hc_x, hR_x⟩ := hl.at he_x
  obtain rfl := hR_x
  refine zm0 1000 0 O O hc_x ?_
  refine V.ix 1000 tR27 ts3 O ha_x (by omega) (_) (rfl) O ?_
  refine Vs 11 O ?_
  refine zm3 (σ := Nat × Int) [0] [] [] O (fun e ⟨i, m⟩ => (3, .int .i64 m) :: (4, .int .i64 i) :: e) (fun e ⟨i, m⟩ => e) (fun ⟨i, m⟩ => i <= l.length /\ m ∈ l /\ ∀ x ∈ l.take i, x <= m) (fun ⟨i, m⟩ => l.length - i) ((1, x)) (zl4 O) (zl5 O) (fun _ => rfl) (fun _ => rfl) (fun _ => rfl) (⟨by omega, hm_x, by rw [zh he_x]; simp⟩) ?_
  rintro ⟨i, m⟩ ⟨hi, hm, hle⟩
  show V _ _ _ _ _ ((3, .int .i64 m) :: (4, .int .i64 i) :: _) _ (_) _
  refine Vs 9 O ?_
  refine zjn O (fun h1 => ?_) (fun h1 => ?_)
  ·
   refine Vs 8 O ?_
   obtain ⟨y, he_y, hm_y⟩ := gE_ l (i) (by omega)
   obtain ⟨b_y, o_y, c_y, ha_y, _, hc_y, hR_y⟩ := hl.at he_y
   obtain rfl := hR_y
   refine zm0 2000 0 O O hc_y ?_
   refine V.ix 2000 tR27 ts3 O ha_y (by omega) (_) (rfl) O ?_
   refine Va 11 O (by omega) ?_
   refine zjy (⟨i + 1, max m y⟩) (zl4 O) (zl5 O) (⟨by omega, by rw [Int.max_def]; split <;> assumption, fun z hz => by rw [zh he_y, znw, znv] at hz; rcases hz with hz | rfl; (· have := hle z hz; omega); (· omega)⟩) (by first | omega | (dsimp only; omega)) 0 O O
  ·
   obtain rfl : i = l.length := by omega
   rw [zni] at hle
   refine Vs 12 O ?_
   refine zjH Tryz.results49 O (fun w hI => ⟨_, rfl, by rw [zoL hm hle], hI.k0⟩)
theorem zoQ {n : Nat} {l : Mx} (h : 1 <= n) : (jD n l).headD [] = jm l 0 := by
 obtain ⟨m, rfl⟩ : ∃ m, n = m + 1 := ⟨n - 1, by omega⟩
 simp [jD, List.range_succ_eq_map]
theorem zoR {m : Int} : ∀ {l : List Int} {n : Int}, (∀ c ∈ l, c <= m) -> n <= m + 1 -> l.foldl (fun n c => max n (c + 1)) n <= m + 1
 | [], n, _, h => h
 | c :: l, n, hc, h => by
  have := hc c (znh ..)
  exact zoR (l := l) (n := max n (c + 1)) (fun x hx => hc x (zng _ hx)) (by omega)
theorem zoG {p : List Int} (hp : p ≠ []) (hc : ziT p) : nP p = zoF p + 1 := by
 obtain ⟨h1, h2⟩ := zo7 (List.length_pos_iff.2 hp)
 have h3 := zo2 hc h1
 have h4 : nP p <= zoF p + 1 := zoR h2 (by omega)
 omega
theorem zoM (p : List Int) : (ofP p).length = p.length := by simp [ofP]
theorem zoB {c : Mx} (hv : VMx c) (ho : zfG c) : zgL (ofP (yp (zbd c))) = zgL c /\ znR (yp (zbd c)) = 0 := by
 have hne := zok hv
 have hl : (yp (zbd c)).length = c.length := by rw [zdQ]; unfold zbd; rw [znx]
 have hcan := (zax _ (zbd c) rfl).1
 obtain ⟨h1, h2, h3, h4⟩ := znT hne hcan (by rw [hl]; exact hv.r2)
 refine ⟨?_, ?_⟩
 . rw [kh h1, kh hv, zow hv ho (zcQ _) (zcQ _), zoM, hl]
 ·
  unfold znR
  have := hv.r1
  have := hv.r2
  rw [znn (fun h => h.elim (fun h => by omega) fun h => h (canB_iff.2 hcan)), znn (by omega)]
theorem zo8 {p : List Int} (hp : p ≠ []) (hc : ziT p) (hl : p.length <= 256) : znR p = 0 /\ VMx (ofP p) /\ zfG (ofP p) /\ yp (zbd (ofP p)) = p /\ zoO (ofP p) = 1 /\ (zoS (ofP p) : Int) = zoF p + 1 /\ zoF p <= 255 := by
 obtain ⟨h1, h2, h3, h4⟩ := znT hp hc hl
 have h5 := h1.w2
 rw [znQ hp, zoG hp hc] at h5
 refine ⟨?_, h1, h2, by rw [h3, zoI hc], by unfold zoO; rw [zno h1, h4], by rw [zoK hp hc, zoG hp hc], by omega⟩
 unfold znR
 rw [znn (fun h => h.elim (fun h => hp (List.length_eq_zero_iff.1 h)) fun h => h (canB_iff.2 hc)), znn (by omega)]
theorem znZ (c : Mx) (v : Value) (D : Nat -> Prop) (W : World) (hc : SlR 1 (RSl 1 zt) D W v c) : Calls Tryz.prog 40 #[.agg #[v]] W (Ret fun r w' => r = .bool (decide (VMx c /\ zfG c)) /\ Ext W w') := by
 obtain ⟨av, cv, rfl⟩ := hc.form
 have hmx := hc.max
 refine zlt Tryz.func40 O Tryz.ntmps40 O (zlE ?_)
 refine Vs 2 O ?_
 refine V.box 1 O O (fun b1 => ?_)
 refine Vs 7 O ?_
 refine zlT Tryz.call20 O (fun w hI => zjj c _ D w (Tr1 hI.k0 hc)) ?_
 refine zll O (fun w hI => zkO O (by first | exact zb | rfl)) ?_
 refine Vs 2 O ?_
 refine zjn O (fun v0 => ?_) (fun v0 => ?_)
 ·
  refine Vs 7 O ?_
  refine zjH Tryz.results40 O (fun w hI => ⟨_, rfl, by rw [znq (fun h => v0 h.1)], hI.k0⟩)
 ·
  have v0 := znm.1 v0
  refine Vs 12 O ?_
  refine zm3 (σ := Nat) [12, 13] [] [] O (fun e i => (14, .int .i64 i) :: e) (fun e i => e) (fun i => i <= c.length /\ ∀ j row, j < i -> c[j]? = some row -> (row.filter fun n => decide (0 < n)).length = 1) (fun i => c.length - i) (0) (zl4 O) (zl5 O) (fun _ => rfl) (fun _ => rfl) (fun _ => rfl) (⟨zns _, fun j row h => absurd h (Nat.not_lt_zero _)⟩) ?_
  rintro i ⟨hi, hall⟩
  refine Vs 6 O ?_
  refine zjn O (fun hlt => ?_) (fun hlt => ?_)
  ·
   refine Vs 6 O ?_
   obtain ⟨row, he_row, hm_row⟩ := gE_ c (i) (by omega)
   obtain ⟨b_row, o_row, c_row, ha_row, _, hc_row, hR_row⟩ := hc.at he_row
   obtain ⟨v1_row, rfl, hs_row⟩ := hR_row
   obtain ⟨a1_row, n1_row, rfl⟩ := hs_row.form
   refine zm0 1000 0 O O hc_row ?_
   refine V.ix 1000 tR34 ts27 O ha_row (by omega) (_) (rfl) O ?_
   have hwid := v0.wid row hm_row
   have hw2 := v0.w2
   refine Vs 18 O ?_
   refine zm3 (σ := Nat × Nat) [12, 13, 14, 18, 19] [] [] O (fun e ⟨k, n⟩ => (20, .int .i64 k) :: (5, .int .i64 n) :: e) (fun e ⟨k, n⟩ => e) (fun ⟨k, n⟩ => k <= row.length /\ n = ((row.take k).filter fun n => decide (0 < n)).length /\ n <= k) (fun ⟨k, n⟩ => row.length - k) ((0, 0)) (zl4 O) (zl5 O) (fun _ => rfl) (fun _ => rfl) (fun _ => rfl) (⟨zns _, rfl, znC _⟩) ?_
   rintro ⟨k, n⟩ ⟨hk, hn, hnk⟩
   show V _ _ _ _ _ ((20, .int .i64 k) :: (5, .int .i64 n) :: _) _ (_) _
   refine Vs 6 O ?_
   refine zjn O (fun hlt2 => ?_) (fun hlt2 => ?_)
   ·
    refine Vs 6 O ?_
    obtain ⟨x, he_x, hm_x⟩ := gE_ row (k) (by omega)
    obtain ⟨b_x, o_x, c_x, ha_x, _, hc_x, hR_x⟩ := hs_row.at he_x
    obtain rfl := hR_x
    refine zm0 2000 0 O O hc_x ?_
    refine V.ix 2000 tR27 ts3 O ha_x (by omega) (_) (rfl) O ?_
    have htk := zh he_x
    refine Vs 10 O ?_
    refine zjn O (fun g => ?_) (fun g => ?_)
    ·
     refine Va 11 O (by omega) ?_
     refine zjy (⟨k + 1, n + 1⟩) (zl4 O) (zl5 O) (⟨by omega, by rw [htk, List.filter_append, znl, <- hn]; simp [g], by omega⟩) (by first | omega | (dsimp only; omega)) 0 O O
    ·
     refine Va 7 O (by omega) ?_
     refine zjy (⟨k + 1, n⟩) (zl4 O) (zl5 O) (⟨by omega, by rw [htk, List.filter_append, znl, <- hn]; simp [g], by omega⟩) (by first | omega | (dsimp only; omega)) 0 O O
   ·
    obtain rfl : k = row.length := by omega
    rw [zni] at hn
    refine Vs 11 O ?_
    refine zjn O (fun g => ?_) (fun g => ?_)
    ·
     refine Vs 11 O ?_
     refine zjH Tryz.results40 O (fun w hI => ⟨_, rfl, by rw [znq (fun h => g (by have := h.2 row hm_row; omega))], hI.k0⟩)
    ·
     have hnx : ∀ j row, j < i + 1 -> c[j]? = some row -> (row.filter fun n => decide (0 < n)).length = 1 := fun j row' hj hr => by
      by_cases e : j = i
      ·
       subst e
       rw [he_row] at hr
       cases hr
       omega
      . exact hall j row' (by omega) hr
     refine Va 7 O (by omega) ?_
     refine zjy (i + 1) (zl4 O) (zl5 O) (⟨by omega, hnx⟩) (by first | omega | (dsimp only; omega)) 0 O O
  ·
   obtain rfl : i = c.length := by omega
   have ho : zfG c := fun row hr => by
    obtain ⟨k, hk⟩ := List.mem_iff_getElem?.1 hr
    exact hall k row (znr.1 hk).1 hk
   refine Vs 11 O ?_
   refine zjH Tryz.results40 O (fun w hI => ⟨_, rfl, by rw [znp ⟨v0, ho⟩], hI.k0⟩)
theorem zoC (p : Int -> Bool) (l : List Int) (v : Value) (D : Nat -> Prop) (g : FuncId) (W : World) (hf : ∀ args w, (callFunc g args).run Tryz.prog w = .ok (.enter g args) w) (hl : SlR 1 zt D W v l)
  (hc : ∀ (x : Int) (w : World), Ext W w -> x ∈ l -> True -> Calls Tryz.prog g #[.int .i64 x] w (Ret fun r w' => r = .bool (p x) /\ Ext w w')) :
  Calls Tryz.prog 95 #[v, .func (.func g) #[] #[]] W (Ret fun r w' => r = .int .i64 (zh1 p l) /\ Ext W w') := by
 obtain ⟨av, cv, rfl⟩ := hl.form
 have hmx := hl.max
 refine zlu Tryz.func95 O Tryz.ntmps95 O (zlE ?_)
 refine Vs 14 O ?_
 refine zm3 (σ := Nat) [0, 1, 7] [] [] O (fun e i => (8, .int .i64 i) :: e) (fun e i => e) (fun i => i <= l.length /\ (l.take i).any p = false) (fun i => l.length - i) (0) (zl4 O) (zl5 O) (fun _ => rfl) (fun _ => rfl) (fun _ => rfl) (⟨zns _, by simp⟩) ?_
 rintro i ⟨hi, hno⟩
 refine Vs 6 O ?_
 refine zjn O (fun hlt => ?_) (fun hlt => ?_)
 ·
  refine Vs 15 O ?_
  obtain ⟨x, he_x, hm_x⟩ := gE_ l (i) (by omega)
  obtain ⟨b_x, o_x, c_x, ha_x, _, hc_x, hR_x⟩ := hl.at he_x
  obtain rfl := hR_x
  refine zm0 1000 0 O O hc_x ?_
  refine V.ix 1000 tR27 ts3 O ha_x (by omega) (_) (rfl) O ?_
  refine Vs 1 O ?_
  refine zmg hf O (fun w hI => hc x w hI.k0 hm_x (trivial)) ?_
  refine Vs 2 O ?_
  refine V.bool O (fun hp => ?_) (fun hp => ?_)
  ·
   refine Vs 12 O ?_
   refine zjH Tryz.results95 O (fun w hI => ⟨_, rfl, by rw [zf2 hno he_x hp], hI.k0⟩)
  ·
   refine Va 7 O (by omega) ?_
   refine zjy (i + 1) (zl4 O) (zl5 O) (⟨by omega, zde he_x hno hp⟩) (by first | omega | (dsimp only; omega)) 0 O O
 ·
  obtain rfl : i = l.length := by omega
  rw [zni] at hno
  refine Vs 11 O ?_
  refine zjH Tryz.results95 O (fun w hI => ⟨_, rfl, by rw [zc3 hno], hI.k0⟩)
theorem znX (l : List Int) (x : Int) (hx : x ∈ l) (v : Value) (D : Nat -> Prop) (W : World) (hv : SlR 1 zt D W v l) : Calls Tryz.prog 98 #[v, .int .i64 x] W (Ret fun r w' => r = .int .i64 ((l.idxOf x : Nat) : Int) /\ Ext W w') := by
 obtain ⟨av, cv, rfl⟩ := hv.form
 have hmx := hv.max
 refine zlu Tryz.func98 O Tryz.ntmps98 O (zlE ?_)
 refine Vs 14 O ?_
 refine zm3 (σ := Nat) [0, 1, 7] [] [] O (fun e i => (8, .int .i64 i) :: e) (fun e i => e) (fun i => i <= l.length /\ x ∉ l.take i) (fun i => l.length - i) (0) (zl4 O) (zl5 O) (fun _ => rfl) (fun _ => rfl) (fun _ => rfl) (⟨zns _, by simp⟩) ?_
 rintro i ⟨hi, hno⟩
 refine Vs 6 O ?_
 refine zjn O (fun hlt => ?_) (fun hlt => ?_)
 ·
  refine Vs 15 O ?_
  obtain ⟨y, he_y, hm_y⟩ := gE_ l (i) (by omega)
  obtain ⟨b_y, o_y, c_y, ha_y, _, hc_y, hR_y⟩ := hv.at he_y
  obtain rfl := hR_y
  refine zm0 1000 0 O O hc_y ?_
  refine V.ix 1000 tR27 ts3 O ha_y (by omega) (_) (rfl) O ?_
  have htk := zh he_y
  refine Vs 4 O ?_
  refine zjn O (fun e => ?_) (fun e => ?_)
  ·
   have hid : l.idxOf x = i := by
    have h1 : (l.take (i + 1)).idxOf x = i := by
     rw [htk, List.idxOf_append, znn hno, znH]
     simp [e]
     omega
    have h2 : l.idxOf x = (l.take (i + 1)).idxOf x := by
     conv => lhs; rw [<- List.take_append_drop (i + 1) l]
     rw [List.idxOf_append, zno (by rw [htk, e]; simp)]
    omega
   refine Vs 12 O ?_
   refine zjH Tryz.results98 O (fun w hI => ⟨_, rfl, by rw [hid], hI.k0⟩)
  ·
   refine Va 7 O (by omega) ?_
   refine zjy (i + 1) (zl4 O) (zl5 O) (⟨by omega, by rw [htk, znw, znv]; exact fun h => h.elim hno (fun g => e g)⟩) (by first | omega | (dsimp only; omega)) 0 O O
 ·
  obtain rfl : i = l.length := by omega
  rw [zni] at hno
  exact absurd hx hno
theorem zoD (x : Int) (W : World) : Calls Tryz.prog 96 #[.int .i64 x] W (Ret fun r w' => r = .bool (decide (0 < x)) /\ Ext W w') := by
 refine zlt Tryz.func96 O Tryz.ntmps96 O (zlE ?_)
 refine Vs 13 O ?_
 refine zjH Tryz.results96 O (fun w hI => ⟨_, rfl, rfl, hI.k0⟩)
theorem zoN {row : List Int} (h : (row.filter fun n => decide (0 < n)).length = 1) : zh1 (fun n : Int => decide (0 < n)) row = ziz row := by
 unfold zh1 ziz
 obtain ⟨y, hy⟩ := List.exists_mem_of_length_pos (show 0 < (row.filter fun n => decide (0 < n)).length by omega)
 obtain ⟨h4, h5⟩ := List.mem_filter.1 hy
 rw [zno (List.any_eq_true.2 ⟨y, h4, h5⟩)]
theorem zoc (c : Mx) (hv : VMx c) (ho : zfG c) (v : Value) (D : Nat -> Prop) (W : World) (hc : SlR 1 (RSl 1 zt) D W v c) : Calls Tryz.prog 46 #[.agg #[v]] W (Ret fun r w' => SlR 1 zt (fun b => W.heap.size <= b) w' r (yp (zbd c)) /\ Ext W w') := by
 obtain ⟨av, cv, rfl⟩ := hc.form
 have hr2 := hv.r2
 have hll : (zbd c).length = c.length := by simp [zbd]
 refine zlt Tryz.func46 O Tryz.ntmps46 O (zlE ?_)
 refine Vs 2 O ?_
 refine V.box 1 O O (fun b1 => ?_)
 refine Vs 5 O ?_
 refine V.bs0 8 tR27 ts3 O (fun b8 => ?_)
 refine V.bs0 9 tR27 ts3 O (fun b9 => ?_)
 refine Vs 14 O ?_
 refine zm3 (σ := Nat × Value × Value × List Int) [11, 12] [] [] O (fun e ⟨i, u, q, K⟩ => (13, .int .i64 i) :: (3, u) :: (4, q) :: e) (fun e ⟨i, u, q, K⟩ => (8, .row 3 1 u i ((yp ((zbd c).take i)).map zd)) :: (9, .row 3 1 q K.length (K.map zd)) :: e) (fun ⟨i, u, q, K⟩ => i <= c.length /\ K = zv [] ((zbd c).take i)) (fun ⟨i, u, q, K⟩ => c.length - i) ((0, _, _, [])) (zl4 O) (zl5 O) (fun _ => rfl) (fun _ => rfl) (fun _ => rfl) (⟨zns _, rfl⟩) ?_
 rintro ⟨i, u, q, K⟩ ⟨hi, hK⟩
 show V _ _ _ _ _ ((13, .int .i64 i) :: (3, u) :: (4, q) :: _) _ ((8, .row 3 1 u i ((yp ((zbd c).take i)).map zd)) :: (9, .row 3 1 q K.length (K.map zd)) :: _) _
 refine Vs 6 O ?_
 refine zjn O (fun hlt => ?_) (fun hlt => ?_)
 ·
  refine Vs 6 O ?_
  obtain ⟨x, he_x, hm_x⟩ := gE_ c (i) (by omega)
  obtain ⟨b_x, o_x, c_x, ha_x, _, hc_x, hR_x⟩ := hc.at he_x
  obtain ⟨v1_x, rfl, hs_x⟩ := hR_x
  obtain ⟨a1_x, n1_x, rfl⟩ := hs_x.form
  refine zm0 1000 0 O O hc_x ?_
  refine V.ix 1000 tR34 ts27 O ha_x (by omega) (_) (rfl) O ?_
  have hlx : (zbd c)[i]? = some (ziz x) := by unfold zbd; rw [znu, he_x]; rfl
  obtain ⟨hc1, hc2, hc3⟩ := zdS hlx
  have hfl := zfr ((zbd c).take i)
  rw [<- hK, znH] at hfl
  rw [<- hK] at hc2 hc3
  refine Vs 7 O ?_
  refine zlT Tryz.call95 O (fun w hI => zoC (fun n => decide (0 < n)) x _ _ _ w Tryz.call96 (Tr1 hI.k0 hs_x) (fun y w' hE _ _ => zoD y w')) ?_
  rw [zoN (ho x hm_x)]
  refine Vs 8 O ?_
  refine zlT Tryz.call97 O (fun w hI => znV K (ziz x) _ _ w (zkx (D := fun _ => True) zd (fun _ _ => rfl) (hI.at 9 O) (fun _ _ => trivial))) ?_
  refine zll O (fun w hI => zkO O (by first | exact zb | rfl)) ?_
  refine Vs 2 O ?_
  refine zjn O (fun hx => ?_) (fun hx => ?_)
  ·
   have hfn := hc3 hx
   refine Vs 3 O ?_
   refine zm6 25 [(0, _)] tR27 ts3 tz3 (by decide) O O (by kernel_rfl) (fun b25 => ?_)
   refine zlN 9 25 tu27 Tryz.el3 O (by decide) O O (by omega) (by omega) (fun u9 => ?_)
   refine Vs 7 O ?_
   refine zm2 9 O (e' := .row 3 1 u9 (K ++ [ziz x]).length ((K ++ [ziz x]).map zd)) (by rw [znl, List.map_append]; rfl) ?_
   have hin : ziz x ∈ K ++ [ziz x] := by simp
   refine zlT Tryz.call98 O (fun w hI => znX (K ++ [ziz x]) (ziz x) hin _ _ w (zkx (D := fun _ => True) zd (fun _ _ => rfl) (hI.at 9 O) (fun _ _ => trivial))) ?_
   rw [hfn] at hc1
   refine zm6 31 [(0, _)] tR27 ts3 tz3 (by decide) O O (by kernel_rfl) (fun b31 => ?_)
   refine zlN 8 31 tu27 Tryz.el3 O (by decide) O O (by omega) (by omega) (fun u8 => ?_)
   refine Va 8 O (by omega) ?_
   refine zm2 8 O (e' := .row 3 1 u8 (i + 1) ((yp ((zbd c).take (i + 1))).map zd)) (by rw [hc1, List.map_append]; rfl) ?_
   refine zjy (⟨i + 1, u8, u9, K ++ [ziz x]⟩) (zl4 O) (zl5 O) (⟨by omega, hfn.symm⟩) (by first | omega | (dsimp only; omega)) 0 O O
  ·
   have hx := znm.1 hx
   have hfn := hc2 hx
   refine Vs 6 O ?_
   refine zlT Tryz.call98 O (fun w hI => znX K (ziz x) hx _ _ w (zkx (D := fun _ => True) zd (fun _ _ => rfl) (hI.at 9 O) (fun _ _ => trivial))) ?_
   rw [hfn] at hc1
   refine zm6 1031 [(0, _)] tR27 ts3 tz3 (by decide) O O (by kernel_rfl) (fun b1031 => ?_)
   refine zlN 8 1031 tu27 Tryz.el3 O (by decide) O O (by omega) (by omega) (fun u8 => ?_)
   refine Va 8 O (by omega) ?_
   refine zm2 8 O (e' := .row 3 1 u8 (i + 1) ((yp ((zbd c).take (i + 1))).map zd)) (by rw [hc1, List.map_append]; rfl) ?_
   refine zjy (⟨i + 1, u8, q, K⟩) (zl4 O) (zl5 O) (⟨by omega, hfn.symm⟩) (by first | omega | (dsimp only; omega)) 0 O O
 ·
  obtain rfl : i = c.length := by omega
  refine zm2 8 O (e' := .row 3 1 u (yp (zbd c)).length ((yp (zbd c)).map zd)) (by rw [zdQ, hll, <- hll, zni]) ?_
  refine Vs 12 O ?_
  refine zjH Tryz.results46 O (fun w hI => ⟨_, rfl, zkx zd (fun _ _ => rfl) (hI.at 8 O) (fun b hb => hI.own 8 0 O O b hb), hI.k0⟩)
theorem znM (c : Mx) (p : List Int) (v pv : Value) (D D' : Nat -> Prop) (W : World) (hc : SlR 1 (RSl 1 zt) D W v c) (hp : SlR 1 zt D' W pv p) (ht : Tab W) :
  Calls Tryz.prog 11 #[.agg #[v], pv] W (Ret fun r w' => r = .bool true /\ Ext W w') := by
 obtain ⟨ap, cp, rfl⟩ := hp.form
 have hpm := hp.max
 refine zlu Tryz.func11 O Tryz.ntmps11 O (zlE ?_)
 refine Vs 2 O ?_
 refine V.box 2 O O (fun b2 => ?_)
 refine Vs 6 O ?_
 refine zlT Tryz.call12 O (fun w hI => zdZ w (Tr1 hI.k0 ht)) ?_
 refine zll O (fun w hI => zkO O (by first | exact zb | rfl)) ?_
 refine Vs 2 O ?_
 refine V.bool O (fun k0 => ?_) (fun k0 => ?_)
 . cases k0
 ·
  refine Vs 6 O ?_
  refine zlV Tryz.call16 O (fun w hI => zob c 12 _ D w (Tr1 hI.k0 hc)) ?_
  rintro rr w1 w2 hI1 hk12 ⟨q, rfl, hq⟩ hlow
  refine zll O (fun w hI => zkO O (by first | exact zb | rfl)) ?_
  refine Vs 1 O ?_
  refine V.sb 19 O (fun q1 => ?_) (fun q1 => ?_)
  ·
   refine Vs 14 O ?_
   refine zjH Tryz.results11 O (fun w hI => ⟨_, rfl, rfl, hI.k1⟩)
  ·
   refine Vs 6 O ?_
   refine zjn O (fun q2 => ?_) (fun q2 => ?_)
   ·
    refine Vs 7 O ?_
    refine zjH Tryz.results11 O (fun w hI => ⟨_, rfl, rfl, hI.k1⟩)
   ·
    refine Vs 5 O ?_
    refine zlV Tryz.call29 O (fun w hI => zft c _ D w (Tr1 hI.k1 hc)) ?_
    rintro r1 w3 w4 hI3 hk34 ⟨u, rfl, hu1, hu0⟩ hlow1
    refine Vs 13 O ?_
    refine zm4 (σ := Unit) [1, 2, 5, 6] [2] [2] O (fun e y => (7, .int .i64 (if ¬ VMx c then 1 else if ¬ zfG c then 15 else 0)) :: e) (fun e y => e) (fun y => True) (fun _ => rfl) (fun _ => rfl) ?_ ?_
    ·
     refine Vs 3 O ?_
     refine zlT Tryz.call20 O (fun w hI => zjj c _ D w (Tr1 hI.k2 hc)) ?_
     refine zll O (fun w hI => zkO O (by first | exact zb | rfl)) ?_
     refine Vs 2 O ?_
     refine zjn O (fun d1 => ?_) (fun d1 => ?_)
     ·
      refine Vs 3 O ?_
      refine zjD (()) (Sub.cons (by rw [zno d1]; rfl) (zl4 O)) (zl5 O) (True.intro) 0 O O
     ·
      refine Vs 3 O ?_
      refine zlT Tryz.call40 O (fun w hI => znZ c _ D w (Tr1 hI.k2 hc)) ?_
      refine zll O (fun w hI => zkO O (by first | exact zb | rfl)) ?_
      refine Vs 2 O ?_
      refine zjn O (fun d2 => ?_) (fun d2 => ?_)
      ·
       refine Vs 3 O ?_
       refine zjD (()) (Sub.cons (by rw [znn d1, zno (fun h => d2 ⟨znm.1 d1, h⟩)]; rfl) (zl4 O)) (zl5 O) (True.intro) 0 O O
      ·
       refine Vs 1 O ?_
       refine zjD (()) (Sub.cons (by rw [znn d1, znn (znA (znm.1 d2).2)]; rfl) (zl4 O)) (zl5 O) (True.intro) 0 O O
    rintro y -
    refine Vs 8 O ?_
    refine zlh 38 O (fun n1 => ?_) (fun n1 => ?_)
    . exact absurd O n1
    refine Vs 3 O ?_
    refine zlh 41 O (fun n2 => ?_) (fun n2 => ?_)
    ·
     have hvo : VMx c /\ zfG c := by
      by_cases a1 : VMx c
      ·
       by_cases a2 : zfG c
       . exact ⟨a1, a2⟩
       . rw [znn (znA a1), zno a2] at n2; cases n2
      . rw [zno a1] at n2; cases n2
     obtain ⟨hv, ho⟩ := hvo
     have hu := hu1 ⟨hv, ho⟩
     obtain ⟨au, cu, rfl⟩ := hu.form
     obtain ⟨hpl1, hpl2⟩ := zoB hv ho
     have hcl : (yp (zbd c)).length = c.length := by rw [zdQ]; unfold zbd; rw [znx]
     have hr2 := hv.r2
     refine Vs 2 O ?_
     refine zlV Tryz.call46 O (fun w hI => zoc c hv ho _ D w (Tr1 hI.k2 hc)) ?_
     rintro r2 w5 w6 hI5 hk56 h2 hlow2
     refine zlT Tryz.call27 O (fun w hI => zdt (yp (zbd c)) (yp (zbd c)) _ _ _ _ w (hu.keep za hI.k1 (fun b hb _ hs => by have := hlow1 b hs; omega)) (h2.keep za hI.k0 (fun b hb _ hs => by have := hlow2 b hs; omega))) ?_
     refine zll O (fun w hI => zkO O (by first | exact zb | rfl)) ?_
     refine Vs 3 O ?_
     refine zlh 49 O (fun n3 => ?_) (fun n3 => ?_)
     . exact absurd O n3
     refine Vs 3 O ?_
     refine zlh 52 O (fun n4 => ?_) (fun n4 => ?_)
     . exact absurd n2 n4
     refine Vs 17 O ?_
     refine zjn O (fun n5 => ?_) (fun n5 => ?_)
     ·
      refine Vs 3 O ?_
      refine zlV Tryz.call47 O (fun w hI => znL (yp (zbd c)) (by omega) _ _ w (hu.keep za hI.k1 (fun b hb _ hs => by have := hlow1 b hs; omega))) ?_
      rintro r3 w7 w8 hI7 hk78 ⟨u3, rfl, h3, _⟩ hlow3
      have h3 := h3 hpl2
      rw [hpl2]
      obtain ⟨a3, c3, rfl⟩ := h3.form
      refine Vs 3 O ?_
      refine V.alloc 8 tz36 O O (fun b8 => ?_)
      refine Vs 5 O ?_
      refine Vw [2, 8] [] O ?_
      refine Vd [0, 1, 2] 0 (by kernel_rfl) O O O ?_
      refine VD.sp 67 O (fun n6 => ?_) (fun n6 => ?_)
      . exact absurd O n6
      refine Vd [3, 5] 0 (by kernel_rfl) O O O ?_
      refine VD.call2 4 0 Tryz.call17 O (by kernel_rfl) O O (fun w hI => zdr (ofP (yp (zbd c))) _ _ w (h3.keep (yD za) hI.k0 (fun b hb _ hs => by have := hlow3 b hs; omega)) (Tr1 hI.k4 ht)) ?_
      rintro r4 w9 wa hI9 hk9a ⟨u4, rfl, h4⟩ hlow4
      rw [hpl1] at h4
      refine VD.call2 6 1 Tryz.call17 O (by kernel_rfl) O O (fun w hI => zdr c _ D w (Tr1 hI.k5 hc) (Tr1 hI.k5 ht)) ?_
      rintro r5 wb wc hIb hkbc ⟨u5, rfl, h5⟩ hlow5
      refine zlU 7 2 Tryz.call18 O (by kernel_rfl) O O (fun w hI => jF (zgL c) (zgL c) _ _ _ _ w (h4.keep (yD za) hI.k1 (fun b hb _ hs => by have := hlow4 b hs; omega)) (h5.keep (yD za) hI.k0 (fun b hb _ hs => by have := hlow5 b hs; omega))) ?_
      refine zlm 8 2 O (by kernel_rfl) O O (fun w hI => zkO O zb) ?_
      refine Vd [9] 2 (by kernel_rfl) O O O ?_
      refine zkr (by kernel_rfl) ?_
      refine Vs 1 O ?_
      refine zjn O (fun n7 => ?_) (fun n7 => ?_)
      . exact absurd O n7
      refine Vs 5 O ?_
      refine zlV Tryz.call47 O (fun w hI => znL p (by omega) _ D' w (Tr1 hI.k6 hp)) ?_
      rintro ra wa1 wa2 hIa hka ⟨ua, rfl, ha1, ha0⟩ hlowa
      obtain ⟨aa, na, ca, hae⟩ : ∃ a n c, ua = .slice a n c := by
       by_cases hz : znR p = 0
       ·
        obtain ⟨a, c, h⟩ := (ha1 hz).form
        exact ⟨a, _, c, h⟩
       . exact ⟨_, _, _, ha0 hz⟩
      subst hae
      refine Vs 3 O ?_
      refine V.alloc 10 tz36 O O (fun b10 => ?_)
      refine Vs 8 O ?_
      refine zlT Tryz.call48 O (fun w hI => znO p _ D' w (Tr1 hI.k7 hp) (by omega)) ?_
      refine zll O (fun w hI => zkO O (by first | exact zb | rfl)) ?_
      refine Vs 1 O ?_
      refine V.sb 83 O (fun m1 => ?_) (fun m1 => ?_)
      ·
       have hb : ¬ znN 0 p = true := by simpa using m1
       have hof : znR p = 1 := zno (.inr hb)
       obtain ⟨rfl, rfl, rfl⟩ : aa = none /\ na = 0 /\ ca = 0 := by have := ha0 (by rw [hof]; decide); simpa using this
       rw [hof]
       refine Vs 12 O ?_
       refine zlh 90 O (fun m7 => ?_) (fun m7 => ?_)
       ·
        refine Vs 10 O ?_
        refine zjH Tryz.results11 O (fun w hI => ⟨_, rfl, rfl, hI.k7⟩)
       . exact absurd O m7
      ·
       have hcan : ziT p := canB_iff.1 (by simpa using m1)
       refine Vs 6 O ?_
       refine zjn O (fun m2 => ?_) (fun m2 => ?_)
       ·
        have hof : znR p = 1 := zno (.inl (by omega))
        obtain ⟨rfl, rfl, rfl⟩ : aa = none /\ na = 0 /\ ca = 0 := by have := ha0 (by rw [hof]; decide); simpa using this
        rw [hof]
        refine Vs 5 O ?_
        refine zlh 90 O (fun m7 => ?_) (fun m7 => ?_)
        ·
         refine Vs 10 O ?_
         refine zjH Tryz.results11 O (fun w hI => ⟨_, rfl, rfl, hI.k7⟩)
        . exact absurd O m7
       ·
        have hpne : p ≠ [] := fun e => m2 (by rw [e]; rfl)
        obtain ⟨hb0, hb1, hb2, hb3, hb4, hb5, hb6⟩ := zo8 hpne hcan (by omega)
        have hda := ha1 hb0
        obtain ⟨_, _, hdf⟩ := hda.form
        cases hdf
        rw [hb0]
        refine Vs 5 O ?_
        refine zlV Tryz.call29 O (fun w hI => zft (ofP p) _ _ w (hda.keep (yD za) hI.k0 (fun b hb _ hs => by have := hlowa b hs; omega))) ?_
        rintro rb wb1 wb2 hIb hkb ⟨ub, rfl, hub1, hub0⟩ hlowb
        have hub := hub1 ⟨hb1, hb2⟩
        rw [hb3] at hub
        obtain ⟨ab, cb, rfl⟩ := hub.form
        rw [znn (znA hb1), znn (znA hb2)]
        refine Vs 12 O ?_
        refine zlh 103 O (fun m3 => ?_) (fun m3 => ?_)
        ·
         refine Vs 1 O ?_
         refine zlT Tryz.call31 O (fun w hI => znP (ofP p) _ _ w (hda.keep (yD za) hI.k1 (fun b hb _ hs => by have := hlowa b hs; omega))) ?_
         refine Vs 3 O ?_
         refine zlh 108 O (fun m4 => ?_) (fun m4 => ?_)
         ·
          refine Vs 1 O ?_
          refine zlT Tryz.call41 O (fun w hI => znW (ofP p) _ _ w (hda.keep (yD za) hI.k1 (fun b hb _ hs => by have := hlowa b hs; omega))) ?_
          refine Vs 1 O ?_
          refine zlT Tryz.call49 O (fun w hI => zoo p _ D' w (Tr1 hI.k8 hp) (List.length_pos_iff.2 hpne)) ?_
          refine Va 4 O (by omega) ?_
          refine zlh 116 O (fun m5 => ?_) (fun m5 => ?_)
          ·
           refine Vs 4 O ?_
           refine zlh 120 O (fun m6 => ?_) (fun m6 => ?_)
           ·
            refine Vs 2 O ?_
            refine zlT Tryz.call27 O (fun w hI => zdt p p _ _ _ _ w (hub.keep za hI.k0 (fun b hb _ hs => by have := hlowb b hs; omega)) (Tr1 hI.k8 hp)) ?_
            refine Vs 5 O ?_
            refine zjH Tryz.results11 O (fun w hI => ⟨_, rfl, by rw [znp rfl], hI.k8⟩)
           . exact absurd O m6
          . exact absurd (by rw [zno hb1, hb5]) m5
         . exact absurd hb4 m4
        . exact absurd O m3
     . exact absurd n2 n5
    ·
     have hq0 : ¬ (VMx c /\ zfG c) := fun h => n2 (by rw [znn (znA h.1), znn (znA h.2)])
     have hun := hu0 hq0
     subst hun
     refine Vs 11 O ?_
     refine zlh 52 O (fun n4 => ?_) (fun n4 => ?_)
     ·
      refine Vs 7 O ?_
      refine zjn O (fun n6 => ?_) (fun n6 => ?_)
      . exact absurd O n6
      refine Vs 9 O ?_
      refine zjn O (fun n5 => ?_) (fun n5 => ?_)
      . exact absurd n5 n2
      refine Vs 5 O ?_
      refine zlV Tryz.call47 O (fun w hI => znL p (by omega) _ D' w (Tr1 hI.k2 hp)) ?_
      rintro ra wa1 wa2 hIa hka ⟨ua, rfl, ha1, ha0⟩ hlowa
      obtain ⟨aa, na, ca, hae⟩ : ∃ a n c, ua = .slice a n c := by
       by_cases hz : znR p = 0
       ·
        obtain ⟨a, c, h⟩ := (ha1 hz).form
        exact ⟨a, _, c, h⟩
       . exact ⟨_, _, _, ha0 hz⟩
      subst hae
      refine Vs 3 O ?_
      refine V.alloc 1010 tz36 O O (fun b1010 => ?_)
      refine Vs 8 O ?_
      refine zlT Tryz.call48 O (fun w hI => znO p _ D' w (Tr1 hI.k3 hp) (by omega)) ?_
      refine zll O (fun w hI => zkO O (by first | exact zb | rfl)) ?_
      refine Vs 1 O ?_
      refine V.sb 83 O (fun m1 => ?_) (fun m1 => ?_)
      ·
       have hb : ¬ znN 0 p = true := by simpa using m1
       have hof : znR p = 1 := zno (.inr hb)
       obtain ⟨rfl, rfl, rfl⟩ : aa = none /\ na = 0 /\ ca = 0 := by have := ha0 (by rw [hof]; decide); simpa using this
       rw [hof]
       refine Vs 12 O ?_
       refine zlh 90 O (fun m7 => ?_) (fun m7 => ?_)
       ·
        refine Vs 10 O ?_
        refine zjH Tryz.results11 O (fun w hI => ⟨_, rfl, rfl, hI.k3⟩)
       . exact absurd O m7
      ·
       have hcan : ziT p := canB_iff.1 (by simpa using m1)
       refine Vs 6 O ?_
       refine zjn O (fun m2 => ?_) (fun m2 => ?_)
       ·
        have hof : znR p = 1 := zno (.inl (by omega))
        obtain ⟨rfl, rfl, rfl⟩ : aa = none /\ na = 0 /\ ca = 0 := by have := ha0 (by rw [hof]; decide); simpa using this
        rw [hof]
        refine Vs 5 O ?_
        refine zlh 90 O (fun m7 => ?_) (fun m7 => ?_)
        ·
         refine Vs 10 O ?_
         refine zjH Tryz.results11 O (fun w hI => ⟨_, rfl, rfl, hI.k3⟩)
        . exact absurd O m7
       ·
        have hpne : p ≠ [] := fun e => m2 (by rw [e]; rfl)
        obtain ⟨hb0, hb1, hb2, hb3, hb4, hb5, hb6⟩ := zo8 hpne hcan (by omega)
        have hda := ha1 hb0
        obtain ⟨_, _, hdf⟩ := hda.form
        cases hdf
        rw [hb0]
        refine Vs 5 O ?_
        refine zlV Tryz.call29 O (fun w hI => zft (ofP p) _ _ w (hda.keep (yD za) hI.k0 (fun b hb _ hs => by have := hlowa b hs; omega))) ?_
        rintro rb wb1 wb2 hIb hkb ⟨ub, rfl, hub1, hub0⟩ hlowb
        have hub := hub1 ⟨hb1, hb2⟩
        rw [hb3] at hub
        obtain ⟨ab, cb, rfl⟩ := hub.form
        rw [znn (znA hb1), znn (znA hb2)]
        refine Vs 12 O ?_
        refine zlh 103 O (fun m3 => ?_) (fun m3 => ?_)
        ·
         refine Vs 1 O ?_
         refine zlT Tryz.call31 O (fun w hI => znP (ofP p) _ _ w (hda.keep (yD za) hI.k1 (fun b hb _ hs => by have := hlowa b hs; omega))) ?_
         refine Vs 3 O ?_
         refine zlh 108 O (fun m4 => ?_) (fun m4 => ?_)
         ·
          refine Vs 1 O ?_
          refine zlT Tryz.call41 O (fun w hI => znW (ofP p) _ _ w (hda.keep (yD za) hI.k1 (fun b hb _ hs => by have := hlowa b hs; omega))) ?_
          refine Vs 1 O ?_
          refine zlT Tryz.call49 O (fun w hI => zoo p _ D' w (Tr1 hI.k4 hp) (List.length_pos_iff.2 hpne)) ?_
          refine Va 4 O (by omega) ?_
          refine zlh 116 O (fun m5 => ?_) (fun m5 => ?_)
          ·
           refine Vs 4 O ?_
           refine zlh 120 O (fun m6 => ?_) (fun m6 => ?_)
           ·
            refine Vs 2 O ?_
            refine zlT Tryz.call27 O (fun w hI => zdt p p _ _ _ _ w (hub.keep za hI.k0 (fun b hb _ hs => by have := hlowb b hs; omega)) (Tr1 hI.k4 hp)) ?_
            refine Vs 5 O ?_
            refine zjH Tryz.results11 O (fun w hI => ⟨_, rfl, by rw [znp rfl], hI.k4⟩)
           . exact absurd O m6
          . exact absurd (by rw [zno hb1, hb5]) m5
         . exact absurd hb4 m4
        . exact absurd O m3
     . exact absurd n4 (znA n2)
end Go.Proofs.YtaenledoagbddaaGreatDoor
