/-
  Contracts and the mathematics that the proof needs. Nothing here is a claim.
-/
import Derived.Test.YtaenledoagbddaaGreatDoorKX6
import Derived.WalkKit
import Derived.Deep.Quiet
import Derived.Deep.LoopGhost
import Derived.Below
import Derived.OrdersHeld
import Derived.KernelRfl
import Derived.WalkSpells
import Derived.ChangeKeysEq
import Derived.Lib.SliceRun
import Derived.Test.YtaenledoagbddaaGreatDoorRows
import Derived.ProofKit
import Derived.OpenShut
import Derived.ReadAgain
import Derived.ChangeBears
import Derived.Laws.Strings
import Derived.Test.YtaenledoagbddaaGreatDoorProg
import Derived.Lib.AppendStr
import Derived.Lib.SmallJoins
import Derived.Lib.Builder
import Derived.Lib.UnsafeStr
import Derived.Laws.Externs
import Derived.Lib.ItoaNum
import Derived.Lib.ItoaMem
import Derived.Maps.RangeRun
import Derived.MapKept
import Derived.Shelf.Strings.BuilderK
import Derived.Shelf.LaysM
import Derived.Shelf.Strconv.Itoa3
import Derived.Lib.ItoaLen
import Derived.Handed
import Derived.LaidLaws
import Derived.WideKeyMaps
import Derived.DeepKeys4
import Derived.Shelf.SlSortCmp.WholeK
import Derived.Ground.SlsfProg
import Derived.Shelf.SlSortCmp.NoneTotal
import Derived.Shelf.SlSortCmp.Whole1
import Derived.Test.YtaenledoagbddaaGreatDoorTie
import Derived.Test.YtaenledoagbddaaGreatDoorCards
namespace Go.GL
open Go.ChangeShapes Go.WideShapes Go.ChangeAt Go.RowKit
section
variable {H : Type} {enc : TypeId × Value -> H} {P : Program} {w w' W W' : World} {base : Nat} {sp : Nat -> Bool} {held : Bool}
theorem zoJ {b o n : Nat} {cs : List Value} (h : w.cells? base ⟨b, o, none⟩ n = some cs) : cs.length = n /\ Cells w b o cs := by
 obtain ⟨_, h1, h2⟩ := World.cells?_some h
 refine ⟨h1, fun j v hv => ?_⟩
 have hj : j < n := by rw [<- h1]; exact (zo7.1 hv).1
 have := h2 j hj
 rw [hv] at this
 rw [<- this, xl]
theorem zp6 {α : Type} {R : Rel α} {t e : TypeId} {c fuel : Nat} {cs : List Value} {x : DataW H × List MemPlace} (Q : DataW H -> Prop) (ht : P.underlying t = some (.slice e)) (hc : P.cellsOf e = c) (hc0 : 0 < c) (hQ : ∀ es rs, x.1 = .slice es rs -> ∀ d ∈ es, Q d)
  (hR : ∀ (n : Nat) (cs : List Value) (y : DataW H × List MemPlace), Q y.1 -> DataW.trod enc P w base sp held n e cs = some y -> ∃ z, R (fun _ => True) w z cs) (h : DataW.trod enc P w base sp held fuel t cs = some x) : ∃ v l, cs = [v] /\ SlR c R (fun _ => True) w v l /\ (l = [] \/ ∃ es rs, x.1 = .slice es rs /\ es.length = l.length) := by
 rcases DataW.trod_slice ht h with ⟨rfl, _⟩ | ⟨a, len, cap, elems, rest, n, _, rfl, rfl, _, hlc, hcm, hel, hat, _⟩
 . exact ⟨_, [], rfl, SlR.nil, .inl rfl⟩
 ·
  rw [hc] at hat
  have zl : ∀ i : Nat, i < len -> ∃ z cs', w.cells? base (a.add (i * c)) c = some cs' /\ R (fun _ => True) w z cs' := by
   intro i hi
   have h1 := hat i hi
   obtain ⟨y, hy⟩ : ∃ y, elems[i]? = some y := ⟨_, znT (by omega)⟩
   rw [hy, Option.bind_eq_some_iff] at h1
   obtain ⟨cs', h2, h3⟩ := h1
   obtain ⟨z, hz⟩ := hR n cs' y (hQ _ _ rfl _ (List.mem_map.2 ⟨y, znU hy, rfl⟩)) h3
   exact ⟨z, cs', h2, hz⟩
  have hlist : ∀ k, k <= len -> ∃ l : List α, l.length = k /\ ∀ (i : Nat) z, l[i]? = some z -> ∃ cs', w.cells? base (a.add (i * c)) c = some cs' /\ R (fun _ => True) w z cs' := by
   intro k
   induction k with
   | zero => intro _; exact ⟨[], rfl, fun i z h => by simp at h⟩
   | succ k ih =>
    intro hk
    obtain ⟨l, h1, h2⟩ := ih (by omega)
    obtain ⟨z, cs', h3, h4⟩ := zl k (by omega)
    refine ⟨l ++ [z], by simp [h1], fun i y hy => ?_⟩
    by_cases e : i < l.length
    . rw [zoj e] at hy; exact h2 i y hy
    ·
     rw [zok (by omega)] at hy
     have hi : i = k := by
      have := (zo7.1 hy).1
      simp at this; omega
     subst hi
     rw [h1, Nat.sub_self] at hy
     simp at hy
     subst hy
     exact ⟨cs', h3, h4⟩
  obtain ⟨l, hl, hle⟩ := hlist len (zoi _)
  subst hl
  refine ⟨_, l, rfl, ⟨some a, cap, rfl, hlc, by simpa [maxLen] using hcm, fun i z hz => ?_⟩, .inr ⟨_, _, rfl, by simp [hel]⟩⟩
  obtain ⟨cs', h3, h4⟩ := hle i z hz
  obtain ⟨_, h5, h6⟩ := World.cells?_some h3
  have hspot : a.spot = none := by
   have hi : 0 < l.length := by have := (zo7.1 hz).1; omega
   obtain ⟨_, cs0, h7, _⟩ := zl 0 hi
   obtain ⟨_, h8, h9⟩ := World.cells?_some h7
   have h10 := h9 0 hc0
   obtain ⟨u, hu⟩ : ∃ u, cs0[0]? = some u := ⟨_, znT (by omega)⟩
   rw [hu] at h10
   have h11 := World.cell?_spot h10
   simpa [Addr.add] using h11
  obtain ⟨b, o, s⟩ := a
  simp at hspot
  subst hspot
  exact ⟨b, o, cs', rfl, trivial, h5, (zoJ (by rw [xl] at h3; exact h3)).2, h4⟩
theorem zoR {α : Type} {R : Rel α} {t e : TypeId} {c fuel : Nat} {cs : List Value} {x : DataW H × List MemPlace} (ht : P.underlying t = some (.slice e)) (hc : P.cellsOf e = c) (hc0 : 0 < c)
  (hR : ∀ (n : Nat) (cs : List Value) (y : DataW H × List MemPlace), DataW.trod enc P w base sp held n e cs = some y -> ∃ z, R (fun _ => True) w z cs) (h : DataW.trod enc P w base sp held fuel t cs = some x) : ∃ v l, cs = [v] /\ SlR c R (fun _ => True) w v l := by
 obtain ⟨v, l, h1, h2, _⟩ := zp6 (fun _ => True) ht hc hc0 (fun _ _ _ _ _ => trivial) (fun n cs y _ => hR n cs y) h
 exact ⟨v, l, h1, h2⟩
theorem zp7 {e : TypeId} {n : Nat} {cs : List Value} {y : DataW H × List MemPlace} (he : P.underlying e = some (.int .i64)) (h : DataW.trod enc P w base sp held n e cs = some y) : ∃ z, zB (fun _ => True) w z cs := by
 obtain ⟨z, h1, _⟩ := DataW.trod_int he h
 exact ⟨z, h1⟩
end
open Go.ChangeShapes Go.WideShapes Go.ChangeAt Go.RowKit
section
variable {H : Type} {enc : TypeId × Value -> H} {P : Program} {w w' W W' : World} {base : Nat} {sp : Nat -> Bool} {held : Bool}
theorem zox {α : Type} {R : Rel α} {t e : TypeId} {c fuel : Nat} {cs : List Value} {x : DataW H × List MemPlace} (ht : P.underlying t = some (.slice e)) (hc : P.cellsOf e = c) (hc0 : 0 < c)
  (hR : ∀ (n : Nat), fuel = n + 1 -> ∀ (cs : List Value) (y : DataW H × List MemPlace), DataW.trod enc P w base sp held n e cs = some y -> ∃ z, R (fun _ => True) w z cs) (h : DataW.trod enc P w base sp held fuel t cs = some x) : ∃ v l, cs = [v] /\ SlR c R (fun _ => True) w v l := by
 rcases DataW.trod_slice ht h with ⟨rfl, _⟩ | ⟨a, len, cap, elems, rest, n, hfu, rfl, _, _, hlc, hcm, hel, hat, _⟩
 . exact ⟨_, [], rfl, SlR.nil⟩
 ·
  rw [hc] at hat
  have zl : ∀ i : Nat, i < len -> ∃ z cs', w.cells? base (a.add (i * c)) c = some cs' /\ R (fun _ => True) w z cs' := by
   intro i hi
   have h1 := hat i hi
   obtain ⟨y, hy⟩ : ∃ y, elems[i]? = some y := ⟨_, znT (by omega)⟩
   rw [hy, Option.bind_eq_some_iff] at h1
   obtain ⟨cs', h2, h3⟩ := h1
   obtain ⟨z, hz⟩ := hR n hfu cs' y h3
   exact ⟨z, cs', h2, hz⟩
  have hlist : ∀ k, k <= len -> ∃ l : List α, l.length = k /\ ∀ (i : Nat) z, l[i]? = some z -> ∃ cs', w.cells? base (a.add (i * c)) c = some cs' /\ R (fun _ => True) w z cs' := by
   intro k
   induction k with
   | zero => intro _; exact ⟨[], rfl, fun i z h => by simp at h⟩
   | succ k ih =>
    intro hk
    obtain ⟨l, h1, h2⟩ := ih (by omega)
    obtain ⟨z, cs', h3, h4⟩ := zl k (by omega)
    refine ⟨l ++ [z], by simp [h1], fun i y hy => ?_⟩
    by_cases e : i < l.length
    . rw [zoj e] at hy; exact h2 i y hy
    ·
     rw [zok (by omega)] at hy
     have hi : i = k := by
      have := (zo7.1 hy).1
      simp at this; omega
     subst hi
     rw [h1, Nat.sub_self] at hy
     simp at hy
     subst hy
     exact ⟨cs', h3, h4⟩
  obtain ⟨l, hl, hle⟩ := hlist len (zoi _)
  subst hl
  refine ⟨_, l, rfl, some a, cap, rfl, hlc, by simpa [maxLen] using hcm, fun i z hz => ?_⟩
  obtain ⟨cs', h3, h4⟩ := hle i z hz
  obtain ⟨_, h5, h6⟩ := World.cells?_some h3
  have hspot : a.spot = none := by
   have hi : 0 < l.length := by have := (zo7.1 hz).1; omega
   obtain ⟨_, cs0, h7, _⟩ := zl 0 hi
   obtain ⟨_, h8, h9⟩ := World.cells?_some h7
   have h10 := h9 0 hc0
   obtain ⟨u, hu⟩ : ∃ u, cs0[0]? = some u := ⟨_, znT (by omega)⟩
   rw [hu] at h10
   have h11 := World.cell?_spot h10
   simpa [Addr.add] using h11
  obtain ⟨b, o, s⟩ := a
  simp at hspot
  subst hspot
  exact ⟨b, o, cs', rfl, trivial, h5, (zoJ (by rw [xl] at h3; exact h3)).2, h4⟩
theorem zjY {fs : Array Field} {m : Nat} {cs : List Value} {xs : List (DataW H × List MemPlace)} (hx : xs.length = fs.size) (hat : ∀ (i : Nat) (f : Field), fs[i]? = some f -> DataW.trod enc P w base sp held m f.type ((cs.drop f.offset).take (P.cellsOf f.type)) = xs[i]?) (i : Nat) {f : Field} (hf : fs[i]? = some f) {c : Nat} (hc : P.cellsOf f.type = c) :
  ∃ y, DataW.trod enc P w base sp held m f.type ((cs.drop f.offset).take c) = some y := by
 have h := hat i f hf
 have hi := (Array.getElem?_eq_some_iff.1 hf).1
 rw [znT (show i < xs.length by omega), hc] at h
 exact ⟨_, h⟩
end
end Go.GL
namespace Go.Proofs.YtaenledoagbddaaGreatDoor
open Go.GL Go.ChangeShapes Go.WideShapes Go.ChangeAt Go.RowKit
section
variable {H : Type} {enc : TypeId × Value -> H} {w : World} {base : Nat} {sp : Nat -> Bool} {held : Bool}
theorem zp1 : Tryz.prog.cellsOf 3 = 1 := by kernel_rfl
theorem zoS : Tryz.prog.cellsOf 86 = 3 := by kernel_rfl
theorem zoy : Tryz.prog.cellsOf 92 = 10 := by kernel_rfl
set_option maxRecDepth 100000 in
theorem zoT : ∀ (k : Nat) (cs : List Value) (x : DataW H × List MemPlace), DataW.trod enc Tryz.prog w base sp held k 86 cs = some x -> ∃ t, RTm (fun _ => True) w t cs := by
 intro k
 induction k using Nat.strongRecOn with
 | _ k ih =>
 intro cs x h
 obtain ⟨xs, m, hk, _, hl, hx, hat⟩ := DataW.trod_struct Tryz.underlying86 h
 rw [zoS] at hl
 match cs, hl with
 | [c0, c1, c2], _ =>
  obtain ⟨y0, h0⟩ := zjY hx hat 0 rfl (c := 1) (by kernel_rfl)
  obtain ⟨y1, h1⟩ := zjY hx hat 1 rfl (c := 1) (by kernel_rfl)
  obtain ⟨y2, h2⟩ := zjY hx hat 2 rfl (c := 1) (by kernel_rfl)
  obtain ⟨n0, e0, _⟩ := DataW.trod_int Tryz.underlying83 h0
  obtain ⟨n1, e1, _⟩ := DataW.trod_int tu3 h1
  obtain ⟨v, l, e2, hsl⟩ := zox Tryz.underlying84 zoS (by decide) (fun n hn cs y hy => ih n (by omega) cs y hy) h2
  simp at e0 e1 e2
  subst e0; subst e1; subst e2
  exact ⟨.mk n0 n1 l, RTm.put (t := .mk n0 n1 l) hsl⟩
set_option maxRecDepth 100000 in
theorem zp8 : ∀ (k : Nat) (cs : List Value) (x : DataW H × List MemPlace), DataW.trod enc Tryz.prog w base sp held k 92 cs = some x -> ∃ t, RSt (fun _ => True) w t cs := by
 intro k
 induction k using Nat.strongRecOn with
 | _ k ih =>
 intro cs x h
 obtain ⟨xs, m, hk, _, hl, hx, hat⟩ := DataW.trod_struct Tryz.underlying92 h
 rw [zoy] at hl
 match cs, hl with
 | [c0, c1, c2, c3, c4, c5, c6, c7, c8, c9], _ =>
  obtain ⟨y0, h0⟩ := zjY hx hat 0 rfl (c := 1) (by kernel_rfl)
  obtain ⟨y1, h1⟩ := zjY hx hat 1 rfl (c := 1) (by kernel_rfl)
  obtain ⟨y2, h2⟩ := zjY hx hat 2 rfl (c := 1) (by kernel_rfl)
  obtain ⟨y3, h3⟩ := zjY hx hat 3 rfl (c := 1) (by kernel_rfl)
  obtain ⟨y4, h4⟩ := zjY hx hat 4 rfl (c := 3) (by kernel_rfl)
  obtain ⟨y5, h5⟩ := zjY hx hat 5 rfl (c := 1) (by kernel_rfl)
  obtain ⟨y6, h6⟩ := zjY hx hat 6 rfl (c := 1) (by kernel_rfl)
  obtain ⟨y7, h7⟩ := zjY hx hat 7 rfl (c := 1) (by kernel_rfl)
  obtain ⟨n0, e0, _⟩ := DataW.trod_int Tryz.underlying90 h0
  obtain ⟨n1, e1, _⟩ := DataW.trod_int tu3 h1
  obtain ⟨n2, e2, _⟩ := DataW.trod_int tu3 h2
  obtain ⟨n3, e3, _⟩ := DataW.trod_int tu3 h3
  obtain ⟨t, ht⟩ := zoT _ _ _ h4
  obtain ⟨v4, e4, hks⟩ := ht.get
  obtain ⟨v5, l5, e5, hs5⟩ := zox Tryz.underlying24 zoy (by decide) (fun n hn cs y hy => ih n (by omega) cs y hy) h5
  obtain ⟨v6, l6, e6, hs6⟩ := zox Tryz.underlying24 zoy (by decide) (fun n hn cs y hy => ih n (by omega) cs y hy) h6
  obtain ⟨v7, l7, e7, hs7⟩ := zox tu27 zp1 (by decide) (fun n hn cs y hy => zp7 tu3 hy) h7
  simp at e0 e1 e2 e3 e4 e5 e6 e7
  obtain ⟨e4, e42, e43⟩ := e4
  subst e0; subst e1; subst e2; subst e3; subst e4; subst e42; subst e43; subst e5; subst e6; subst e7
  exact ⟨.mk n0 n1 n2 n3 t l5 l6 l7, RSt.put (s := .mk n0 n1 n2 n3 t l5 l6 l7) hks hs5 hs6 hs7⟩
set_option maxRecDepth 100000 in
theorem zp9 (k : Nat) (cs : List Value) (x : DataW H × List MemPlace) (h : DataW.trod enc Tryz.prog w base sp held k 89 cs = some x) : ∃ t, RVr (fun _ => True) w t cs := by
 obtain ⟨xs, m, hk, _, hl, hx, hat⟩ := DataW.trod_struct Tryz.underlying89 h
 rw [show Tryz.prog.cellsOf 89 = 5 by kernel_rfl] at hl
 match cs, hl with
 | [c0, c1, c2, c3, c4], _ =>
  obtain ⟨y0, h0⟩ := zjY hx hat 0 rfl (c := 1) (by kernel_rfl)
  obtain ⟨y1, h1⟩ := zjY hx hat 1 rfl (c := 1) (by kernel_rfl)
  obtain ⟨y2, h2⟩ := zjY hx hat 2 rfl (c := 1) (by kernel_rfl)
  obtain ⟨y3, h3⟩ := zjY hx hat 3 rfl (c := 1) (by kernel_rfl)
  obtain ⟨y4, h4⟩ := zjY hx hat 4 rfl (c := 1) (by kernel_rfl)
  obtain ⟨n0, e0, _⟩ := DataW.trod_string tu9 h0
  obtain ⟨n1, e1, _⟩ := DataW.trod_int Tryz.underlying53 h1
  obtain ⟨n2, e2, _⟩ := DataW.trod_int tu3 h2
  obtain ⟨n3, e3, _⟩ := DataW.trod_int tu3 h3
  obtain ⟨n4, e4, _⟩ := DataW.trod_int tu3 h4
  simp at e0 e1 e2 e3 e4
  subst e0; subst e1; subst e2; subst e3; subst e4
  exact ⟨⟨n0, n1, n2, n3, n4⟩, rfl⟩
set_option maxRecDepth 100000 in
theorem zpa (k : Nat) (cs : List Value) (x : DataW H × List MemPlace) (h : DataW.trod enc Tryz.prog w base sp held k 95 cs = some x) : ∃ t, RHt (fun _ => True) w t cs := by
 obtain ⟨xs, m, hk, _, hl, hx, hat⟩ := DataW.trod_struct Tryz.underlying95 h
 rw [show Tryz.prog.cellsOf 95 = 6 by kernel_rfl] at hl
 match cs, hl with
 | [c0, c1, c2, c3, c4, c5], _ =>
  obtain ⟨y0, h0⟩ := zjY hx hat 0 rfl (c := 1) (by kernel_rfl)
  obtain ⟨y1, h1⟩ := zjY hx hat 1 rfl (c := 1) (by kernel_rfl)
  obtain ⟨y2, h2⟩ := zjY hx hat 2 rfl (c := 1) (by kernel_rfl)
  obtain ⟨y3, h3⟩ := zjY hx hat 3 rfl (c := 3) (by kernel_rfl)
  obtain ⟨n0, e0, _⟩ := DataW.trod_string tu9 h0
  obtain ⟨n1, e1, _⟩ := DataW.trod_int tu3 h1
  obtain ⟨n2, e2, _⟩ := DataW.trod_int tu3 h2
  obtain ⟨t, ht⟩ := zoT _ _ _ h3
  obtain ⟨v3, e3, hks⟩ := ht.get
  simp at e0 e1 e2 e3
  obtain ⟨e3, e32, e33⟩ := e3
  subst e0; subst e1; subst e2; subst e3; subst e32; subst e33
  exact ⟨⟨n0, n1, n2, t⟩, _, rfl, hks⟩
set_option maxRecDepth 100000 in
theorem zoU {r : Reach} {b0 : Nat} {v : Value} {d : DataW H} {ps : List MemPlace} (hval : Value.okWide Tryz.prog w r b0 26 v) (hd : DataW.Trod enc Tryz.prog w base sp held 26 v d ps) :
  ∃ f v1 v2 v3, v = .agg #[v1, v2, v3] /\ RFl (fun _ => True) w f v1 v2 v3 := by
 unfold Value.okWide at hval
 rw [Tryz.underlying26] at hval
 obtain ⟨cs, rfl, hsz, _⟩ := hval
 obtain ⟨k, hn⟩ := hd
 obtain ⟨xs, m, _, _, hl, hx, hat⟩ := DataW.trod_struct Tryz.underlying26 hn
 rw [show Tryz.prog.cellsOf 26 = 3 by kernel_rfl] at hsz
 obtain ⟨l⟩ := cs
 match l, hsz with
 | [c0, c1, c2], _ =>
  obtain ⟨y0, h0⟩ := zjY hx hat 0 rfl (c := 1) (by kernel_rfl)
  obtain ⟨y1, h1⟩ := zjY hx hat 1 rfl (c := 1) (by kernel_rfl)
  obtain ⟨y2, h2⟩ := zjY hx hat 2 rfl (c := 1) (by kernel_rfl)
  obtain ⟨v0, l0, e0, hs0⟩ := zoR Tryz.underlying22 (show Tryz.prog.cellsOf 89 = 5 by kernel_rfl) (by decide) (fun n cs y hy => zp9 n cs y hy) h0
  obtain ⟨v1, l1, e1, hs1⟩ := zoR Tryz.underlying23 (show Tryz.prog.cellsOf 95 = 6 by kernel_rfl) (by decide) (fun n cs y hy => zpa n cs y hy) h1
  obtain ⟨v2, l2, e2, hs2⟩ := zoR Tryz.underlying24 zoy (by decide) (fun n cs y hy => zp8 n cs y hy) h2
  simp [Value.cells] at e0 e1 e2
  subst e0; subst e1; subst e2
  exact ⟨⟨l0, l1, l2⟩, _, _, _, rfl, hs0, hs1, hs2⟩
end
open Go.GL
def zk2 : List Vr -> Int
 | [] => 1
 | v :: vs => (v.high - v.low + 1) * zk2 vs
theorem zk0 : ∀ {vs : List Vr}, (∀ v ∈ vs, 1 <= v.high - v.low + 1) -> 1 <= zk2 vs
 | [], _ => Int.le_refl _
 | v :: vs, h => by
  have h1 := h v (znX ..)
  have h2 := zk0 (vs := vs) fun x hx => h x (znW _ hx)
  have : (1 : Int) * 1 <= (v.high - v.low + 1) * zk2 vs := Int.mul_le_mul h1 h2 (by omega) (by omega)
  exact this
theorem zor {k : Int} : ∀ (vs : List Vr) (n m : Int), (∀ v ∈ vs, v.kind = k) -> zY k vs n = some m -> m = n * zk2 vs
 | [], n, m, _, h => by simp only [zY, Option.some.injEq] at h; rw [<- h, zk2, Int.mul_one]
 | v :: vs, n, m, hk, h => by
  simp only [zY] at h
  rw [zo4 (hk v (znX ..))] at h
  split at h
  . cases h
  . rw [zor vs _ m (fun x hx => hk x (znW _ hx)) h, zk2, Int.mul_assoc]
theorem zoQ {k : Int} {vs : List Vr} {m : Int} (h : zk k vs = some m) : m = zk2 (ze k vs) := by
 unfold zk at h
 rw [<- yJ] at h
 rw [zor (ze k vs) _ _ (fun v hv => of_decide_eq_true (List.mem_filter.1 hv).2) h, Int.one_mul]
theorem zk1 : ∀ {vs : List Vr} {r : Int}, 0 <= r -> (∀ v ∈ vs, 1 <= v.high - v.low + 1) -> (yt vs r).2 = r / zk2 vs
 | [], r, _, _ => by simp [yt, zk2]
 | v :: vs, r, h0, h => by
  have h1 := h v (znX ..)
  have hp := zk0 (vs := vs) fun x hx => h x (znW _ hx)
  rw [yt]
  simp only
  rw [zk1 h0 fun x hx => h x (znW _ hx), Int.tdiv_eq_ediv_of_nonneg (Int.ediv_nonneg h0 (by omega)), Int.ediv_ediv, zo3 (by omega), zk2, Int.mul_comm (v.high - v.low + 1), Int.sub_zero]
theorem zou {r : Int} (h0 : 0 <= r) : ∀ {vs : List Vr} {i : Nat} {x : Vr}, (∀ v ∈ vs, 1 <= v.high - v.low + 1) -> vs[i]? = some x -> (yt vs r).1[i]? = some (x.low + (r / zk2 (vs.drop (i + 1))).tmod (x.high - x.low + 1))
 | [], _, _, _, hx => by simp at hx
 | v :: vs, 0, x, h, hx => by
  simp only [List.getElem?_cons_zero, Option.some.injEq] at hx
  subst hx
  simp only [yt, List.getElem?_cons_zero, List.drop_succ_cons, List.drop_zero]
  rw [zk1 h0 fun x hx => h x (znW _ hx)]
 | v :: vs, i + 1, x, h, hx => by
  simp only [List.getElem?_cons_succ] at hx
  simp only [yt, List.getElem?_cons_succ, List.drop_succ_cons]
  exact zou h0 (fun x hx => h x (znW _ hx)) hx
theorem zoE (vs : List Vr) (k r : Int) (vv : Value) (D : Nat -> Prop) (W : World) (hk : 0 <= k /\ k <= 3) (hg : ∀ v ∈ vs, yp (v.low, v.high)) (hlen : vs.length <= 1000000) (hvs : SlR 5 RVr D W vv vs) :
  Calls Tryz.prog 26 #[vv, .int .i64 k, .int .i64 r] W (Ret fun rr w' => (∃ u, rr = .tuple #[u, .int .i64 (zz k vs r)] /\ (zz k vs r ≠ 0 -> u = .slice none 0 0) /\ (zz k vs r = 0 -> SlR 1 zB (fun b => W.heap.size <= b) w' u (yt (ze k vs) r).1)) /\ Ext W w') := by
 have hgo : ∀ v ∈ ze k vs, yp (v.low, v.high) := fun v hv => hg v (List.mem_filter.1 hv).1
 have hgs : ∀ v ∈ ze k vs, 1 <= v.high - v.low + 1 := fun v hv => by have := hgo v hv; unfold yp at this; dsimp only at this; omega
 have hol := znZ (xQ k vs) hlen
 have hul := zaM (ze k vs) r
 refine zmc Tryz.func26 O Tryz.ntmps26 O (zmm ?_)
 refine Vs 10 O ?_
 refine zmB Tryz.call36 O (fun w hI => jp vs k vv D w hk hg hlen (Tr1 hI.k0 hvs)) ?_
 refine Vs 14 O ?_
 refine zk7 O (fun c0 => ?_) (fun c0 => ?_)
 ·
  have hc : ¬ (zk k vs).isSome = true := fun h => c0 (zo4 h)
  have hC : zz k vs r = 4 := by unfold zz; rw [zo3 hc]
  refine Vs 9 O ?_
  refine zku Tryz.results26 O O (fun w hI => ⟨_, rfl, ⟨_, by rw [hC, zo3 hc], fun _ => rfl, fun h => by rw [hC] at h; cases h⟩, hI.k0⟩)
 ·
  have hc : (zk k vs).isSome = true := by
   cases h : (zk k vs).isSome with
   | true => rfl
   | false => rw [h] at c0; exact absurd (by decide) c0
  have hN := zh6 hg hc
  obtain ⟨m, hm⟩ := Option.isSome_iff_exists.1 hc
  have hmp := zoQ hm
  have hU : zz k vs r = if r < 0 \/ m <= r then 3 else 0 := by unfold zz; rw [zo4 hc, hm]; rfl
  rw [hm] at hN
  simp only [Option.getD_some] at hN
  rw [hm]
  simp only [Option.getD_some]
  refine Vs 8 O ?_
  refine V.sp 25 O (fun r0 => ?_) (fun r0 => ?_)
  ·
   have hC : zz k vs r = 3 := by rw [hU, zo4 (.inl r0)]
   refine Vs 15 O ?_
   refine zku Tryz.results26 O O (fun w hI => ⟨_, rfl, ⟨_, by rw [hC], fun _ => rfl, fun h => by rw [hC] at h; cases h⟩, hI.k0⟩)
  ·
   refine Vs 6 O ?_
   refine zk7 O (fun r1 => ?_) (fun r1 => ?_)
   ·
    have hC : zz k vs r = 3 := by rw [hU, zo4 (.inr r1)]
    refine Vs 8 O ?_
    refine zku Tryz.results26 O O (fun w hI => ⟨_, rfl, ⟨_, by rw [hC], fun _ => rfl, fun h => by rw [hC] at h; cases h⟩, hI.k0⟩)
   ·
    have hC : zz k vs r = 0 := by rw [hU, zo3 (by omega)]
    refine Vs 6 O ?_
    refine zmD Tryz.call28 O (fun w hI => zhb vs k vv D w (Tr1 hI.k0 hvs) hlen) ?_
    rintro l w1 w2 hI1 hk12 hos hlow
    obtain ⟨al, cl, rfl⟩ := hos.form
    have hml := hos.max
    refine Vs 5 O ?_
    refine V.bs0 33 tR27 ts3 O (fun b33 => ?_)
    refine Vs 10 O ?_
    refine zmL (σ := Nat × Int × Value) [2, 10] [] [] O (fun e ⟨i, n, v⟩ => (12, .int .i64 i) :: (8, .int .i64 n) :: (11, v) :: e) (fun e ⟨i, n, v⟩ => (33, .row 3 1 v i (((yt (ze k vs) r).1.take i).map zd)) :: e) (fun ⟨i, n, v⟩ => i <= (ze k vs).length /\ n = zk2 ((ze k vs).drop i) /\ n <= 4096) (fun ⟨i, n, v⟩ => (ze k vs).length - i) ((0, m, .slice (some ⟨b33, 0, none⟩) 0 0)) (zlO O) (zlP O) (fun _ => rfl) (fun _ => rfl) (fun _ => rfl) (⟨zo8 _, hmp, hN⟩) ?_
    rintro ⟨i, n, v⟩ ⟨hi, hn, hn4⟩
    show V _ _ _ _ _ ((12, .int .i64 i) :: (8, .int .i64 n) :: (11, v) :: _) _ ((33, .row 3 1 v i (((yt (ze k vs) r).1.take i).map zd)) :: _) _
    refine Vs 9 O ?_
    refine zk7 O (fun hlt => ?_) (fun hlt => ?_)
    ·
     refine Vs 5 O ?_
     obtain ⟨x, he_x, hm_x⟩ := gE_ (ze k vs) (i) (by omega)
     obtain ⟨b_x, o_x, c_x, ha_x, hd_x, hc_x, hR_x⟩ := hos.atD he_x
     obtain rfl := hR_x
     refine zmJ 1000 0 O O (fun h_ => by have h1_ := hlow _ h_; have h2_ := hd_x; first | omega | exact h1_ h2_) hc_x ?_
     have hgx := hgo x hm_x
     unfold yp at hgx
     dsimp only at hgx
     have hdx := yU he_x
     have hp1 := zk0 (vs := (ze k vs).drop (i + 1)) fun y hy => hgs y (List.mem_of_mem_drop hy)
     have hn' : n.tdiv (x.high - x.low + 1) = zk2 ((ze k vs).drop (i + 1)) := by
      rw [hn, hdx, zk2, Int.mul_tdiv_cancel_left _ (by omega)]
     have hn1 : 1 <= n := by rw [hn]; exact zk0 fun y hy => hgs y (List.mem_of_mem_drop hy)
     have hle := Int.tdiv_le_self (x.high - x.low + 1) (show 0 <= n by omega)
     have hq0 := Int.tdiv_nonneg (show 0 <= r by omega) (show 0 <= n.tdiv (x.high - x.low + 1) by omega)
     have hq1 := Int.tdiv_le_self (n.tdiv (x.high - x.low + 1)) (show 0 <= r by omega)
     have hr0 := Int.tmod_nonneg (x.high - x.low + 1) hq0
     have hr1 := Int.tmod_lt_of_pos (r.tdiv (n.tdiv (x.high - x.low + 1))) (show 0 < x.high - x.low + 1 by omega)
     have zl := zou (r := r) (by omega) hgs he_x
     rw [<- Int.tdiv_eq_ediv_of_nonneg (by omega), <- hn'] at zl
     refine Vq (by kernel_rfl) ?_
     refine Vs 2 O ?_
     refine zmt 1000 tR22 ts89 O ha_x (by omega) (_) (rfl) O ?_
     refine Vs 4 O ?_
     refine zmt 1000 tR22 ts89 O ha_x (by omega) (_) (rfl) O ?_
     refine Va 11 O (by omega) ?_
     refine zm2 O (fun w hI => R.quo O O (by omega) (by omega)) ?_
     refine Vs 3 O ?_
     refine Vw [1000] [] O ?_
     refine Vd [0, 1, 2, 6, 7, 9] 0 (by kernel_rfl) O O O ?_
     refine VD.ix 3 1000 tR22 ts89 O (by kernel_rfl) O ha_x (by omega) (_) (rfl) O ?_
     refine Vd [4, 5] 0 (by kernel_rfl) O O O ?_
     refine VD.pl 8 O (by kernel_rfl) O (fun w => R.quo O O (by omega) (by omega)) ?_
     refine VD.pl 10 O (by kernel_rfl) O (fun w => R.rem O O (by omega) (by omega)) ?_
     refine Vb [11] 0 (by kernel_rfl) O O O (by omega) ?_
     refine zmP 12 67 0 [(0, _)] tR27 ts3 tz3 (by decide) O (by kernel_rfl) O O (by kernel_rfl) (fun b67 => ?_)
     refine zmw 13 33 67 0 tu27 Tryz.el3 O (by decide) O (by kernel_rfl) O O O (by omega) (by omega) (fun u33 => ?_)
     refine Vd [14] 0 (by kernel_rfl) O O O ?_
     refine zlb (by kernel_rfl) ?_
     refine Vs 2 O ?_
     refine zmK 33 O (e' := .row 3 1 u33 (i + 1) (((yt (ze k vs) r).1.take (i + 1)).map zd)) (by rw [List.take_add_one, zl, List.map_append]; rfl) ?_
     refine Va 5 O (by omega) ?_
     refine zki (⟨i + 1, n.tdiv (x.high - x.low + 1), u33⟩) (zlO O) (zlP O) (⟨by omega, hn', by omega⟩) (by first | omega | (dsimp only; omega)) 0 O O
    ·
     have : i = (ze k vs).length := by omega
     subst this
     refine zmK 33 O (e' := .row 3 1 v (yt (ze k vs) r).1.length ((yt (ze k vs) r).1.map zd)) (by rw [<- hul, znY]) ?_
     refine Vs 13 O ?_
     refine zku Tryz.results26 O O (fun w hI => ⟨_, rfl, ⟨_, by rw [hC], fun h => absurd hC h, fun _ => zlh zd (fun _ _ => rfl) (hI.at 33 O) (fun b hb => hI.own 33 1 O O b hb)⟩, hI.k1⟩)
section
variable {α : Type} [DecidableEq α]
theorem zoV {β : Type} [DecidableEq β] (f : α -> β) (y : β) (x : α) : ∀ {L : List α}, L.Nodup -> (L.map fun o => if f o = y then (if x = o then 1 else 0) else 0).sum = if x ∈ L /\ f x = y then 1 else 0
 | [], _ => by simp
 | o :: L, h => by
  rw [List.nodup_cons] at h
  rw [List.map_cons, List.sum_cons, zoV f y x h.2]
  by_cases e : x = o
  ·
   subst e
   rw [zo3 (show ¬ (x ∈ L /\ f x = y) from fun g => h.1 g.1)]
   by_cases g : f x = y
   . rw [zo4 g, zo4 rfl, zo4 ⟨znX .., g⟩]
   . rw [zo3 g, zo3 (fun k => g k.2)]
  ·
   have : (if f o = y then (if x = o then 1 else 0) else 0) = 0 := by
    rw [zo3 e]
    split <;> rfl
   rw [this, Nat.zero_add]
   by_cases g : x ∈ L /\ f x = y
   . rw [zo4 g, zo4 ⟨znW _ g.1, g.2⟩]
   . rw [zo3 g, zo3 (fun k => g ⟨(zo9.1 k.1).elim (fun h => absurd h e) id, k.2⟩)]
omit [DecidableEq α] in
theorem zpb {L : List α} (u v : α -> Nat) : (L.map fun o => u o + v o).sum = (L.map u).sum + (L.map v).sum := by
 induction L with
 | nil => rfl
 | cons o L ih => rw [List.map_cons, List.sum_cons, ih, List.map_cons, List.sum_cons, List.map_cons, List.sum_cons]; omega
theorem zoz {β : Type} [DecidableEq β] (f : α -> β) (ob : Nat -> α) (y : β) {L : List α} (hn : L.Nodup) : ∀ {n : Nat}, (∀ r, r < n -> ob r ∈ L) -> zgx (fun r => f (ob r)) n y = (L.map fun o => if f o = y then zgx ob n o else 0).sum
 | 0, hq => by
  show 0 = _
  have : (L.map fun o => if f o = y then zgx ob 0 o else 0) = L.map fun _ => 0 := List.map_congr_left fun o _ => by
   split <;> rfl
  rw [this]
  clear hn this hq
  induction L with
  | nil => rfl
  | cons o L ih => rw [List.map_cons, List.sum_cons, <- ih]
 | n + 1, h => by
  rw [zfS, zoz f ob y hn fun r hr => h r (by omega)]
  have h1 : (L.map fun o => if f o = y then zgx ob (n + 1) o else 0) = L.map fun o => (if f o = y then zgx ob n o else 0) + (if f o = y then (if ob n = o then 1 else 0) else 0) := List.map_congr_left fun o _ => by
   rw [zfS]
   by_cases e : f o = y
   . rw [zo4 e, zo4 e, zo4 e]
   . rw [zo3 e, zo3 e, zo3 e]
  rw [h1, zpb, zoV f y (ob n) hn]
  congr 1
  by_cases e : f (ob n) = y
  . rw [zo4 e, zo4 ⟨h n (by omega), e⟩]
  . rw [zo3 e, zo3 (fun g => e g.2)]
end
open Go.GL
theorem zoK (f : Fl) (pub : List Int) (t : Bool) (s : Nat) : (zjM f pub t s).length = rnN f := by simp [zjM]
theorem zoL {f : Fl} {pub : List Int} {t : Bool} {s r : Nat} (h : r < rnN f) : (zjM f pub t s)[r]? = some (obX f pub t s r) := by unfold zjM; rw [zoa, List.getElem?_range h]; rfl
def zpg (r0 row : List Int) : Prop := row.length = r0.length /\ (∀ n ∈ row, 0 <= n /\ n <= 1048576) /\ row.sum = r0.sum /\ 1 <= row.sum /\ row.sum <= 1048576
theorem zp2 {l : List Int} {k : Nat} {x : Int} (h : l[k]? = some x) : (l.take (k + 1)).sum = (l.take k).sum + x := by rw [zg h, List.sum_append]; simp
theorem zk3 (c : Mx) (v : Value) (D : Nat -> Prop) (W : World) (hc : SlR 1 (RSl 1 zB) D W v c) : Calls Tryz.prog 20 #[.agg #[v]] W (Ret fun r w' => r = .bool (decide (VMx c)) /\ Ext W w') := by
 obtain ⟨av, cv, rfl⟩ := hc.form
 have hmx := hc.max
 refine zma Tryz.func20 O Tryz.ntmps20 O (zmm ?_)
 refine Vs 2 O ?_
 refine V.box 1 O O (fun b1 => ?_)
 refine Vs 11 O ?_
 refine V.sp 13 O (fun g0 => ?_) (fun g0 => ?_)
 ·
  refine Vs 31 O ?_
  refine zkr Tryz.results20 O (fun w hI => ⟨_, rfl, by rw [zo6 (fun h => by have := h.r1; omega)], hI.k0⟩)
 ·
  refine Vs 6 O ?_
  refine V.sp 19 O (fun g1 => ?_) (fun g1 => ?_)
  ·
   refine Vs 25 O ?_
   refine zkr Tryz.results20 O (fun w hI => ⟨_, rfl, by rw [zo6 (fun h => by have := h.r2; omega)], hI.k0⟩)
  ·
   obtain ⟨r0, he_r0, hm_r0⟩ := gE_ c (0) (by omega)
   obtain ⟨b_r0, o_r0, c_r0, ha_r0, _, hc_r0, hR_r0⟩ := hc.at he_r0
   obtain ⟨v1_r0, rfl, hs_r0⟩ := hR_r0
   obtain ⟨a1_r0, n1_r0, rfl⟩ := hs_r0.form
   refine zmI 1000 0 O O hc_r0 ?_
   have hhd : c.headD [] = r0 := by
    cases c with
    | nil => simp at he_r0
    | cons a c => simpa using he_r0
   refine Vs 2 O ?_
   refine V.ix 1000 tR34 ts27 O ha_r0 (by omega) (0) (by omega) O ?_
   refine Vs 5 O ?_
   refine V.sp 27 O (fun g2 => ?_) (fun g2 => ?_)
   ·
    refine Vs 17 O ?_
    refine zkr Tryz.results20 O (fun w hI => ⟨_, rfl, by rw [zo6 (fun h => by have := h.w1; rw [hhd] at this; omega)], hI.k0⟩)
   ·
    refine Vs 2 O ?_
    refine V.ix 1000 tR34 ts27 O ha_r0 (by omega) (0) (by omega) O ?_
    refine Vs 6 O ?_
    refine zk7 O (fun g3 => ?_) (fun g3 => ?_)
    ·
     refine Vs 7 O ?_
     refine zkr Tryz.results20 O (fun w hI => ⟨_, rfl, by rw [zo6 (fun h => by have := h.w2; rw [hhd] at this; omega)], hI.k0⟩)
    ·
     have hno : ∀ row ∈ c, ¬ zpg r0 row -> ¬ VMx c := fun row hr hb h => hb (by have := (vmx_ref.1 h).2 row hr; rwa [hhd] at this)
     refine Vs 17 O ?_
     refine zmL (σ := Nat × Int) [1, 36, 37] [1] [1] O (fun e ⟨i, f⟩ => (38, .int .i64 i) :: (3, .int .i64 f) :: e) (fun e ⟨i, f⟩ => e) (fun ⟨i, f⟩ => i <= c.length /\ (∀ j row, j < i -> c[j]? = some row -> zpg r0 row) /\ (0 < i -> f = r0.sum)) (fun ⟨i, f⟩ => c.length - i) ((0, 0)) (zlO O) (zlP O) (fun _ => rfl) (fun _ => rfl) (fun _ => rfl) (⟨zo8 _, fun j row h => absurd h (Nat.not_lt_zero _), fun h => absurd h (Nat.lt_irrefl 0)⟩) ?_
     rintro ⟨i, f⟩ ⟨hi, hall, hf⟩
     show V _ _ _ _ _ ((38, .int .i64 i) :: (3, .int .i64 f) :: _) _ (_) _
     refine Vs 6 O ?_
     refine zk7 O (fun hlt => ?_) (fun hlt => ?_)
     ·
      obtain ⟨r1, he_r1, hm_r1⟩ := gE_ c (0) (by omega)
      obtain ⟨b_r1, o_r1, c_r1, ha_r1, _, hc_r1, hR_r1⟩ := hc.at he_r1
      obtain ⟨v1_r1, rfl, hs_r1⟩ := hR_r1
      obtain ⟨a1_r1, n1_r1, rfl⟩ := hs_r1.form
      refine zmI 2000 0 O O hc_r1 ?_
      have hr1 : r1 = r0 := by rw [he_r0] at he_r1; exact (Option.some.inj he_r1).symm
      have hrl1 : r1.length = r0.length := by rw [hr1]
      refine Vs 7 O ?_
      obtain ⟨row, he_row, hm_row⟩ := gE_ c (i) (by omega)
      obtain ⟨b_row, o_row, c_row, ha_row, _, hc_row, hR_row⟩ := hc.at he_row
      obtain ⟨v1_row, rfl, hs_row⟩ := hR_row
      obtain ⟨a1_row, n1_row, rfl⟩ := hs_row.form
      refine zmI 3000 0 O O hc_row ?_
      refine V.ix 3000 tR34 ts27 O ha_row (by omega) (_) (rfl) O ?_
      refine Vs 12 O ?_
      refine V.ix 2000 tR34 ts27 O ha_r1 (by omega) (0) (by omega) O ?_
      refine Vs 5 O ?_
      refine zk7 O (fun w0 => ?_) (fun w0 => ?_)
      ·
       refine Vs 12 O ?_
       refine zkr Tryz.results20 O (fun w hI => ⟨_, rfl, by rw [zo6 (hno row hm_row (fun h => w0 (by have := h.1; omega)))], hI.k0⟩)
      ·
       have hrl : row.length = r0.length := by omega
       refine Vs 16 O ?_
       refine zmL (σ := Nat × Int) [1, 3, 4, 36, 37, 38, 51, 52] [1] [1] O (fun e ⟨k, s⟩ => (53, .int .i64 k) :: (6, .int .i64 s) :: e) (fun e ⟨k, s⟩ => e) (fun ⟨k, s⟩ => k <= row.length /\ (∀ n ∈ row.take k, 0 <= n /\ n <= 1048576) /\ s = (row.take k).sum /\ 0 <= s /\ s <= k * 1048576) (fun ⟨k, s⟩ => row.length - k) ((0, 0)) (zlO O) (zlP O) (fun _ => rfl) (fun _ => rfl) (fun _ => rfl) (⟨zo8 _, fun n hn => by simp at hn, rfl, Int.le_refl 0, by omega⟩) ?_
       rintro ⟨k, s⟩ ⟨hk, hin, hs, hs0, hs1⟩
       show V _ _ _ _ _ ((53, .int .i64 k) :: (6, .int .i64 s) :: _) _ (_) _
       refine Vs 6 O ?_
       refine zk7 O (fun hlt2 => ?_) (fun hlt2 => ?_)
       ·
        refine Vs 6 O ?_
        obtain ⟨x, he_x, hm_x⟩ := gE_ row (k) (by omega)
        obtain ⟨b_x, o_x, c_x, ha_x, _, hc_x, hR_x⟩ := hs_row.at he_x
        obtain rfl := hR_x
        refine zmI 4000 0 O O hc_x ?_
        refine V.ix 4000 tR27 ts3 O ha_x (by omega) (_) (rfl) O ?_
        refine Vs 10 O ?_
        refine V.sp 59 O (fun w1 => ?_) (fun w1 => ?_)
        ·
         refine Vs 23 O ?_
         refine zkr Tryz.results20 O (fun w hI => ⟨_, rfl, by rw [zo6 (hno row hm_row (fun h => by have := h.2.1 x hm_x; omega))], hI.k0⟩)
        ·
         refine Vs 5 O ?_
         refine zk7 O (fun w2 => ?_) (fun w2 => ?_)
         ·
          refine Vs 17 O ?_
          refine zkr Tryz.results20 O (fun w hI => ⟨_, rfl, by rw [zo6 (hno row hm_row (fun h => by have := h.2.1 x hm_x; omega))], hI.k0⟩)
         ·
          have hin2 : ∀ n ∈ row.take (k + 1), 0 <= n /\ n <= 1048576 := fun n hn => by
           rw [zg he_x, zoc, zob] at hn
           rcases hn with hn | rfl
           . exact hin n hn
           . omega
          have hs2 := zp2 he_x
          refine Va 14 O (by omega) ?_
          refine zki (⟨k + 1, s + x⟩) (zlO O) (zlP O) (⟨by omega, hin2, by rw [hs2, hs], by omega, by omega⟩) (by first | omega | (dsimp only; omega)) 0 O O
       ·
        obtain rfl : k = row.length := by omega
        rw [znY] at hin hs
        refine Vs 6 O ?_
        refine zmM (σ := Int) [1, 6, 36, 37, 38] [1] [1] O (fun e f' => (3, .int .i64 f') :: e) (fun e f' => e) (fun f' => f' = if i = 0 then row.sum else f) (fun _ => rfl) (fun _ => rfl) ?_ ?_
        ·
         refine Vs 6 O ?_
         refine zk7 O (fun z0 => ?_) (fun z0 => ?_)
         ·
          refine Vs 4 O ?_
          refine zkn (row.sum) (Sub.cons (by rw [hs]; rfl) (zlO O)) (zlP O) (by rw [zo4 (by omega)]) 0 O O
         ·
          refine Vs 1 O ?_
          refine zkn (f) (zlO O) (zlP O) (by rw [zo3 (by omega)]) 0 O O
        rintro f' hf'
        show V _ _ _ _ _ ((3, .int .i64 f') :: _) _ (_) _
        have hfr : f' = r0.sum := by
         by_cases e : i = 0
         ·
          subst e
          rw [zo4 rfl] at hf'
          have : row = r0 := by rw [he_r0] at he_row; exact (Option.some.inj he_row).symm
          rw [hf', this]
         ·
          rw [zo3 e] at hf'
          rw [hf']
          exact hf (by omega)
        refine Vs 7 O ?_
        refine V.sp 73 O (fun y0 => ?_) (fun y0 => ?_)
        ·
         refine Vs 21 O ?_
         refine zkr Tryz.results20 O (fun w hI => ⟨_, rfl, by rw [zo6 (hno row hm_row (fun h => y0 (by rw [hs, hfr]; exact h.2.2.1)))], hI.k0⟩)
        ·
         refine Vs 4 O ?_
         refine V.sp 77 O (fun y1 => ?_) (fun y1 => ?_)
         ·
          refine Vs 17 O ?_
          refine zkr Tryz.results20 O (fun w hI => ⟨_, rfl, by rw [zo6 (hno row hm_row (fun h => by have := h.2.2.2.1; omega))], hI.k0⟩)
         ·
          refine Vs 5 O ?_
          refine zk7 O (fun y2 => ?_) (fun y2 => ?_)
          ·
           refine Vs 11 O ?_
           refine zkr Tryz.results20 O (fun w hI => ⟨_, rfl, by rw [zo6 (hno row hm_row (fun h => by have := h.2.2.2.2; omega))], hI.k0⟩)
          ·
           have hrow : zpg r0 row := ⟨hrl, hin, by omega, by omega, by omega⟩
           have hall2 : ∀ j row, j < i + 1 -> c[j]? = some row -> zpg r0 row := fun j row' hj hr => by
            by_cases e : j = i
            ·
             subst e
             rw [he_row] at hr
             cases hr
             exact hrow
            . exact hall j row' (by omega) hr
           refine Va 7 O (by omega) ?_
           refine zki (⟨i + 1, f'⟩) (zlO O) (zlP O) (⟨by omega, hall2, fun _ => hfr⟩) (by first | omega | (dsimp only; omega)) 0 O O
     ·
      obtain rfl : i = c.length := by omega
      have hres : VMx c := vmx_ref.2 ⟨⟨by omega, by omega, by rw [hhd]; omega, by rw [hhd]; omega⟩, fun row hr => by
       obtain ⟨k, hk⟩ := List.mem_iff_getElem?.1 hr
       rw [hhd]
       exact hall k row (zo7.1 hk).1 hk⟩
      refine Vs 11 O ?_
      refine zkr Tryz.results20 O (fun w hI => ⟨_, rfl, by rw [zo5 hres], hI.k0⟩)
theorem zoM {α : Type} (g : α -> Nat) : ∀ L : List α, (L.map fun o => ((g o : Nat) : Int)).sum = (((L.map g).sum : Nat) : Int)
 | [] => rfl
 | o :: L => by rw [List.map_cons, List.map_cons, List.sum_cons, List.sum_cons, zoM g L]; omega
theorem zpc {α : Type} [DecidableEq α] {ob : Nat -> α} {n : Nat} {L : List α} (hn : L.Nodup) (hm : ∀ r, r < n -> ob r ∈ L) : (L.map fun o => zgx ob n o).sum = n := by
 have h := zoz (fun _ => ()) ob () hn hm
 simp only [if_true] at h
 rw [<- h]
 unfold zgx
 simp
theorem zoN (x : Ob) : ∀ l : List Ob, (zhK x l).length <= l.length + 1
 | [] => zoi _
 | y :: l => by
  have := zoN x l
  simp only [zhK]
  split
  . simp
  split
  . simp
  . simp; omega
theorem zoF : ∀ l : List Ob, (zeE l).length <= l.length
 | [] => zoi _
 | x :: l => by
  have h1 := zoF l
  have h2 := zoN x (zeE l)
  show (zhK x (zeE l)).length <= l.length + 1
  omega
section
variable {f : Fl} {pub : List Int} {t : Bool}
theorem zoG : ∀ (L : List Nat), (L.flatMap (zjM f pub t)).length = L.length * rnN f
 | [] => by simp
 | s :: L => by rw [List.flatMap_cons, zo1, zoK, zoG L, zom, Nat.succ_mul]; omega
theorem zp3 : (ziS f pub t).length <= spN f * rnN f := by
 have h := zoF ((List.range (spN f)).flatMap (zjM f pub t))
 rw [zoG, List.length_range] at h
 exact h
theorem zov : (ziS f pub t).Nodup := zfE (zaP _)
theorem zoA {s r : Nat} (hs : s < spN f) (hr : r < rnN f) : obX f pub t s r ∈ ziS f pub t :=
 zaO.2 (List.mem_flatMap.2 ⟨s, List.mem_range.2 hs, znU (zoL hr)⟩)
theorem zpd {o : Ob} (h : o ∈ ziS f pub t) : ∃ s r, s < spN f /\ r < rnN f /\ o = obX f pub t s r := by
 obtain ⟨s, hs, h1⟩ := List.mem_flatMap.1 (zaO.1 h)
 obtain ⟨r, hr⟩ := List.mem_iff_getElem?.1 h1
 have hl := (zo7.1 hr).1
 rw [zoK] at hl
 rw [zoL hl] at hr
 exact ⟨s, r, List.mem_range.1 hs, hl, (Option.some.inj hr).symm⟩
def zoO (f : Fl) (pub : List Int) (t : Bool) (s : Nat) : List Int := (ziS f pub t).map fun o => ((zgx (obX f pub t s) (rnN f) o : Nat) : Int)
theorem zoB : (mxO f pub t).length = spN f := by simp [mxO]
theorem zos {s : Nat} (h : s < spN f) : (mxO f pub t)[s]? = some (zoO f pub t s) := by unfold mxO; rw [zoa, List.getElem?_range h]; rfl
theorem zoH {row : List Int} (h : row ∈ mxO f pub t) : ∃ s, s < spN f /\ row = zoO f pub t s := by
 obtain ⟨s, hs, rfl⟩ := List.mem_map.1 h
 exact ⟨s, List.mem_range.1 hs, rfl⟩
theorem zjZ (s : Nat) : (zoO f pub t s).length = (ziS f pub t).length := by simp [zoO]
theorem zpe {s : Nat} {n : Int} (h : n ∈ zoO f pub t s) : 0 <= n /\ n <= (rnN f : Int) := by
 obtain ⟨o, _, rfl⟩ := List.mem_map.1 h
 have := zij (obX f pub t s) (rnN f) o
 omega
theorem zoP {s : Nat} (h : s < spN f) : (zoO f pub t s).sum = (rnN f : Int) := by
 unfold zoO
 rw [zoM, zpc zov fun r hr => zoA h hr]
theorem zp4 (h : 1 <= spN f) : (mxO f pub t).headD [] = zoO f pub t 0 := by
 have h0 := zos (pub := pub) (t := t) h
 cases hm : mxO f pub t with
 | nil => rw [hm] at h0; cases h0
 | cons x l => rw [hm] at h0; exact Option.some.inj h0
theorem zp5 (h1 : 1 <= spN f) (h2 : 1 <= rnN f) : 1 <= (ziS f pub t).length := List.length_pos_of_mem (zoA h1 h2)
theorem zoW (h1 : 1 <= spN f) (h2 : 1 <= rnN f) (h3 : spN f <= 256) (h4 : rnN f <= 4096) (h5 : (ziS f pub t).length <= 256) : VMx (mxO f pub t) := by
 have hh := zp4 (pub := pub) (t := t) h1
 have hs := zoP (pub := pub) (t := t) h1
 have hp := zp5 (pub := pub) (t := t) h1 h2
 refine ⟨?_, ?_, ?_, ?_, fun row hr => ?_, fun row hr n hn => ?_, ?_, ?_, fun row hr => ?_⟩
 . rw [zoB]; exact h1
 . rw [zoB]; exact h3
 . rw [hh, zjZ]; exact hp
 . rw [hh, zjZ]; exact h5
 ·
  obtain ⟨s, _, rfl⟩ := zoH hr
  rw [hh, zjZ, zjZ]
 ·
  obtain ⟨s, _, rfl⟩ := zoH hr
  exact (zpe hn).1
 . rw [hh, hs]; omega
 . rw [hh, hs]; omega
 ·
  obtain ⟨s, hs', rfl⟩ := zoH hr
  rw [hh, hs, zoP hs']
end
theorem zoX {α : Type} (p : α -> Prop) [DecidablePred p] (g : α -> Nat) : ∀ L : List α, (((L.map fun o => if p o then g o else 0).sum : Nat) : Int) = (L.map fun o => if p o then ((g o : Nat) : Int) else 0).sum
 | [] => rfl
 | o :: L => by
  rw [List.map_cons, List.map_cons, List.sum_cons, List.sum_cons, <- zoX p g L]
  split <;> omega
theorem zoY {f : Fl} {pub : List Int} {s : Nat} (hs : s < spN f) {o : Ob} (ho : o ∈ ziS f pub false) : o.2 = 0 /\ ((zgx (obX f pub false s) (rnN f) o : Nat) : Int) = ((ziS f pub true).map fun p => if o.1 = p.1 then ((zgx (obX f pub true s) (rnN f) p : Nat) : Int) else 0).sum := by
 obtain ⟨s', r', _, _, e⟩ := zpd ho
 have h0 : o.2 = 0 := by rw [e]; rfl
 refine ⟨h0, ?_⟩
 have h := zoz (fun p : Ob => ((p.1, 0) : Ob)) (obX f pub true s) o zov fun r hr => zoA hs hr
 rw [show (fun r => ((obX f pub true s r).1, (0 : Int))) = obX f pub false s from rfl] at h
 rw [h, zoX]
 congr 1
 refine List.map_congr_left fun p _ => ?_
 by_cases e : o.1 = p.1
 . rw [zo4 e, zo4 (by rw [<- e, <- h0])]
 . rw [zo3 e, zo3 (fun g => e (by rw [<- g]))]
open Go.GL
theorem zoq {f : Fl} {a b c : Int} (h : FitC f a b c) (ha : a <= 16) (hc : c <= 4) {pub : List Int} {t : Bool} : spN f <= 16 /\ rnN f <= 4 /\ (ziS f pub t).length <= 64 := by
 have h1 := h.sp
 have h2 := h.rn
 have h3 : spN f * rnN f <= 16 * 4 := Nat.mul_le_mul (by omega) (by omega)
 have h4 := zp3 (f := f) (pub := pub) (t := t)
 omega
theorem zoZ {f : Fl} {a b c : Int} (h : FitC f a b c) (ha : a <= 16) (hc : c <= 4) {pub : List Int} {t : Bool} : xA f pub t = if (qH 2 f.vars pub).2 ≠ 0 then (if (qH 2 f.vars pub).2 = 2 then 1 else (qH 2 f.vars pub).2) else 0 := by
 obtain ⟨h1, h2, h3⟩ := zoq h ha hc (pub := pub) (t := t)
 unfold xA
 rw [zo3 (zog h.vd.ok)]
 split
 . rfl
 . rw [zo3 (by omega), zo3 (by omega)]
theorem zow {f : Fl} {a b c : Int} (h : FitC f a b c) (ha : a <= 16) (hc : c <= 4) {pub : List Int} {t : Bool} : VMx (mxO f pub t) := by
 obtain ⟨h1, h2, h3⟩ := zoq h ha hc (pub := pub) (t := t)
 exact zoW (zg2 h.vd).2.1 (zg3 h.vd).2.1 (by omega) (by omega) (by omega)
theorem zot {n : Int} (h0 : 0 <= n) : ∀ (vs : List Vr), (∀ v ∈ vs, 1 <= v.high - v.low + 1) -> ∀ m, ∃ k, zdo vs (yt vs n).1 m = some k
 | [], _, m => ⟨m, rfl⟩
 | v :: vs, hv, m => by
  have hr := zk1 h0 fun x hx => hv x (znW _ hx)
  have hp := zk0 (vs := vs) fun x hx => hv x (znW _ hx)
  have hs := hv v (znX ..)
  have h1 : 0 <= (yt vs n).2 := by rw [hr]; exact Int.ediv_nonneg h0 (by omega)
  have h2 := Int.tmod_nonneg (v.high - v.low + 1) h1
  have h3 := Int.tmod_lt_of_pos (yt vs n).2 (show 0 < v.high - v.low + 1 by omega)
  show ∃ k, zdo (v :: vs) ((v.low + (yt vs n).2.tmod (v.high - v.low + 1)) :: (yt vs n).1) m = some k
  simp only [zdo]
  rw [zo3 (by omega)]
  exact zot h0 vs (fun x hx => hv x (znW _ hx)) _
theorem zoC {f : Fl} (vd : Valid f) {n : Int} (h : zz 2 f.vars n = 0) : (qH 2 f.vars (yt (ze 2 f.vars) n).1).2 = 0 := by
 unfold zz at h
 split at h
 ·
  rename_i hs
  split at h
  . cases h
  ·
   rename_i hn
   obtain ⟨k, hk⟩ := zot (n := n) (by omega) (ze 2 f.vars) (fun v hv => by have := vd.good v (List.mem_filter.1 hv).1; unfold yp at this; omega) 0
   unfold qH
   rw [zo4 hs, zo4 (zaM _ _), hk]
 . cases h
theorem zoD {f : Fl} {a b c : Int} (h : FitC f a b c) (ha : a <= 16) (hc : c <= 4) {n : Int} (hn : zz 2 f.vars n = 0) {t : Bool} : xA f (yt (ze 2 f.vars) n).1 t = 0 := by
 rw [zoZ h ha hc, zoC h.vd hn]
 rfl
def tmS (f : Fl) (pub : List Int) (x : Nat) (o : Ob) (z : Nat) : Int := (((ziS f pub true).take z).map fun p => if o.1 = p.1 then ((zgx (obX f pub true x) (rnN f) p : Nat) : Int) else 0).sum
theorem zp0 {f : Fl} {pub : List Int} {x z : Nat} {o p : Ob} (hp : (ziS f pub true)[z]? = some p) : tmS f pub x o (z + 1) = tmS f pub x o z + if o.1 = p.1 then ((zgx (obX f pub true x) (rnN f) p : Nat) : Int) else 0 := by
 unfold tmS
 rw [zg hp, List.map_append, List.sum_append]
 simp
theorem zpf {f : Fl} {pub : List Int} {x : Nat} {o : Ob} (vd : Valid f) : ∀ z, 0 <= tmS f pub x o z /\ tmS f pub x o z <= z * 4096
 | 0 => by simp [tmS]
 | z + 1 => by
  have ih := zpf (pub := pub) (x := x) (o := o) vd z
  by_cases hz : z < (ziS f pub true).length
  ·
   rw [zp0 (znT hz)]
   have h1 := zij (obX f pub true x) (rnN f) (ziS f pub true)[z]
   have h2 := (zg3 vd).2.2
   split <;> omega
  ·
   have : tmS f pub x o (z + 1) = tmS f pub x o z := by unfold tmS; rw [List.take_of_length_le (by omega), List.take_of_length_le (by omega)]
   rw [this]
   omega
theorem zoI (f : Fl) (n : Int) (v1 v2 v3 : Value) (D : Nat -> Prop) (W : World) (hf : RFl D W f v1 v2 v3) (ht : Tab W) :
  Calls Tryz.prog 6 #[.agg #[v1, v2, v3], .int .i64 n] W (Ret fun r w' => r = .bool true /\ Ext W w') := by
 refine zmb Tryz.func6 O Tryz.ntmps6 O (zmm ?_)
 refine Vs 2 O ?_
 refine V.box 2 O O (fun b2 => ?_)
 refine Vs 6 O ?_
 refine zmB Tryz.call12 O (fun w hI => zeQ w (Tr1 hI.k0 ht)) ?_
 refine zm2 O (fun w hI => zly O (by first | exact za | rfl)) ?_
 refine Vs 2 O ?_
 refine V.bool O (fun k0 => ?_) (fun k0 => ?_)
 . cases k0
 ·
  refine Vs 6 O ?_
  refine zmD Tryz.call25 O (fun w hI => ziO f 16 4 4 _ _ _ D w (Tr1 hI.k0 hf)) ?_
  rintro rr w1 w2 hI1 hk12 ⟨q, rfl, hq⟩ hlow
  refine zm2 O (fun w hI => zly O (by first | exact za | rfl)) ?_
  refine Vs 2 O ?_
  refine V.bool O (fun q1 => ?_) (fun q1 => ?_)
  ·
   refine Vs 7 O ?_
   refine zkr Tryz.results6 O (fun w hI => ⟨_, rfl, rfl, hI.k1⟩)
  ·
   have hfit := hq (by simpa using q1)
   have vd := hfit.vd
   refine Vs 7 O ?_
   refine zmD Tryz.call26 O (fun w hI => zoE f.vars 2 n _ D w (by decide) vd.good (by have := hfit.vars; omega) (Tr1 hI.k1 hf.vars)) ?_
   rintro r1 w3 w4 hI3 hk34 ⟨ul, rfl, hl0, hl1⟩ hlow1
   refine Vs 14 O ?_
   refine zk7 O (fun e0 => ?_) (fun e0 => ?_)
   ·
    refine Vs 7 O ?_
    refine zkr Tryz.results6 O (fun w hI => ⟨_, rfl, rfl, hI.k2⟩)
   ·
    have e0 := zo2.1 e0
    have hl := hl1 e0
    have hc := fun t => zoD hfit (by decide) (by decide) e0 (t := t)
    generalize (yt (ze 2 f.vars) n).1 = pub at *
    obtain ⟨al, cl, rfl⟩ := hl.form
    obtain ⟨g1, g2, g3⟩ := zoq hfit (by decide) (by decide) (pub := pub) (t := true)
    obtain ⟨_, _, g4⟩ := zoq hfit (by decide) (by decide) (pub := pub) (t := false)
    have hva := zow hfit (by decide) (by decide) (pub := pub) (t := true)
    have hvb := zow hfit (by decide) (by decide) (pub := pub) (t := false)
    refine Vs 6 O ?_
    refine zmR [Value.slice none 0 0, Value.bool false] [(0, 1), (1, 1)] [(0, _), (1, _)] O O (fun _ => by kernel_rfl) ?_
    refine zmD Tryz.call15 O (fun w hI => ziM f vd.size vd.bulk pub true _ _ _ _ D _ w (Tr1 hI.k2 hf) (hl.keep zc hI.k0 (fun b hb _ hs => by have := hlow1 b hs; omega)) (Tr1 hI.k2 ht)) ?_
    rintro r2 w5 w6 hI5 hk56 ⟨ua, oa, rfl, _, hua⟩ hlow2
    obtain ⟨hma, hoa⟩ := hua (hc true)
    rw [hc true]
    obtain ⟨a1, c1, rfl⟩ := hma.form
    obtain ⟨a2, c2, rfl⟩ := hoa.form
    refine Vs 4 O ?_
    refine V.alloc 7 tz36 O O (fun b7 => ?_)
    refine Vs 9 O ?_
    refine zmR [Value.slice none 0 0, Value.bool false] [(0, 1), (1, 1)] [(0, _)] O O (fun _ => by kernel_rfl) ?_
    refine zmD Tryz.call15 O (fun w hI => ziM f vd.size vd.bulk pub false _ _ _ _ D _ w (Tr1 hI.k3 hf) (hl.keep zc hI.k1 (fun b hb _ hs => by have := hlow1 b hs; omega)) (Tr1 hI.k3 ht)) ?_
    rintro r3 w7 w8 hI7 hk78 ⟨ub, ob, rfl, _, hub⟩ hlow3
    obtain ⟨hmb, hob⟩ := hub (hc false)
    rw [hc false]
    obtain ⟨a3, c3, rfl⟩ := hmb.form
    obtain ⟨a4, c4, rfl⟩ := hob.form
    have hla := zoB (f := f) (pub := pub) (t := true)
    have hlb := zoB (f := f) (pub := pub) (t := false)
    obtain ⟨_, hs1, hs2⟩ := zg2 vd
    refine Vs 4 O ?_
    refine V.alloc 9 tz36 O O (fun b9 => ?_)
    refine Vs 11 O ?_
    refine V.sp 50 O (fun z1 => ?_) (fun z1 => ?_)
    . exact absurd O z1
    refine Vs 4 O ?_
    refine V.sp 54 O (fun z2 => ?_) (fun z2 => ?_)
    . exact absurd O z2
    refine Vs 1 O ?_
    refine zmB Tryz.call20 O (fun w hI => zk3 (mxO f pub true) _ _ w (hma.keep (yV zc) hI.k1 (fun b hb _ hs => by have := hlow2 b hs; omega))) ?_
    refine zm2 O (fun w hI => zly O (by first | exact za | rfl)) ?_
    refine Vs 2 O ?_
    refine V.sp 59 O (fun z3 => ?_) (fun z3 => ?_)
    . exact absurd hva z3
    refine Vs 1 O ?_
    refine zmB Tryz.call20 O (fun w hI => zk3 (mxO f pub false) _ _ w (hmb.keep (yV zc) hI.k0 (fun b hb _ hs => by have := hlow3 b hs; omega))) ?_
    refine zm2 O (fun w hI => zly O (by first | exact za | rfl)) ?_
    refine Vs 2 O ?_
    refine V.sp 64 O (fun z4 => ?_) (fun z4 => ?_)
    . exact absurd hvb z4
    refine Vs 9 O ?_
    refine V.sp 73 O (fun z5 => ?_) (fun z5 => ?_)
    . exact absurd (by rw [hla, hlb]) z5
    refine Vs 2 O ?_
    obtain ⟨ra, he_ra, hm_ra⟩ := gE_ (mxO f pub true) (0) (by omega)
    obtain ⟨b_ra, o_ra, c_ra, ha_ra, hd_ra, hc_ra, hR_ra⟩ := hma.atD he_ra
    obtain ⟨v1_ra, rfl, hs_ra⟩ := hR_ra
    obtain ⟨a1_ra, n1_ra, rfl⟩ := hs_ra.form
    refine zmJ 1000 1 O O (fun h_ => by have h1_ := hlow2 _ h_; have h2_ := hd_ra; first | omega | exact h1_ h2_) hc_ra ?_
    refine V.ix 1000 tR34 ts27 O ha_ra (by omega) (_) (rfl) O ?_
    have hra : ra = zoO f pub true 0 := by rw [zos (by omega)] at he_ra; exact (Option.some.inj he_ra).symm
    refine Vs 7 O ?_
    refine V.sp 83 O (fun z6 => ?_) (fun z6 => ?_)
    . exact absurd (by rw [hra, zjZ]) z6
    refine Vs 2 O ?_
    obtain ⟨rb, he_rb, hm_rb⟩ := gE_ (mxO f pub false) (0) (by omega)
    obtain ⟨b_rb, o_rb, c_rb, ha_rb, hd_rb, hc_rb, hR_rb⟩ := hmb.atD he_rb
    obtain ⟨v1_rb, rfl, hs_rb⟩ := hR_rb
    obtain ⟨a1_rb, n1_rb, rfl⟩ := hs_rb.form
    refine zmJ 2000 0 O O (fun h_ => by have h1_ := hlow3 _ h_; have h2_ := hd_rb; first | omega | exact h1_ h2_) hc_rb ?_
    refine V.ix 2000 tR34 ts27 O ha_rb (by omega) (_) (rfl) O ?_
    have hrb : rb = zoO f pub false 0 := by rw [zos (by omega)] at he_rb; exact (Option.some.inj he_rb).symm
    refine Vs 8 O ?_
    refine zk7 O (fun z7 => ?_) (fun z7 => ?_)
    . exact absurd (by rw [hrb, zjZ]) z7
    refine Vs 12 O ?_
    refine zmL (σ := Nat) [7, 8, 9, 10, 95] [7, 9] [7, 9] O (fun e x => (96, .int .i64 x) :: e) (fun e x => e) (fun x => x <= spN f) (fun x => spN f - x) (0) (zlO O) (zlP O) (fun _ => rfl) (fun _ => rfl) (fun _ => rfl) (zo8 _) ?_
    rintro x hx
    refine Vs 6 O ?_
    refine zk7 O (fun lt => ?_) (fun lt => ?_)
    ·
     rw [hlb] at lt
     refine Vs 18 O ?_
     refine zmL (σ := Nat) [7, 8, 9, 10, 12, 95, 96, 99, 100] [7, 9] [7, 9] O (fun e y => (101, .int .i64 y) :: e) (fun e y => e) (fun y => y <= (ziS f pub false).length) (fun y => (ziS f pub false).length - y) (0) (zlO O) (zlP O) (fun _ => rfl) (fun _ => rfl) (fun _ => rfl) (zo8 _) ?_
     rintro y hy
     refine Vs 6 O ?_
     refine zk7 O (fun lt2 => ?_) (fun lt2 => ?_)
     ·
      refine Vs 7 O ?_
      obtain ⟨o, he_o, hm_o⟩ := gE_ (ziS f pub false) (y) (by omega)
      obtain ⟨b_o, o_o, c_o, ha_o, hd_o, hc_o, hR_o⟩ := hob.atD he_o
      obtain ⟨v1_o, rfl, hs_o⟩ := hR_o
      obtain ⟨a1_o, n1_o, rfl⟩ := hs_o.form
      refine zmJ 3000 0 O O (fun h_ => by have h1_ := hlow3 _ h_; have h2_ := hd_o; first | omega | exact h1_ h2_) hc_o ?_
      refine V.ix 3000 tR37 ts55 O ha_o (by omega) (_) (rfl) O ?_
      obtain ⟨ho0, hsum⟩ := zoY (s := x) (by omega) hm_o
      refine Vs 1 O ?_
      refine V.alloc 14 tz55 O O (fun b14 => ?_)
      refine Vs 18 O ?_
      refine zmL (σ := Nat) [7, 8, 9, 10, 12, 13, 14, 95, 96, 99, 100, 101, 106, 107] [7, 9, 14] [7, 9, 14] O (fun e z => (108, .int .i64 z) :: (15, .int .i64 (tmS f pub x o z)) :: e) (fun e z => e) (fun z => z <= (ziS f pub true).length) (fun z => (ziS f pub true).length - z) (0) (zlO O) (zlP O) (fun _ => rfl) (fun _ => rfl) (fun _ => rfl) (zo8 _) ?_
      rintro z hz
      have hbd := zpf (pub := pub) (x := x) (o := o) vd z
      refine Vs 6 O ?_
      refine zk7 O (fun lt3 => ?_) (fun lt3 => ?_)
      ·
       refine Vs 7 O ?_
       obtain ⟨p, he_p, hm_p⟩ := gE_ (ziS f pub true) (z) (by omega)
       obtain ⟨b_p, o_p, c_p, ha_p, hd_p, hc_p, hR_p⟩ := hoa.atD he_p
       obtain ⟨v1_p, rfl, hs_p⟩ := hR_p
       obtain ⟨a1_p, n1_p, rfl⟩ := hs_p.form
       refine zmJ 4000 1 O O (fun h_ => by have h1_ := hlow2 _ h_; have h2_ := hd_p; first | omega | exact h1_ h2_) hc_p ?_
       refine V.ix 4000 tR37 ts55 O ha_p (by omega) (_) (rfl) O ?_
       have hnx := zp0 (x := x) (o := o) he_p
       have hbd2 := zpf (pub := pub) (x := x) (o := o) vd (z + 1)
       refine Vs 1 O ?_
       refine V.alloc 17 tz55 O O (fun b17 => ?_)
       refine Vs 10 O ?_
       refine zmB Tryz.call27 O (fun w hI => zek o.1 p.1 _ _ _ _ w (hs_o.keep zc hI.k0 (fun b hb _ hs => by have := hlow3 b hs; omega)) (hs_p.keep zc hI.k1 (fun b hb _ hs => by have := hlow2 b hs; omega))) ?_
       refine Vs 2 O ?_
       refine zk7 O (fun eq => ?_) (fun eq => ?_)
       ·
        refine Vs 5 O ?_
        obtain ⟨rx, he_rx, hm_rx⟩ := gE_ (mxO f pub true) (x) (by omega)
        obtain ⟨b_rx, o_rx, c_rx, ha_rx, hd_rx, hc_rx, hR_rx⟩ := hma.atD he_rx
        obtain ⟨v1_rx, rfl, hs_rx⟩ := hR_rx
        obtain ⟨a1_rx, n1_rx, rfl⟩ := hs_rx.form
        refine zmJ 5000 1 O O (fun h_ => by have h1_ := hlow2 _ h_; have h2_ := hd_rx; first | omega | exact h1_ h2_) hc_rx ?_
        refine V.ix 5000 tR34 ts27 O ha_rx (by omega) (_) (rfl) O ?_
        have hrx : rx = zoO f pub true x := by rw [zos (by omega)] at he_rx; exact (Option.some.inj he_rx).symm
        have hrxl : rx.length = (ziS f pub true).length := by rw [hrx, zjZ]
        refine Vs 2 O ?_
        obtain ⟨k, he_k, hm_k⟩ := gE_ rx (z) (by omega)
        obtain ⟨b_k, o_k, c_k, ha_k, hd_k, hc_k, hR_k⟩ := hs_rx.atD he_k
        obtain rfl := hR_k
        refine zmJ 6000 1 O O (fun h_ => by have h1_ := hlow2 _ h_; have h2_ := hd_k; first | omega | exact h1_ h2_) hc_k ?_
        refine V.ix 6000 tR27 ts3 O ha_k (by omega) (_) (rfl) O ?_
        have hk : k = ((zgx (obX f pub true x) (rnN f) p : Nat) : Int) := by
         rw [hrx] at he_k
         unfold zoO at he_k
         rw [zoa, he_p] at he_k
         exact (Option.some.inj he_k).symm
        rw [zo4 eq] at hnx
        refine Va 10 O (by omega) ?_
        refine zki (z + 1) (Sub.cons (rfl) (Sub.cons (by rw [hnx, hk]; rfl) (zlO O))) (zlP O) (by omega) (by omega) 0 O O
       ·
        rw [zo3 eq, Int.add_zero] at hnx
        refine Va 7 O (by omega) ?_
        refine zki (z + 1) (Sub.cons (rfl) (Sub.cons (by rw [hnx]; rfl) (zlO O))) (zlP O) (by omega) (by omega) 0 O O
      ·
       obtain rfl : z = (ziS f pub true).length := by omega
       refine Vs 11 O ?_
       refine V.sp 132 O (fun z8 => ?_) (fun z8 => ?_)
       . exact absurd ho0 z8
       refine Vs 4 O ?_
       obtain ⟨rx, he_rx, hm_rx⟩ := gE_ (mxO f pub false) (x) (by omega)
       obtain ⟨b_rx, o_rx, c_rx, ha_rx, hd_rx, hc_rx, hR_rx⟩ := hmb.atD he_rx
       obtain ⟨v1_rx, rfl, hs_rx⟩ := hR_rx
       obtain ⟨a1_rx, n1_rx, rfl⟩ := hs_rx.form
       refine zmJ 7000 0 O O (fun h_ => by have h1_ := hlow3 _ h_; have h2_ := hd_rx; first | omega | exact h1_ h2_) hc_rx ?_
       refine V.ix 7000 tR34 ts27 O ha_rx (by omega) (_) (rfl) O ?_
       have hrx : rx = zoO f pub false x := by rw [zos (by omega)] at he_rx; exact (Option.some.inj he_rx).symm
       have hrxl : rx.length = (ziS f pub false).length := by rw [hrx, zjZ]
       refine Vs 2 O ?_
       obtain ⟨k, he_k, hm_k⟩ := gE_ rx (y) (by omega)
       obtain ⟨b_k, o_k, c_k, ha_k, hd_k, hc_k, hR_k⟩ := hs_rx.atD he_k
       obtain rfl := hR_k
       refine zmJ 8000 0 O O (fun h_ => by have h1_ := hlow3 _ h_; have h2_ := hd_k; first | omega | exact h1_ h2_) hc_k ?_
       refine V.ix 8000 tR27 ts3 O ha_k (by omega) (_) (rfl) O ?_
       have hk : k = ((zgx (obX f pub false x) (rnN f) o : Nat) : Int) := by
        rw [hrx] at he_k
        unfold zoO at he_k
        rw [zoa, he_o] at he_k
        exact (Option.some.inj he_k).symm
       refine Vs 5 O ?_
       refine zk7 O (fun z9 => ?_) (fun z9 => ?_)
       . exact absurd (by rw [hk, hsum]; unfold tmS; rw [znY]) z9
       refine Va 7 O (by omega) ?_
       refine zki (y + 1) (zlO O) (zlP O) (by omega) (by first | omega | (dsimp only; omega)) 0 O O
     ·
      refine Va 10 O (by omega) ?_
      refine zki (x + 1) (zlO O) (zlP O) (by omega) (by first | omega | (dsimp only; omega)) 0 O O
    ·
     refine Vs 11 O ?_
     refine zkr Tryz.results6 O (fun w hI => ⟨_, rfl, rfl, hI.k4⟩)
end Go.Proofs.YtaenledoagbddaaGreatDoor
