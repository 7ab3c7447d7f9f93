/-
  Contracts and the mathematics that the proof needs. Nothing here is a claim.
-/
import Derived.Test.YtaenledoagbddaaGreatDoorKX6
import Derived.WalkKit
import Derived.Deep.Quiet
import Derived.Deep.LoopGhost
import Derived.Below
import Derived.OrdersHeld
import Derived.KernelRfl
import Derived.WalkSpells
import Derived.ChangeKeysEq
import Derived.Lib.SliceRun
import Derived.Test.YtaenledoagbddaaGreatDoorRows
import Derived.ProofKit
import Derived.OpenShut
import Derived.ReadAgain
import Derived.ChangeBears
import Derived.Laws.Strings
import Derived.Test.YtaenledoagbddaaGreatDoorProg
import Derived.Lib.AppendStr
import Derived.Lib.SmallJoins
import Derived.Lib.Builder
import Derived.Lib.UnsafeStr
import Derived.Laws.Externs
import Derived.Lib.ItoaNum
import Derived.Lib.ItoaMem
import Derived.Maps.RangeRun
import Derived.MapKept
import Derived.Shelf.Strings.BuilderK
import Derived.Shelf.LaysM
import Derived.Shelf.Strconv.Itoa3
import Derived.Lib.ItoaLen
import Derived.Handed
import Derived.LaidLaws
import Derived.WideKeyMaps
import Derived.DeepKeys4
import Derived.Shelf.SlSortCmp.WholeK
import Derived.Ground.SlsfProg
import Derived.Shelf.SlSortCmp.NoneTotal
import Derived.Shelf.SlSortCmp.Whole1
import Derived.Test.YtaenledoagbddaaGreatDoorTie
import Derived.Test.YtaenledoagbddaaGreatDoorCards
namespace Go.GL
open Go.ChangeShapes Go.WideShapes Go.ChangeAt Go.RowKit
section
variable {H : Type} {enc : TypeId × Value -> H} {P : Program} {w w' W W' : World} {base : Nat} {sp : Nat -> Bool} {held : Bool}
theorem zk2 {b o n : Nat} {cs : List Value} (h : w.cells? base ⟨b, o, none⟩ n = some cs) : cs.length = n /\ Cells w b o cs := by
 obtain ⟨_, h1, h2⟩ := World.cells?_some h
 refine ⟨h1, fun j v hv => ?_⟩
 have hj : j < n := by rw [<- h1]; exact (zo7.1 hv).1
 have := h2 j hj
 rw [hv] at this
 rw [<- this, xl]
theorem zow {α : Type} {R : Rel α} {t e : TypeId} {c fuel : Nat} {cs : List Value} {x : DataW H × List MemPlace} (Q : DataW H -> Prop) (ht : P.underlying t = some (.slice e)) (hc : P.cellsOf e = c) (hc0 : 0 < c) (hQ : ∀ es rs, x.1 = .slice es rs -> ∀ d ∈ es, Q d)
  (hR : ∀ (n : Nat) (cs : List Value) (y : DataW H × List MemPlace), Q y.1 -> DataW.trod enc P w base sp held n e cs = some y -> ∃ z, R (fun _ => True) w z cs) (h : DataW.trod enc P w base sp held fuel t cs = some x) : ∃ v l, cs = [v] /\ SlR c R (fun _ => True) w v l /\ (l = [] \/ ∃ es rs, x.1 = .slice es rs /\ es.length = l.length) := by
 rcases DataW.trod_slice ht h with ⟨rfl, _⟩ | ⟨a, len, cap, elems, rest, n, _, rfl, rfl, _, hlc, hcm, hel, hat, _⟩
 . exact ⟨_, [], rfl, SlR.nil, .inl rfl⟩
 ·
  rw [hc] at hat
  have zl : ∀ i : Nat, i < len -> ∃ z cs', w.cells? base (a.add (i * c)) c = some cs' /\ R (fun _ => True) w z cs' := by
   intro i hi
   have h1 := hat i hi
   obtain ⟨y, hy⟩ : ∃ y, elems[i]? = some y := ⟨_, znT (by omega)⟩
   rw [hy, Option.bind_eq_some_iff] at h1
   obtain ⟨cs', h2, h3⟩ := h1
   obtain ⟨z, hz⟩ := hR n cs' y (hQ _ _ rfl _ (List.mem_map.2 ⟨y, znU hy, rfl⟩)) h3
   exact ⟨z, cs', h2, hz⟩
  have hlist : ∀ k, k <= len -> ∃ l : List α, l.length = k /\ ∀ (i : Nat) z, l[i]? = some z -> ∃ cs', w.cells? base (a.add (i * c)) c = some cs' /\ R (fun _ => True) w z cs' := by
   intro k
   induction k with
   | zero => intro _; exact ⟨[], rfl, fun i z h => by simp at h⟩
   | succ k ih =>
    intro hk
    obtain ⟨l, h1, h2⟩ := ih (by omega)
    obtain ⟨z, cs', h3, h4⟩ := zl k (by omega)
    refine ⟨l ++ [z], by simp [h1], fun i y hy => ?_⟩
    by_cases e : i < l.length
    . rw [zoj e] at hy; exact h2 i y hy
    ·
     rw [zok (by omega)] at hy
     have hi : i = k := by
      have := (zo7.1 hy).1
      simp at this; omega
     subst hi
     rw [h1, Nat.sub_self] at hy
     simp at hy
     subst hy
     exact ⟨cs', h3, h4⟩
  obtain ⟨l, hl, hle⟩ := hlist len (zoi _)
  subst hl
  refine ⟨_, l, rfl, ⟨some a, cap, rfl, hlc, by simpa [maxLen] using hcm, fun i z hz => ?_⟩, .inr ⟨_, _, rfl, by simp [hel]⟩⟩
  obtain ⟨cs', h3, h4⟩ := hle i z hz
  obtain ⟨_, h5, h6⟩ := World.cells?_some h3
  have hspot : a.spot = none := by
   have hi : 0 < l.length := by have := (zo7.1 hz).1; omega
   obtain ⟨_, cs0, h7, _⟩ := zl 0 hi
   obtain ⟨_, h8, h9⟩ := World.cells?_some h7
   have h10 := h9 0 hc0
   obtain ⟨u, hu⟩ : ∃ u, cs0[0]? = some u := ⟨_, znT (by omega)⟩
   rw [hu] at h10
   have h11 := World.cell?_spot h10
   simpa [Addr.add] using h11
  obtain ⟨b, o, s⟩ := a
  simp at hspot
  subst hspot
  exact ⟨b, o, cs', rfl, trivial, h5, (zk2 (by rw [xl] at h3; exact h3)).2, h4⟩
theorem zk3 {α : Type} {R : Rel α} {t e : TypeId} {c fuel : Nat} {cs : List Value} {x : DataW H × List MemPlace} (ht : P.underlying t = some (.slice e)) (hc : P.cellsOf e = c) (hc0 : 0 < c)
  (hR : ∀ (n : Nat) (cs : List Value) (y : DataW H × List MemPlace), DataW.trod enc P w base sp held n e cs = some y -> ∃ z, R (fun _ => True) w z cs) (h : DataW.trod enc P w base sp held fuel t cs = some x) : ∃ v l, cs = [v] /\ SlR c R (fun _ => True) w v l := by
 obtain ⟨v, l, h1, h2, _⟩ := zow (fun _ => True) ht hc hc0 (fun _ _ _ _ _ => trivial) (fun n cs y _ => hR n cs y) h
 exact ⟨v, l, h1, h2⟩
theorem zor {e : TypeId} {n : Nat} {cs : List Value} {y : DataW H × List MemPlace} (he : P.underlying e = some (.int .i64)) (h : DataW.trod enc P w base sp held n e cs = some y) : ∃ z, zB (fun _ => True) w z cs := by
 obtain ⟨z, h1, _⟩ := DataW.trod_int he h
 exact ⟨z, h1⟩
end
open Go.ChangeShapes Go.WideShapes Go.ChangeAt Go.RowKit
section
variable {H : Type} {enc : TypeId × Value -> H} {P : Program} {w w' W W' : World} {base : Nat} {sp : Nat -> Bool} {held : Bool}
theorem zjZ {α : Type} {R : Rel α} {t e : TypeId} {c fuel : Nat} {cs : List Value} {x : DataW H × List MemPlace} (ht : P.underlying t = some (.slice e)) (hc : P.cellsOf e = c) (hc0 : 0 < c)
  (hR : ∀ (n : Nat), fuel = n + 1 -> ∀ (cs : List Value) (y : DataW H × List MemPlace), DataW.trod enc P w base sp held n e cs = some y -> ∃ z, R (fun _ => True) w z cs) (h : DataW.trod enc P w base sp held fuel t cs = some x) : ∃ v l, cs = [v] /\ SlR c R (fun _ => True) w v l := by
 rcases DataW.trod_slice ht h with ⟨rfl, _⟩ | ⟨a, len, cap, elems, rest, n, hfu, rfl, _, _, hlc, hcm, hel, hat, _⟩
 . exact ⟨_, [], rfl, SlR.nil⟩
 ·
  rw [hc] at hat
  have zl : ∀ i : Nat, i < len -> ∃ z cs', w.cells? base (a.add (i * c)) c = some cs' /\ R (fun _ => True) w z cs' := by
   intro i hi
   have h1 := hat i hi
   obtain ⟨y, hy⟩ : ∃ y, elems[i]? = some y := ⟨_, znT (by omega)⟩
   rw [hy, Option.bind_eq_some_iff] at h1
   obtain ⟨cs', h2, h3⟩ := h1
   obtain ⟨z, hz⟩ := hR n hfu cs' y h3
   exact ⟨z, cs', h2, hz⟩
  have hlist : ∀ k, k <= len -> ∃ l : List α, l.length = k /\ ∀ (i : Nat) z, l[i]? = some z -> ∃ cs', w.cells? base (a.add (i * c)) c = some cs' /\ R (fun _ => True) w z cs' := by
   intro k
   induction k with
   | zero => intro _; exact ⟨[], rfl, fun i z h => by simp at h⟩
   | succ k ih =>
    intro hk
    obtain ⟨l, h1, h2⟩ := ih (by omega)
    obtain ⟨z, cs', h3, h4⟩ := zl k (by omega)
    refine ⟨l ++ [z], by simp [h1], fun i y hy => ?_⟩
    by_cases e : i < l.length
    . rw [zoj e] at hy; exact h2 i y hy
    ·
     rw [zok (by omega)] at hy
     have hi : i = k := by
      have := (zo7.1 hy).1
      simp at this; omega
     subst hi
     rw [h1, Nat.sub_self] at hy
     simp at hy
     subst hy
     exact ⟨cs', h3, h4⟩
  obtain ⟨l, hl, hle⟩ := hlist len (zoi _)
  subst hl
  refine ⟨_, l, rfl, some a, cap, rfl, hlc, by simpa [maxLen] using hcm, fun i z hz => ?_⟩
  obtain ⟨cs', h3, h4⟩ := hle i z hz
  obtain ⟨_, h5, h6⟩ := World.cells?_some h3
  have hspot : a.spot = none := by
   have hi : 0 < l.length := by have := (zo7.1 hz).1; omega
   obtain ⟨_, cs0, h7, _⟩ := zl 0 hi
   obtain ⟨_, h8, h9⟩ := World.cells?_some h7
   have h10 := h9 0 hc0
   obtain ⟨u, hu⟩ : ∃ u, cs0[0]? = some u := ⟨_, znT (by omega)⟩
   rw [hu] at h10
   have h11 := World.cell?_spot h10
   simpa [Addr.add] using h11
  obtain ⟨b, o, s⟩ := a
  simp at hspot
  subst hspot
  exact ⟨b, o, cs', rfl, trivial, h5, (zk2 (by rw [xl] at h3; exact h3)).2, h4⟩
theorem zjY {fs : Array Field} {m : Nat} {cs : List Value} {xs : List (DataW H × List MemPlace)} (hx : xs.length = fs.size) (hat : ∀ (i : Nat) (f : Field), fs[i]? = some f -> DataW.trod enc P w base sp held m f.type ((cs.drop f.offset).take (P.cellsOf f.type)) = xs[i]?) (i : Nat) {f : Field} (hf : fs[i]? = some f) {c : Nat} (hc : P.cellsOf f.type = c) :
  ∃ y, DataW.trod enc P w base sp held m f.type ((cs.drop f.offset).take c) = some y := by
 have h := hat i f hf
 have hi := (Array.getElem?_eq_some_iff.1 hf).1
 rw [znT (show i < xs.length by omega), hc] at h
 exact ⟨_, h⟩
end
end Go.GL
namespace Go.Proofs.YtaenledoagbddaaGreatDoor
open Go.GL Go.ChangeShapes Go.WideShapes Go.ChangeAt Go.RowKit
section
variable {H : Type} {enc : TypeId × Value -> H} {w : World} {base : Nat} {sp : Nat -> Bool} {held : Bool}
theorem zoq : Tryz.prog.cellsOf 3 = 1 := by kernel_rfl
theorem zos : Tryz.prog.cellsOf 86 = 3 := by kernel_rfl
theorem zk0 : Tryz.prog.cellsOf 92 = 10 := by kernel_rfl
set_option maxRecDepth 100000 in
theorem zot : ∀ (k : Nat) (cs : List Value) (x : DataW H × List MemPlace), DataW.trod enc Tryz.prog w base sp held k 86 cs = some x -> ∃ t, RTm (fun _ => True) w t cs := by
 intro k
 induction k using Nat.strongRecOn with
 | _ k ih =>
 intro cs x h
 obtain ⟨xs, m, hk, _, hl, hx, hat⟩ := DataW.trod_struct Tryz.underlying86 h
 rw [zos] at hl
 match cs, hl with
 | [c0, c1, c2], _ =>
  obtain ⟨y0, h0⟩ := zjY hx hat 0 rfl (c := 1) (by kernel_rfl)
  obtain ⟨y1, h1⟩ := zjY hx hat 1 rfl (c := 1) (by kernel_rfl)
  obtain ⟨y2, h2⟩ := zjY hx hat 2 rfl (c := 1) (by kernel_rfl)
  obtain ⟨n0, e0, _⟩ := DataW.trod_int Tryz.underlying83 h0
  obtain ⟨n1, e1, _⟩ := DataW.trod_int tu3 h1
  obtain ⟨v, l, e2, hsl⟩ := zjZ Tryz.underlying84 zos (by decide) (fun n hn cs y hy => ih n (by omega) cs y hy) h2
  simp at e0 e1 e2
  subst e0; subst e1; subst e2
  exact ⟨.mk n0 n1 l, RTm.put (t := .mk n0 n1 l) hsl⟩
set_option maxRecDepth 100000 in
theorem zox : ∀ (k : Nat) (cs : List Value) (x : DataW H × List MemPlace), DataW.trod enc Tryz.prog w base sp held k 92 cs = some x -> ∃ t, RSt (fun _ => True) w t cs := by
 intro k
 induction k using Nat.strongRecOn with
 | _ k ih =>
 intro cs x h
 obtain ⟨xs, m, hk, _, hl, hx, hat⟩ := DataW.trod_struct Tryz.underlying92 h
 rw [zk0] at hl
 match cs, hl with
 | [c0, c1, c2, c3, c4, c5, c6, c7, c8, c9], _ =>
  obtain ⟨y0, h0⟩ := zjY hx hat 0 rfl (c := 1) (by kernel_rfl)
  obtain ⟨y1, h1⟩ := zjY hx hat 1 rfl (c := 1) (by kernel_rfl)
  obtain ⟨y2, h2⟩ := zjY hx hat 2 rfl (c := 1) (by kernel_rfl)
  obtain ⟨y3, h3⟩ := zjY hx hat 3 rfl (c := 1) (by kernel_rfl)
  obtain ⟨y4, h4⟩ := zjY hx hat 4 rfl (c := 3) (by kernel_rfl)
  obtain ⟨y5, h5⟩ := zjY hx hat 5 rfl (c := 1) (by kernel_rfl)
  obtain ⟨y6, h6⟩ := zjY hx hat 6 rfl (c := 1) (by kernel_rfl)
  obtain ⟨y7, h7⟩ := zjY hx hat 7 rfl (c := 1) (by kernel_rfl)
  obtain ⟨n0, e0, _⟩ := DataW.trod_int Tryz.underlying90 h0
  obtain ⟨n1, e1, _⟩ := DataW.trod_int tu3 h1
  obtain ⟨n2, e2, _⟩ := DataW.trod_int tu3 h2
  obtain ⟨n3, e3, _⟩ := DataW.trod_int tu3 h3
  obtain ⟨t, ht⟩ := zot _ _ _ h4
  obtain ⟨v4, e4, hks⟩ := ht.get
  obtain ⟨v5, l5, e5, hs5⟩ := zjZ Tryz.underlying24 zk0 (by decide) (fun n hn cs y hy => ih n (by omega) cs y hy) h5
  obtain ⟨v6, l6, e6, hs6⟩ := zjZ Tryz.underlying24 zk0 (by decide) (fun n hn cs y hy => ih n (by omega) cs y hy) h6
  obtain ⟨v7, l7, e7, hs7⟩ := zjZ tu27 zoq (by decide) (fun n hn cs y hy => zor tu3 hy) h7
  simp at e0 e1 e2 e3 e4 e5 e6 e7
  obtain ⟨e4, e42, e43⟩ := e4
  subst e0; subst e1; subst e2; subst e3; subst e4; subst e42; subst e43; subst e5; subst e6; subst e7
  exact ⟨.mk n0 n1 n2 n3 t l5 l6 l7, RSt.put (s := .mk n0 n1 n2 n3 t l5 l6 l7) hks hs5 hs6 hs7⟩
set_option maxRecDepth 100000 in
theorem zoy (k : Nat) (cs : List Value) (x : DataW H × List MemPlace) (h : DataW.trod enc Tryz.prog w base sp held k 89 cs = some x) : ∃ t, RVr (fun _ => True) w t cs := by
 obtain ⟨xs, m, hk, _, hl, hx, hat⟩ := DataW.trod_struct Tryz.underlying89 h
 rw [show Tryz.prog.cellsOf 89 = 5 by kernel_rfl] at hl
 match cs, hl with
 | [c0, c1, c2, c3, c4], _ =>
  obtain ⟨y0, h0⟩ := zjY hx hat 0 rfl (c := 1) (by kernel_rfl)
  obtain ⟨y1, h1⟩ := zjY hx hat 1 rfl (c := 1) (by kernel_rfl)
  obtain ⟨y2, h2⟩ := zjY hx hat 2 rfl (c := 1) (by kernel_rfl)
  obtain ⟨y3, h3⟩ := zjY hx hat 3 rfl (c := 1) (by kernel_rfl)
  obtain ⟨y4, h4⟩ := zjY hx hat 4 rfl (c := 1) (by kernel_rfl)
  obtain ⟨n0, e0, _⟩ := DataW.trod_string tu9 h0
  obtain ⟨n1, e1, _⟩ := DataW.trod_int Tryz.underlying53 h1
  obtain ⟨n2, e2, _⟩ := DataW.trod_int tu3 h2
  obtain ⟨n3, e3, _⟩ := DataW.trod_int tu3 h3
  obtain ⟨n4, e4, _⟩ := DataW.trod_int tu3 h4
  simp at e0 e1 e2 e3 e4
  subst e0; subst e1; subst e2; subst e3; subst e4
  exact ⟨⟨n0, n1, n2, n3, n4⟩, rfl⟩
set_option maxRecDepth 100000 in
theorem zoz (k : Nat) (cs : List Value) (x : DataW H × List MemPlace) (h : DataW.trod enc Tryz.prog w base sp held k 95 cs = some x) : ∃ t, RHt (fun _ => True) w t cs := by
 obtain ⟨xs, m, hk, _, hl, hx, hat⟩ := DataW.trod_struct Tryz.underlying95 h
 rw [show Tryz.prog.cellsOf 95 = 6 by kernel_rfl] at hl
 match cs, hl with
 | [c0, c1, c2, c3, c4, c5], _ =>
  obtain ⟨y0, h0⟩ := zjY hx hat 0 rfl (c := 1) (by kernel_rfl)
  obtain ⟨y1, h1⟩ := zjY hx hat 1 rfl (c := 1) (by kernel_rfl)
  obtain ⟨y2, h2⟩ := zjY hx hat 2 rfl (c := 1) (by kernel_rfl)
  obtain ⟨y3, h3⟩ := zjY hx hat 3 rfl (c := 3) (by kernel_rfl)
  obtain ⟨n0, e0, _⟩ := DataW.trod_string tu9 h0
  obtain ⟨n1, e1, _⟩ := DataW.trod_int tu3 h1
  obtain ⟨n2, e2, _⟩ := DataW.trod_int tu3 h2
  obtain ⟨t, ht⟩ := zot _ _ _ h3
  obtain ⟨v3, e3, hks⟩ := ht.get
  simp at e0 e1 e2 e3
  obtain ⟨e3, e32, e33⟩ := e3
  subst e0; subst e1; subst e2; subst e3; subst e32; subst e33
  exact ⟨⟨n0, n1, n2, t⟩, _, rfl, hks⟩
set_option maxRecDepth 100000 in
theorem zou {r : Reach} {b0 : Nat} {v : Value} {d : DataW H} {ps : List MemPlace} (hval : Value.okWide Tryz.prog w r b0 26 v) (hd : DataW.Trod enc Tryz.prog w base sp held 26 v d ps) :
  ∃ f v1 v2 v3, v = .agg #[v1, v2, v3] /\ RFl (fun _ => True) w f v1 v2 v3 := by
 unfold Value.okWide at hval
 rw [Tryz.underlying26] at hval
 obtain ⟨cs, rfl, hsz, _⟩ := hval
 obtain ⟨k, hn⟩ := hd
 obtain ⟨xs, m, _, _, hl, hx, hat⟩ := DataW.trod_struct Tryz.underlying26 hn
 rw [show Tryz.prog.cellsOf 26 = 3 by kernel_rfl] at hsz
 obtain ⟨l⟩ := cs
 match l, hsz with
 | [c0, c1, c2], _ =>
  obtain ⟨y0, h0⟩ := zjY hx hat 0 rfl (c := 1) (by kernel_rfl)
  obtain ⟨y1, h1⟩ := zjY hx hat 1 rfl (c := 1) (by kernel_rfl)
  obtain ⟨y2, h2⟩ := zjY hx hat 2 rfl (c := 1) (by kernel_rfl)
  obtain ⟨v0, l0, e0, hs0⟩ := zk3 Tryz.underlying22 (show Tryz.prog.cellsOf 89 = 5 by kernel_rfl) (by decide) (fun n cs y hy => zoy n cs y hy) h0
  obtain ⟨v1, l1, e1, hs1⟩ := zk3 Tryz.underlying23 (show Tryz.prog.cellsOf 95 = 6 by kernel_rfl) (by decide) (fun n cs y hy => zoz n cs y hy) h1
  obtain ⟨v2, l2, e2, hs2⟩ := zk3 Tryz.underlying24 zk0 (by decide) (fun n cs y hy => zox n cs y hy) h2
  simp [Value.cells] at e0 e1 e2
  subst e0; subst e1; subst e2
  exact ⟨⟨l0, l1, l2⟩, _, _, _, rfl, hs0, hs1, hs2⟩
end
open Go.GL Go.ChangeShapes Go.WideShapes Go.ChangeAt Go.RowKit
section
variable {H : Type} {enc : TypeId × Value -> H} {w : World} {base : Nat} {sp : Nat -> Bool} {held : Bool}
set_option maxRecDepth 100000 in
theorem zov {r : Reach} {b0 : Nat} {v : Value} {d : DataW H} {ps : List MemPlace} (hval : Value.okWide Tryz.prog w r b0 29 v) (hd : DataW.Trod enc Tryz.prog w base sp held 29 v d ps) :
  ∃ (l : List Int) (t : Bool) (u : Value), v = .agg #[u, .bool t] /\ SlR 1 zB (fun _ => True) w u l := by
 unfold Value.okWide at hval
 rw [Tryz.underlying29] at hval
 obtain ⟨cs, rfl, hsz, _⟩ := hval
 obtain ⟨k, hn⟩ := hd
 obtain ⟨xs, m, hk, _, hl, hx, hat⟩ := DataW.trod_struct Tryz.underlying29 hn
 rw [show Tryz.prog.cellsOf 29 = 2 by kernel_rfl] at hl
 obtain ⟨l⟩ := cs
 match l, hl with
 | [c0, c1], _ =>
  obtain ⟨y0, h0⟩ := zjY hx hat 0 rfl (c := 1) (by kernel_rfl)
  obtain ⟨y1, h1⟩ := zjY hx hat 1 rfl (c := 1) (by kernel_rfl)
  obtain ⟨v0, l0, e0, hs0⟩ := zk3 tu27 zoq (by decide) (fun n cs y hy => zor tu3 hy) h0
  obtain ⟨b1, e1, _⟩ := DataW.trod_bool tu4 h1
  simp [Value.cells] at e0 e1
  subst e0; subst e1
  exact ⟨l0, b1, _, rfl, hs0⟩
end
open Go.GL
theorem zk1 (f : Fl) (pub : List Int) (t : Bool) (v1 v2 v3 pv : Value) (D D' : Nat -> Prop) (W : World) (hf : RFl D W f v1 v2 v3) (hp : SlR 1 zB D' W pv pub) (ht : Tab W) :
  Calls Tryz.prog 3 #[.agg #[v1, v2, v3], .agg #[pv, .bool t]] W (Ret fun r w' => r = .bool true /\ Ext W w') := by
 refine zmb Tryz.func3 O Tryz.ntmps3 O (zmm ?_)
 refine Vs 2 O ?_
 refine V.box 2 O O (fun b2 => ?_)
 refine V.box 3 O O (fun b3 => ?_)
 refine Vs 6 O ?_
 refine zmB Tryz.call12 O (fun w hI => zeQ w (Tr1 hI.k0 ht)) ?_
 refine zm2 O (fun w hI => zly O (by first | exact za | rfl)) ?_
 refine Vs 2 O ?_
 refine V.bool O (fun k0 => ?_) (fun k0 => ?_)
 . cases k0
 ·
  refine Vs 6 O ?_
  refine zmB Tryz.call13 O (fun w hI => zdM f 12 120 _ _ _ D w (Tr1 hI.k0 hf) (by decide) (by decide)) ?_
  refine zm2 O (fun w hI => zly O (by first | exact za | rfl)) ?_
  refine Vs 2 O ?_
  refine zk7 O (fun q1 => ?_) (fun q1 => ?_)
  ·
   refine Vs 7 O ?_
   refine zkr Tryz.results3 O (fun w hI => ⟨_, rfl, rfl, hI.k0⟩)
  ·
   have q1 := zo2.1 q1
   have h1 := zco f.body
   have hsz : zm f.body + zC f.hatches <= 1024 := by omega
   have hbk : zt f.body <= 1000000 := by omega
   refine Vs 5 O ?_
   refine zmB Tryz.call14 O (fun w hI => zaD f _ _ _ D w (Tr1 hI.k0 hf) hsz hbk) ?_
   refine Vs 10 O ?_
   refine zk7 O (fun c0 => ?_) (fun c0 => ?_)
   ·
    refine Vs 7 O ?_
    refine zkr Tryz.results3 O (fun w hI => ⟨_, rfl, rfl, hI.k0⟩)
   ·
    refine Vs 6 O ?_
    refine zmD Tryz.call15 O (fun w hI => ziM f hsz hbk pub t _ _ _ _ D D' w (Tr1 hI.k0 hf) (Tr1 hI.k0 hp) (Tr1 hI.k0 ht)) ?_
    rintro r1 w1 w2 hI1 hk12 ⟨u, lu, rfl, hu0, hu1⟩ hlow
    have hc : xA f pub t = ym f := by unfold xA; rw [zo4 c0]
    obtain ⟨rfl, rfl⟩ := hu0 (by rw [hc]; exact c0)
    refine Vs 4 O ?_
    refine V.alloc 6 tz36 O O (fun b6 => ?_)
    refine Vs 11 O ?_
    refine V.sp 28 O (fun k1 => ?_) (fun k1 => ?_)
    ·
     refine Vs 6 O ?_
     refine V.sp 34 O (fun k2 => ?_) (fun k2 => ?_)
     ·
      refine Vs 8 O ?_
      refine zkr Tryz.results3 O (fun w hI => ⟨_, rfl, rfl, hI.k1⟩)
     . exact absurd O k2
    . exact absurd hc k1
end Go.Proofs.YtaenledoagbddaaGreatDoor
