/-
  Contracts and the mathematics that the proof needs. Nothing here is a claim.
-/
import Derived.Test.YtaenledoagbddaaGreatDoorKU5
import Derived.WalkKit
import Derived.Deep.Quiet
import Derived.Deep.LoopGhost
import Derived.Below
import Derived.OrdersHeld
import Derived.KernelRfl
import Derived.WalkSpells
import Derived.ChangeKeysEq
import Derived.Lib.SliceRun
import Derived.Test.YtaenledoagbddaaGreatDoorRows
import Derived.ProofKit
import Derived.OpenShut
import Derived.ReadAgain
import Derived.ChangeBears
import Derived.Laws.Strings
import Derived.Test.YtaenledoagbddaaGreatDoorProg
import Derived.Lib.AppendStr
import Derived.Lib.SmallJoins
import Derived.Lib.Builder
import Derived.Lib.UnsafeStr
import Derived.Laws.Externs
import Derived.Lib.ItoaNum
import Derived.Lib.ItoaMem
import Derived.Maps.RangeRun
import Derived.MapKept
import Derived.Shelf.Strings.BuilderK
import Derived.Shelf.LaysM
import Derived.Shelf.Strconv.Itoa3
import Derived.Lib.ItoaLen
import Derived.Handed
import Derived.LaidLaws
import Derived.WideKeyMaps
import Derived.DeepKeys4
import Derived.Shelf.SlSortCmp.WholeK
import Derived.Ground.SlsfProg
import Derived.Shelf.SlSortCmp.NoneTotal
import Derived.Shelf.SlSortCmp.Whole1
import Derived.Test.YtaenledoagbddaaGreatDoorTie
import Derived.Test.YtaenledoagbddaaGreatDoorCards
namespace Go.GL
abbrev G.sp := @zlf
abbrev WD.sp := @zlg
abbrev V.sp := @zlh
abbrev VD.rs := @zlS
abbrev V.call2 := @zlV
end Go.GL
namespace Go.GL
open Go.ChangeShapes Go.WideShapes Go.ChangeAt Go.RowKit
section
variable {H : Type} {enc : TypeId × Value -> H} {P : Program} {w w' W W' : World} {base : Nat} {sp : Nat -> Bool} {held : Bool}
theorem zo1 {b o n : Nat} {cs : List Value} (h : w.cells? base ⟨b, o, none⟩ n = some cs) : cs.length = n /\ Cells w b o cs := by
 obtain ⟨_, h1, h2⟩ := World.cells?_some h
 refine ⟨h1, fun j v hv => ?_⟩
 have hj : j < n := by rw [<- h1]; exact (znr.1 hv).1
 have := h2 j hj
 rw [hv] at this
 rw [<- this, yO]
theorem zob {α : Type} {R : Rel α} {t e : TypeId} {c fuel : Nat} {cs : List Value} {x : DataW H × List MemPlace} (Q : DataW H -> Prop) (ht : P.underlying t = some (.slice e)) (hc : P.cellsOf e = c) (hc0 : 0 < c) (hQ : ∀ es rs, x.1 = .slice es rs -> ∀ d ∈ es, Q d)
  (hR : ∀ (n : Nat) (cs : List Value) (y : DataW H × List MemPlace), Q y.1 -> DataW.trod enc P w base sp held n e cs = some y -> ∃ z, R (fun _ => True) w z cs) (h : DataW.trod enc P w base sp held fuel t cs = some x) : ∃ v l, cs = [v] /\ SlR c R (fun _ => True) w v l /\ (l = [] \/ ∃ es rs, x.1 = .slice es rs /\ es.length = l.length) := by
 rcases DataW.trod_slice ht h with ⟨rfl, _⟩ | ⟨a, len, cap, elems, rest, n, _, rfl, rfl, _, hlc, hcm, hel, hat, _⟩
 . exact ⟨_, [], rfl, SlR.nil, .inl rfl⟩
 ·
  rw [hc] at hat
  have zi : ∀ i : Nat, i < len -> ∃ z cs', w.cells? base (a.add (i * c)) c = some cs' /\ R (fun _ => True) w z cs' := by
   intro i hi
   have h1 := hat i hi
   obtain ⟨y, hy⟩ : ∃ y, elems[i]? = some y := ⟨_, znd (by omega)⟩
   rw [hy, Option.bind_eq_some_iff] at h1
   obtain ⟨cs', h2, h3⟩ := h1
   obtain ⟨z, hz⟩ := hR n cs' y (hQ _ _ rfl _ (List.mem_map.2 ⟨y, zne hy, rfl⟩)) h3
   exact ⟨z, cs', h2, hz⟩
  have hlist : ∀ k, k <= len -> ∃ l : List α, l.length = k /\ ∀ (i : Nat) z, l[i]? = some z -> ∃ cs', w.cells? base (a.add (i * c)) c = some cs' /\ R (fun _ => True) w z cs' := by
   intro k
   induction k with
   | zero => intro _; exact ⟨[], rfl, fun i z h => by simp at h⟩
   | succ k ih =>
    intro hk
    obtain ⟨l, h1, h2⟩ := ih (by omega)
    obtain ⟨z, cs', h3, h4⟩ := zi k (by omega)
    refine ⟨l ++ [z], by simp [h1], fun i y hy => ?_⟩
    by_cases e : i < l.length
    . rw [znD e] at hy; exact h2 i y hy
    ·
     rw [znE (by omega)] at hy
     have hi : i = k := by
      have := (znr.1 hy).1
      simp at this; omega
     subst hi
     rw [h1, Nat.sub_self] at hy
     simp at hy
     subst hy
     exact ⟨cs', h3, h4⟩
  obtain ⟨l, hl, hle⟩ := hlist len (znC _)
  subst hl
  refine ⟨_, l, rfl, ⟨some a, cap, rfl, hlc, by simpa [maxLen] using hcm, fun i z hz => ?_⟩, .inr ⟨_, _, rfl, by simp [hel]⟩⟩
  obtain ⟨cs', h3, h4⟩ := hle i z hz
  obtain ⟨_, h5, h6⟩ := World.cells?_some h3
  have hspot : a.spot = none := by
   have hi : 0 < l.length := by have := (znr.1 hz).1; omega
   obtain ⟨_, cs0, h7, _⟩ := zi 0 hi
   obtain ⟨_, h8, h9⟩ := World.cells?_some h7
   have h10 := h9 0 hc0
   obtain ⟨u, hu⟩ : ∃ u, cs0[0]? = some u := ⟨_, znd (by omega)⟩
   rw [hu] at h10
   have h11 := World.cell?_spot h10
   simpa [Addr.add] using h11
  obtain ⟨b, o, s⟩ := a
  simp at hspot
  subst hspot
  exact ⟨b, o, cs', rfl, trivial, h5, (zo1 (by rw [yO] at h3; exact h3)).2, h4⟩
theorem zo9 {α : Type} {R : Rel α} {t e : TypeId} {c fuel : Nat} {cs : List Value} {x : DataW H × List MemPlace} (ht : P.underlying t = some (.slice e)) (hc : P.cellsOf e = c) (hc0 : 0 < c)
  (hR : ∀ (n : Nat) (cs : List Value) (y : DataW H × List MemPlace), DataW.trod enc P w base sp held n e cs = some y -> ∃ z, R (fun _ => True) w z cs) (h : DataW.trod enc P w base sp held fuel t cs = some x) : ∃ v l, cs = [v] /\ SlR c R (fun _ => True) w v l := by
 obtain ⟨v, l, h1, h2, _⟩ := zob (fun _ => True) ht hc hc0 (fun _ _ _ _ _ => trivial) (fun n cs y _ => hR n cs y) h
 exact ⟨v, l, h1, h2⟩
theorem zoc {e : TypeId} {n : Nat} {cs : List Value} {y : DataW H × List MemPlace} (he : P.underlying e = some (.int .i64)) (h : DataW.trod enc P w base sp held n e cs = some y) : ∃ z, zt (fun _ => True) w z cs := by
 obtain ⟨z, h1, _⟩ := DataW.trod_int he h
 exact ⟨z, h1⟩
end
open Go.ChangeShapes Go.WideShapes Go.ChangeAt Go.RowKit
section
variable {H : Type} {enc : TypeId × Value -> H} {P : Program} {w w' W W' : World} {base : Nat} {sp : Nat -> Bool} {held : Bool}
theorem zo2 {fs : Array Field} {m : Nat} {cs : List Value} {xs : List (DataW H × List MemPlace)} (hx : xs.length = fs.size) (hat : ∀ (i : Nat) (f : Field), fs[i]? = some f -> DataW.trod enc P w base sp held m f.type ((cs.drop f.offset).take (P.cellsOf f.type)) = xs[i]?) (i : Nat) {f : Field} (hf : fs[i]? = some f) {c : Nat} (hc : P.cellsOf f.type = c) :
  ∃ y, DataW.trod enc P w base sp held m f.type ((cs.drop f.offset).take c) = some y := by
 have h := hat i f hf
 have hi := (Array.getElem?_eq_some_iff.1 hf).1
 rw [znd (show i < xs.length by omega), hc] at h
 exact ⟨_, h⟩
end
end Go.GL
namespace Go.Proofs.YtaenledoagbddaaGreatDoor
open Go.GL Go.ChangeShapes Go.WideShapes Go.ChangeAt Go.RowKit
section
variable {H : Type} {enc : TypeId × Value -> H} {w : World} {base : Nat} {sp : Nat -> Bool} {held : Bool}
theorem zo3 : Tryz.prog.cellsOf 3 = 1 := by kernel_rfl
end
end Go.Proofs.YtaenledoagbddaaGreatDoor
namespace Go.GL
open Go.RowKit
section
variable {P : Program} {T : Tab} {Z : Szs} {n : Nat} {Q : Exit -> Act -> World -> Prop} {ks : List Fr} {pos : Pos} {env : Env} {A : Tgs} {H Hs : Hp} {Bs B0 : zH} {ops : Array Oper} {rest : List Oper} {v : Value} {L : List Nat} {fuel : Nat} {listed : Array Bool}
variable {d : Nat} {op : Op} {ty : TypeId} {ps : String} {aft : Array Edge} {g : Option (Nat × Bool)}
theorem zo4 {w : World} {t : TypeId} {b m c : Nat} {xs : List Value} {i : Nat} {v : Value} (h : (HE.row t 1 (.slice (some ⟨b, 0, none⟩) m c) m xs).holds w) (hv : xs[i]? = some v) : w.cell? ⟨b, 0 + (i : Int).toNat * 1, none⟩ = some v := by
 have := (xr (show w.ownsRow 0 t 1 _ m xs from h)).2.2 i v hv
 simpa using this
end
end Go.GL
namespace Go.Proofs.YtaenledoagbddaaGreatDoor
open Go.GL Go.ChangeShapes Go.WideShapes Go.ChangeAt Go.RowKit
section
variable {H : Type} {enc : TypeId × Value -> H} {w : World} {base : Nat} {sp : Nat -> Bool} {held : Bool}
set_option maxRecDepth 100000 in
theorem znR (k : Nat) (cs : List Value) (x : DataW H × List MemPlace) (h : DataW.trod enc Tryz.prog w base sp held k 27 cs = some x) : ∃ t, RSl 1 zt (fun _ => True) w t cs := by
 obtain ⟨v, l, e, hs⟩ := zo9 tu27 zo3 (by decide) (fun n cs y hy => zoc tu3 hy) h
 exact ⟨l, v, e, hs⟩
set_option maxRecDepth 100000 in
theorem znS {r : Reach} {b0 : Nat} {v : Value} {d : DataW H} {ps : List MemPlace} (hval : Value.okWide Tryz.prog w r b0 36 v) (hd : DataW.Trod enc Tryz.prog w base sp held 36 v d ps) :
  ∃ (c : List (List Int)) (u : Value), v = .agg #[u] /\ SlR 1 (RSl 1 zt) (fun _ => True) w u c := by
 unfold Value.okWide at hval
 rw [Tryz.underlying36] at hval
 obtain ⟨cs, rfl, hsz, _⟩ := hval
 obtain ⟨k, hn⟩ := hd
 obtain ⟨xs, m, hk, _, hl, hx, hat⟩ := DataW.trod_struct Tryz.underlying36 hn
 rw [show Tryz.prog.cellsOf 36 = 1 by kernel_rfl] at hl
 obtain ⟨l⟩ := cs
 match l, hl with
 | [c0], _ =>
  obtain ⟨y0, h0⟩ := zo2 hx hat 0 rfl (c := 1) (by kernel_rfl)
  obtain ⟨v0, l0, e0, hs0⟩ := zo9 tu34 (show Tryz.prog.cellsOf 27 = 1 by kernel_rfl) (by decide) (fun n cs y hy => znR n cs y hy) h0
  simp [Value.cells] at e0
  subst e0
  exact ⟨l0, _, rfl, hs0⟩
end
open Go.GL
theorem zo5 (p : (List Int) -> Bool) (l : List (List Int)) (v : Value) (D : Nat -> Prop) (g : FuncId) (cp : Value) (W : World) (hf : ∀ args w, (callFunc g args).run Tryz.prog w = .ok (.enter g args) w) (hl : SlR 1 (RSl 1 zt) D W v l)
  (hc : ∀ (x : (List Int)) (u : Value) (w : World), Ext W w -> x ∈ l -> SlR 1 zt D w u x -> Calls Tryz.prog g #[u, cp] w (Ret fun r w' => r = .bool (p x) /\ Ext w w')) :
  Calls Tryz.prog 78 #[v, .func (.func g) #[] #[cp]] W (Ret fun r w' => r = .int .i64 (zh1 p l) /\ Ext W w') := by
 obtain ⟨av, cv, rfl⟩ := hl.form
 have hmx := hl.max
 refine zlu Tryz.func78 O Tryz.ntmps78 O (zlE ?_)
 refine Vs 14 O ?_
 refine zm3 (σ := Nat) [0, 1, 7] [] [] O (fun e i => (8, .int .i64 i) :: e) (fun e i => e) (fun i => i <= l.length /\ (l.take i).any p = false) (fun i => l.length - i) (0) (zl4 O) (zl5 O) (fun _ => rfl) (fun _ => rfl) (fun _ => rfl) (⟨zns _, by simp⟩) ?_
 rintro i ⟨hi, hno⟩
 refine Vs 6 O ?_
 refine zjn O (fun hlt => ?_) (fun hlt => ?_)
 ·
  refine Vs 15 O ?_
  obtain ⟨x, he_x, hm_x⟩ := gE_ l (i) (by omega)
  obtain ⟨b_x, o_x, c_x, ha_x, _, hc_x, hR_x⟩ := hl.at he_x
  obtain ⟨v1_x, rfl, hs_x⟩ := hR_x
  obtain ⟨a1_x, n1_x, rfl⟩ := hs_x.form
  refine zm0 1000 0 O O hc_x ?_
  refine V.ix 1000 tR34 ts27 O ha_x (by omega) (_) (rfl) O ?_
  refine Vs 1 O ?_
  refine zmg hf O (fun w hI => hc x _ w hI.k0 hm_x (Tr1 hI.k0 hs_x)) ?_
  refine Vs 2 O ?_
  refine V.bool O (fun hp => ?_) (fun hp => ?_)
  ·
   refine Vs 12 O ?_
   refine zjH tr78 O (fun w hI => ⟨_, rfl, by rw [zf2 hno he_x hp], hI.k0⟩)
  ·
   refine Va 7 O (by omega) ?_
   refine zjy (i + 1) (zl4 O) (zl5 O) (⟨by omega, zde he_x hno hp⟩) (by first | omega | (dsimp only; omega)) 0 O O
 ·
  obtain rfl : i = l.length := by omega
  rw [zni] at hno
  refine Vs 11 O ?_
  refine zjH tr78 O (fun w hI => ⟨_, rfl, by rw [zc3 hno], hI.k0⟩)
theorem zje (s c : List Int) (L : List (List Int)) : wtC s (c :: L) = (if zP c ≠ 0 /\ xg c = s then zP c else 0) + wtC s L := by
 unfold wtC
 rw [List.map_cons, List.sum_cons]
theorem zo6 {s : List Int} {L L' : List (List Int)} (h : L.Perm L') : wtC s L = wtC s L' := by
 induction h with
 | nil => rfl
 | cons x _ ih => rw [zje, zje, ih]
 | swap x y l => rw [zje, zje, zje, zje]; omega
 | trans _ _ h1 h2 => rw [h1, h2]
theorem znT {s : List Int} {L L' : List (List Int)} (h : L.Perm L') : zgq s L ↔ zgq s L' := by
 unfold zgq
 exact ⟨fun ⟨c, hc, g⟩ => ⟨c, h.mem_iff.1 hc, g⟩, fun ⟨c, hc, g⟩ => ⟨c, h.mem_iff.2 hc, g⟩⟩
theorem zjg {s : List Int} : ∀ {M : List (List Int × Int)}, (M.map (·.1)).Nodup -> (∀ p ∈ M, zP p.1 = 1 /\ 0 < p.2) -> (∀ p ∈ M, p.1 = s -> wtC s (zu M) = p.2) /\ ((∀ p ∈ M, p.1 ≠ s) -> wtC s (zu M) = 0)
 | [], _, _ => ⟨fun p hp => absurd hp (by simp), fun _ => rfl⟩
 | q :: M, hn, hg => by
  rw [List.map_cons, List.nodup_cons] at hn
  obtain ⟨h1, h2⟩ := zjg (s := s) hn.2 fun p hp => hg p (zng _ hp)
  obtain ⟨g1, g2⟩ := hg q (znh ..)
  obtain ⟨k1, k2⟩ := zix g1 g2
  have hc : wtC s (zu (q :: M)) = (if q.1 = s then q.2 else 0) + wtC s (zu M) := by
   show wtC s (q.1.map (q.2 * ·) :: zu M) = _
   rw [zje, k1, k2]
   by_cases e : q.1 = s
   . rw [zno ⟨by omega, e⟩, zno e]
   . rw [znn (fun g => e g.2), znn e]
  rw [hc]
  constructor
  ·
   intro p hp e
   rcases znt.1 hp with rfl | hp
   . rw [zno e, h2 fun r hr er => hn.1 (by rw [e, <- er]; exact List.mem_map.2 ⟨r, hr, rfl⟩), Int.add_zero]
   . rw [znn (fun eq => hn.1 (by rw [eq, <- e]; exact List.mem_map.2 ⟨p, hp, rfl⟩)), h1 p hp e, Int.zero_add]
  ·
   intro h
   rw [znn (h q (znh ..)), h2 fun p hp => h p (zng _ hp)]
   rfl
theorem znU {M : List (List Int × Int)} : (zj1 M).map (·.1) = M.map (·.1) := by
 unfold zj1
 rw [List.map_map]
 rfl
theorem IsAbs.idem {L out out2 : List (List Int)} (h : IsAbs L out) (h2 : IsAbs out out2) : out2 = out := by
 have m := xJ L
 have hp := h.perm
 rw [zdP m] at hp
 have hnd : ((zj1 (yg L)).map (·.1)).Nodup := by rw [znU]; exact m.nd
 have hgood := fun p hp => m.red (p := p) hp
 have hw := fun s => zjg (s := s) hnd hgood
 by_cases hne : yg L = []
 ·
  rw [hne] at hp
  have : out = [] := List.Perm.eq_nil (by simpa [zj1, zu] using hp)
  subst this
  have := h2.perm
  exact List.Perm.eq_nil (by simpa [yg, zu, xz] using this)
 ·
  obtain ⟨p0, hp0⟩ := List.exists_mem_of_ne_nil _ hne
  have hd0 := ya (List.mem_map.2 ⟨p0, hp0, rfl⟩ : p0.2 ∈ (yg L).map (·.2))
  have hG : 0 < zP ((yg L).map (·.2)) := by
   have h1 := yz ((yg L).map (·.2))
   have h3 := (m.good hp0).2
   rcases Int.lt_or_eq_of_le h1 with h4 | h4
   . exact h4
   ·
    rw [<- h4] at hd0
    have := Int.zero_dvd.1 hd0
    omega
  refine IsAbs.same (L := out) (L' := L) h2 h hG (fun s => ?_) (fun s => ?_)
  ·
   rw [znT hp, <- m.has, <- znU]
   constructor
   ·
    rintro ⟨c, hc, g1, g2⟩
    obtain ⟨p, hpp, rfl⟩ := List.mem_map.1 hc
    obtain ⟨k1, k2⟩ := hgood p hpp
    rw [(zix k1 k2).2] at g2
    exact List.mem_map.2 ⟨p, hpp, g2⟩
   ·
    intro hs
    obtain ⟨p, hpp, rfl⟩ := List.mem_map.1 hs
    obtain ⟨k1, k2⟩ := hgood p hpp
    exact ⟨_, List.mem_map.2 ⟨p, hpp, rfl⟩, by rw [(zix k1 k2).1]; omega, (zix k1 k2).2⟩
  ·
   rw [zo6 hp]
   by_cases hs : ∃ p ∈ yg L, p.1 = s
   ·
    obtain ⟨p, hpp, rfl⟩ := hs
    have hq : (p.1, p.2 / zP ((yg L).map (·.2))) ∈ zj1 (yg L) := List.mem_map.2 ⟨p, hpp, rfl⟩
    rw [(hw p.1).1 _ hq rfl, <- ((m.mem p).1 hpp).2]
    exact (Int.mul_ediv_cancel' (ya (List.mem_map.2 ⟨p, hpp, rfl⟩ : p.2 ∈ (yg L).map (·.2)))).symm
   ·
    have hs' : ∀ p ∈ zj1 (yg L), p.1 ≠ s := fun p hp e => by
     obtain ⟨q, hq, rfl⟩ := List.mem_map.1 hp
     exact hs ⟨q, hq, e⟩
    rw [(hw s).2 hs', Int.mul_zero]
    exact zdi fun c hc hc0 e => hs (by
     have := m.has.2 ⟨c, hc, hc0, e⟩
     obtain ⟨p, hpp, e2⟩ := List.mem_map.1 this
     exact ⟨p, hpp, e2⟩)
def zoa (c : Mx) (n : Int) : Prop := (c.length : Int) <= n /\ ∀ row ∈ c, (row.length : Int) <= n
theorem znP (c : Mx) (n : Int) (v : Value) (D : Nat -> Prop) (W : World) (hc : SlR 1 (RSl 1 zt) D W v c) : Calls Tryz.prog 16 #[.agg #[v], .int .i64 n] W (Ret fun r w' => (∃ q : Bool, r = .bool q /\ (q = true -> zoa c n)) /\ Ext W w') := by
 obtain ⟨av, cv, rfl⟩ := hc.form
 have hmx := hc.max
 refine zlu Tryz.func16 O Tryz.ntmps16 O (zlE ?_)
 refine Vs 2 O ?_
 refine V.box 2 O O (fun b2 => ?_)
 refine Vs 13 O ?_
 refine zjn O (fun g0 => ?_) (fun g0 => ?_)
 ·
  refine Vs 7 O ?_
  refine zjH Tryz.results16 O (fun w hI => ⟨_, rfl, ⟨_, rfl, fun h => by cases h⟩, hI.k0⟩)
 ·
  refine Vs 12 O ?_
  refine zm3 (σ := Nat) [1, 13, 14] [] [] O (fun e i => (15, .int .i64 i) :: e) (fun e i => e) (fun i => i <= c.length /\ ∀ j row, j < i -> c[j]? = some row -> (row.length : Int) <= n) (fun i => c.length - i) (0) (zl4 O) (zl5 O) (fun _ => rfl) (fun _ => rfl) (fun _ => rfl) (⟨zns _, fun j row h => absurd h (Nat.not_lt_zero _)⟩) ?_
  rintro i ⟨hi, hall⟩
  refine Vs 6 O ?_
  refine zjn O (fun hlt => ?_) (fun hlt => ?_)
  ·
   refine Vs 6 O ?_
   obtain ⟨x, he_x, hm_x⟩ := gE_ c (i) (by omega)
   obtain ⟨b_x, o_x, c_x, ha_x, _, hc_x, hR_x⟩ := hc.at he_x
   obtain ⟨v1_x, rfl, hs_x⟩ := hR_x
   obtain ⟨a1_x, n1_x, rfl⟩ := hs_x.form
   refine zm0 1000 0 O O hc_x ?_
   refine V.ix 1000 tR34 ts27 O ha_x (by omega) (_) (rfl) O ?_
   refine Vs 12 O ?_
   refine zjn O (fun g1 => ?_) (fun g1 => ?_)
   ·
    refine Vs 11 O ?_
    refine zjH Tryz.results16 O (fun w hI => ⟨_, rfl, ⟨_, rfl, fun h => by cases h⟩, hI.k0⟩)
   ·
    have hnx : i + 1 <= c.length /\ ∀ j row, j < i + 1 -> c[j]? = some row -> (row.length : Int) <= n := ⟨by omega, fun j row hj hr => by
     by_cases e : j = i
     ·
      subst e
      rw [he_x] at hr
      cases hr
      omega
     ·
      exact hall j row (by omega) hr⟩
    refine Va 7 O (by omega) ?_
    refine zjy (i + 1) (zl4 O) (zl5 O) (hnx) (by first | omega | (dsimp only; omega)) 0 O O
  ·
   obtain rfl : i = c.length := by omega
   have hres : zoa c n := ⟨by omega, fun row hr => by
    obtain ⟨k, hk⟩ := List.mem_iff_getElem?.1 hr
    exact hall k row (znr.1 hk).1 hk⟩
   refine Vs 11 O ?_
   refine zjH Tryz.results16 O (fun w hI => ⟨_, rfl, ⟨_, rfl, fun _ => hres⟩, hI.k0⟩)
def zof (r0 row : List Int) : Prop := row.length = r0.length /\ (∀ n ∈ row, 0 <= n /\ n <= 1048576) /\ row.sum = r0.sum /\ 1 <= row.sum /\ row.sum <= 1048576
theorem zo7 {l : List Int} {k : Nat} {x : Int} (h : l[k]? = some x) : (l.take (k + 1)).sum = (l.take k).sum + x := by rw [zh h, List.sum_append]; simp
theorem zji (c : Mx) (v : Value) (D : Nat -> Prop) (W : World) (hc : SlR 1 (RSl 1 zt) D W v c) : Calls Tryz.prog 20 #[.agg #[v]] W (Ret fun r w' => r = .bool (decide (VMx c)) /\ Ext W w') := by
 obtain ⟨av, cv, rfl⟩ := hc.form
 have hmx := hc.max
 refine zlt Tryz.func20 O Tryz.ntmps20 O (zlE ?_)
 refine Vs 2 O ?_
 refine V.box 1 O O (fun b1 => ?_)
 refine Vs 11 O ?_
 refine zlh 13 O (fun g0 => ?_) (fun g0 => ?_)
 ·
  refine Vs 31 O ?_
  refine zjH Tryz.results20 O (fun w hI => ⟨_, rfl, by rw [znq (fun h => by have := h.r1; omega)], hI.k0⟩)
 ·
  refine Vs 6 O ?_
  refine zlh 19 O (fun g1 => ?_) (fun g1 => ?_)
  ·
   refine Vs 25 O ?_
   refine zjH Tryz.results20 O (fun w hI => ⟨_, rfl, by rw [znq (fun h => by have := h.r2; omega)], hI.k0⟩)
  ·
   obtain ⟨r0, he_r0, hm_r0⟩ := gE_ c (0) (by omega)
   obtain ⟨b_r0, o_r0, c_r0, ha_r0, _, hc_r0, hR_r0⟩ := hc.at he_r0
   obtain ⟨v1_r0, rfl, hs_r0⟩ := hR_r0
   obtain ⟨a1_r0, n1_r0, rfl⟩ := hs_r0.form
   refine zm0 1000 0 O O hc_r0 ?_
   have hhd : c.headD [] = r0 := by
    cases c with
    | nil => simp at he_r0
    | cons a c => simpa using he_r0
   refine Vs 2 O ?_
   refine V.ix 1000 tR34 ts27 O ha_r0 (by omega) (0) (by omega) O ?_
   refine Vs 5 O ?_
   refine zlh 27 O (fun g2 => ?_) (fun g2 => ?_)
   ·
    refine Vs 17 O ?_
    refine zjH Tryz.results20 O (fun w hI => ⟨_, rfl, by rw [znq (fun h => by have := h.w1; rw [hhd] at this; omega)], hI.k0⟩)
   ·
    refine Vs 2 O ?_
    refine V.ix 1000 tR34 ts27 O ha_r0 (by omega) (0) (by omega) O ?_
    refine Vs 6 O ?_
    refine zjn O (fun g3 => ?_) (fun g3 => ?_)
    ·
     refine Vs 7 O ?_
     refine zjH Tryz.results20 O (fun w hI => ⟨_, rfl, by rw [znq (fun h => by have := h.w2; rw [hhd] at this; omega)], hI.k0⟩)
    ·
     have hno : ∀ row ∈ c, ¬ zof r0 row -> ¬ VMx c := fun row hr hb h => hb (by have := (vmx_ref.1 h).2 row hr; rwa [hhd] at this)
     refine Vs 17 O ?_
     refine zm3 (σ := Nat × Int) [1, 36, 37] [1] [1] O (fun e ⟨i, f⟩ => (38, .int .i64 i) :: (3, .int .i64 f) :: e) (fun e ⟨i, f⟩ => e) (fun ⟨i, f⟩ => i <= c.length /\ (∀ j row, j < i -> c[j]? = some row -> zof r0 row) /\ (0 < i -> f = r0.sum)) (fun ⟨i, f⟩ => c.length - i) ((0, 0)) (zl4 O) (zl5 O) (fun _ => rfl) (fun _ => rfl) (fun _ => rfl) (⟨zns _, fun j row h => absurd h (Nat.not_lt_zero _), fun h => absurd h (Nat.lt_irrefl 0)⟩) ?_
     rintro ⟨i, f⟩ ⟨hi, hall, hf⟩
     show V _ _ _ _ _ ((38, .int .i64 i) :: (3, .int .i64 f) :: _) _ (_) _
     refine Vs 6 O ?_
     refine zjn O (fun hlt => ?_) (fun hlt => ?_)
     ·
      obtain ⟨r1, he_r1, hm_r1⟩ := gE_ c (0) (by omega)
      obtain ⟨b_r1, o_r1, c_r1, ha_r1, _, hc_r1, hR_r1⟩ := hc.at he_r1
      obtain ⟨v1_r1, rfl, hs_r1⟩ := hR_r1
      obtain ⟨a1_r1, n1_r1, rfl⟩ := hs_r1.form
      refine zm0 2000 0 O O hc_r1 ?_
      have hr1 : r1 = r0 := by rw [he_r0] at he_r1; exact (Option.some.inj he_r1).symm
      have hrl1 : r1.length = r0.length := by rw [hr1]
      refine Vs 7 O ?_
      obtain ⟨row, he_row, hm_row⟩ := gE_ c (i) (by omega)
      obtain ⟨b_row, o_row, c_row, ha_row, _, hc_row, hR_row⟩ := hc.at he_row
      obtain ⟨v1_row, rfl, hs_row⟩ := hR_row
      obtain ⟨a1_row, n1_row, rfl⟩ := hs_row.form
      refine zm0 3000 0 O O hc_row ?_
      refine V.ix 3000 tR34 ts27 O ha_row (by omega) (_) (rfl) O ?_
      refine Vs 12 O ?_
      refine V.ix 2000 tR34 ts27 O ha_r1 (by omega) (0) (by omega) O ?_
      refine Vs 5 O ?_
      refine zjn O (fun w0 => ?_) (fun w0 => ?_)
      ·
       refine Vs 12 O ?_
       refine zjH Tryz.results20 O (fun w hI => ⟨_, rfl, by rw [znq (hno row hm_row (fun h => w0 (by have := h.1; omega)))], hI.k0⟩)
      ·
       have hrl : row.length = r0.length := by omega
       refine Vs 16 O ?_
       refine zm3 (σ := Nat × Int) [1, 3, 4, 36, 37, 38, 51, 52] [1] [1] O (fun e ⟨k, s⟩ => (53, .int .i64 k) :: (6, .int .i64 s) :: e) (fun e ⟨k, s⟩ => e) (fun ⟨k, s⟩ => k <= row.length /\ (∀ n ∈ row.take k, 0 <= n /\ n <= 1048576) /\ s = (row.take k).sum /\ 0 <= s /\ s <= k * 1048576) (fun ⟨k, s⟩ => row.length - k) ((0, 0)) (zl4 O) (zl5 O) (fun _ => rfl) (fun _ => rfl) (fun _ => rfl) (⟨zns _, fun n hn => by simp at hn, rfl, Int.le_refl 0, by omega⟩) ?_
       rintro ⟨k, s⟩ ⟨hk, hin, hs, hs0, hs1⟩
       show V _ _ _ _ _ ((53, .int .i64 k) :: (6, .int .i64 s) :: _) _ (_) _
       refine Vs 6 O ?_
       refine zjn O (fun hlt2 => ?_) (fun hlt2 => ?_)
       ·
        refine Vs 6 O ?_
        obtain ⟨x, he_x, hm_x⟩ := gE_ row (k) (by omega)
        obtain ⟨b_x, o_x, c_x, ha_x, _, hc_x, hR_x⟩ := hs_row.at he_x
        obtain rfl := hR_x
        refine zm0 4000 0 O O hc_x ?_
        refine V.ix 4000 tR27 ts3 O ha_x (by omega) (_) (rfl) O ?_
        refine Vs 10 O ?_
        refine zlh 59 O (fun w1 => ?_) (fun w1 => ?_)
        ·
         refine Vs 23 O ?_
         refine zjH Tryz.results20 O (fun w hI => ⟨_, rfl, by rw [znq (hno row hm_row (fun h => by have := h.2.1 x hm_x; omega))], hI.k0⟩)
        ·
         refine Vs 5 O ?_
         refine zjn O (fun w2 => ?_) (fun w2 => ?_)
         ·
          refine Vs 17 O ?_
          refine zjH Tryz.results20 O (fun w hI => ⟨_, rfl, by rw [znq (hno row hm_row (fun h => by have := h.2.1 x hm_x; omega))], hI.k0⟩)
         ·
          have hin2 : ∀ n ∈ row.take (k + 1), 0 <= n /\ n <= 1048576 := fun n hn => by
           rw [zh he_x, znw, znv] at hn
           rcases hn with hn | rfl
           . exact hin n hn
           . omega
          have hs2 := zo7 he_x
          refine Va 14 O (by omega) ?_
          refine zjy (⟨k + 1, s + x⟩) (zl4 O) (zl5 O) (⟨by omega, hin2, by rw [hs2, hs], by omega, by omega⟩) (by first | omega | (dsimp only; omega)) 0 O O
       ·
        obtain rfl : k = row.length := by omega
        rw [zni] at hin hs
        refine Vs 6 O ?_
        refine zm4 (σ := Int) [1, 6, 36, 37, 38] [1] [1] O (fun e f' => (3, .int .i64 f') :: e) (fun e f' => e) (fun f' => f' = if i = 0 then row.sum else f) (fun _ => rfl) (fun _ => rfl) ?_ ?_
        ·
         refine Vs 6 O ?_
         refine zjn O (fun z0 => ?_) (fun z0 => ?_)
         ·
          refine Vs 4 O ?_
          refine zjD (row.sum) (Sub.cons (by rw [hs]; rfl) (zl4 O)) (zl5 O) (by rw [zno (by omega)]) 0 O O
         ·
          refine Vs 1 O ?_
          refine zjD (f) (zl4 O) (zl5 O) (by rw [znn (by omega)]) 0 O O
        rintro f' hf'
        show V _ _ _ _ _ ((3, .int .i64 f') :: _) _ (_) _
        have hfr : f' = r0.sum := by
         by_cases e : i = 0
         ·
          subst e
          rw [zno rfl] at hf'
          have : row = r0 := by rw [he_r0] at he_row; exact (Option.some.inj he_row).symm
          rw [hf', this]
         ·
          rw [znn e] at hf'
          rw [hf']
          exact hf (by omega)
        refine Vs 7 O ?_
        refine zlh 73 O (fun y0 => ?_) (fun y0 => ?_)
        ·
         refine Vs 21 O ?_
         refine zjH Tryz.results20 O (fun w hI => ⟨_, rfl, by rw [znq (hno row hm_row (fun h => y0 (by rw [hs, hfr]; exact h.2.2.1)))], hI.k0⟩)
        ·
         refine Vs 4 O ?_
         refine zlh 77 O (fun y1 => ?_) (fun y1 => ?_)
         ·
          refine Vs 17 O ?_
          refine zjH Tryz.results20 O (fun w hI => ⟨_, rfl, by rw [znq (hno row hm_row (fun h => by have := h.2.2.2.1; omega))], hI.k0⟩)
         ·
          refine Vs 5 O ?_
          refine zjn O (fun y2 => ?_) (fun y2 => ?_)
          ·
           refine Vs 11 O ?_
           refine zjH Tryz.results20 O (fun w hI => ⟨_, rfl, by rw [znq (hno row hm_row (fun h => by have := h.2.2.2.2; omega))], hI.k0⟩)
          ·
           have hrow : zof r0 row := ⟨hrl, hin, by omega, by omega, by omega⟩
           have hall2 : ∀ j row, j < i + 1 -> c[j]? = some row -> zof r0 row := fun j row' hj hr => by
            by_cases e : j = i
            ·
             subst e
             rw [he_row] at hr
             cases hr
             exact hrow
            . exact hall j row' (by omega) hr
           refine Va 7 O (by omega) ?_
           refine zjy (⟨i + 1, f'⟩) (zl4 O) (zl5 O) (⟨by omega, hall2, fun _ => hfr⟩) (by first | omega | (dsimp only; omega)) 0 O O
     ·
      obtain rfl : i = c.length := by omega
      have hres : VMx c := vmx_ref.2 ⟨⟨by omega, by omega, by rw [hhd]; omega, by rw [hhd]; omega⟩, fun row hr => by
       obtain ⟨k, hk⟩ := List.mem_iff_getElem?.1 hr
       rw [hhd]
       exact hall k row (znr.1 hk).1 hk⟩
      refine Vs 11 O ?_
      refine zjH Tryz.results20 O (fun w hI => ⟨_, rfl, by rw [znp hres], hI.k0⟩)
theorem znQ (c : Mx) (hv : VMx c) (v : Value) (D : Nat -> Prop) (W : World) (hc : SlR 1 (RSl 1 zt) D W v c) : Calls Tryz.prog 22 #[.agg #[v]] W (Ret fun r w' => SlR 1 (RSl 1 zt) (fun b => W.heap.size <= b) w' r (zN c) /\ Ext W w') := by
 obtain ⟨av, cv, rfl⟩ := hc.form
 have hr1 := hv.r1
 have hr2 := hv.r2
 have hw2 := hv.w2
 have hwid := hv.wid
 refine zlt Tryz.func22 O Tryz.ntmps22 O (zlE ?_)
 obtain ⟨r0, he_r0, hm_r0⟩ := gE_ c (0) (by omega)
 obtain ⟨b_r0, o_r0, c_r0, ha_r0, _, hc_r0, hR_r0⟩ := hc.at he_r0
 obtain ⟨v1_r0, rfl, hs_r0⟩ := hR_r0
 obtain ⟨a1_r0, n1_r0, rfl⟩ := hs_r0.form
 refine zm0 1000 0 O O hc_r0 ?_
 have hhd : c.headD [] = r0 := by
  cases c with
  | nil => simp at he_r0
  | cons a c => simpa using he_r0
 rw [hhd] at hwid hw2
 refine Vs 2 O ?_
 refine V.box 1 O O (fun b1 => ?_)
 refine Vs 5 O ?_
 refine V.bs0 7 tR34 ts27 O (fun b7 => ?_)
 refine Vs 8 O ?_
 refine V.ix 1000 tR34 ts27 O ha_r0 (by omega) (0) (by omega) O ?_
 refine Vs 5 O ?_
 refine zmc 7 (e' := OwP 27 1 (RSl 1 zt) (fun _ => False) (.slice (some ⟨b7, 0, none⟩) 0 0) []) O (fun w hI => ⟨⟨[], hI.at 7 rfl, fun i x h => by simp at h⟩, fun _ h => h.elim⟩) OwP.loc (fun _ h => h) (fun q hq => hq.elim id False.elim) ?_
 refine Vs 1 O ?_
 refine zm3 (σ := Nat × Value × (Nat -> Prop)) [1, 12] [1] [1] O (fun e ⟨y, u, F⟩ => (13, .int .i64 y) :: (3, u) :: e) (fun e ⟨y, u, F⟩ => (7, OwP 27 1 (RSl 1 zt) F u ((zN c).take y)) :: e) (fun ⟨y, u, F⟩ => y <= r0.length) (fun ⟨y, u, F⟩ => r0.length - y) ((0, .slice (some ⟨b7, 0, none⟩) 0 0, fun _ => False)) (zl4 O) (zl5 O) (fun _ => rfl) (fun _ => rfl) (fun _ => rfl) (zns _) ?_
 rintro ⟨y, u, F⟩ hy
 show V _ _ _ _ _ ((13, .int .i64 y) :: (3, u) :: _) _ ((7, OwP 27 1 (RSl 1 zt) F u ((zN c).take y)) :: _) _
 have htl : (zN c).length = r0.length := by rw [qi, hhd]
 have hyl : ((zN c).take y).length = y := by rw [znH, htl]; omega
 refine Vs 6 O ?_
 refine zjn O (fun hlt => ?_) (fun hlt => ?_)
 ·
  have htk := zfq (c := c) (y := y) (by rw [hhd]; omega)
  refine Vs 12 O ?_
  refine V.bs0 16 tR27 ts3 O (fun b16 => ?_)
  refine Vs 13 O ?_
  refine zm3 (σ := Nat × Value) [1, 3, 4, 12, 13, 19] [1, 7] [1] O (fun e ⟨x, u2⟩ => (20, .int .i64 x) :: (5, u2) :: e) (fun e ⟨x, u2⟩ => (16, .row 3 1 u2 x (((jm c y).take x).map zd)) :: e) (fun ⟨x, u2⟩ => x <= c.length) (fun ⟨x, u2⟩ => c.length - x) ((0, _)) (zl4 O) (zl5 O) (fun _ => rfl) (fun _ => rfl) (fun _ => rfl) (zns _) ?_
  rintro ⟨x, u2⟩ hx
  show V _ _ _ _ _ ((20, .int .i64 x) :: (5, u2) :: _) _ ((16, .row 3 1 u2 x (((jm c y).take x).map zd)) :: _) _
  refine Vs 6 O ?_
  refine zjn O (fun hlt2 => ?_) (fun hlt2 => ?_)
  ·
   refine Vs 15 O ?_
   obtain ⟨row, he_row, hm_row⟩ := gE_ c (x) (by omega)
   obtain ⟨b_row, o_row, c_row, ha_row, _, hc_row, hR_row⟩ := hc.at he_row
   obtain ⟨v1_row, rfl, hs_row⟩ := hR_row
   obtain ⟨a1_row, n1_row, rfl⟩ := hs_row.form
   refine zm0 2000 0 O O hc_row ?_
   refine V.ix 2000 tR34 ts27 O ha_row (by omega) (_) (rfl) O ?_
   have hrl := hwid row hm_row
   obtain ⟨e, he_e, hm_e⟩ := gE_ row (y) (by omega)
   obtain ⟨b_e, o_e, c_e, ha_e, _, hc_e, hR_e⟩ := hs_row.at he_e
   obtain rfl := hR_e
   refine zm0 3000 0 O O hc_e ?_
   refine Vs 2 O ?_
   refine V.ix 3000 tR27 ts3 O ha_e (by omega) (y) (by omega) O ?_
   refine Vs 1 O ?_
   refine zm6 32 [(0, _)] tR27 ts3 tz3 (by decide) O O (by kernel_rfl) (fun b32 => ?_)
   refine zlN 16 32 tu27 Tryz.el3 O (by decide) O O (by omega) (by omega) (fun u16 => ?_)
   refine Va 8 O (by omega) ?_
   refine zm2 16 O (e' := .row 3 1 u16 (x + 1) (((jm c y).take (x + 1)).map zd)) (by rw [zh (show (jm c y)[x]? = some e by unfold jm; rw [znu, he_row]; show some (row[y]?.getD 0) = _; rw [he_e]; rfl), List.map_append]; rfl) ?_
   refine zjy (⟨x + 1, u16⟩) (zl4 O) (zl5 O) (by omega) (by first | omega | (dsimp only; omega)) 0 O O
  ·
   obtain rfl : x = c.length := by omega
   refine zm2 16 O (e' := .row 3 1 u2 (jm c y).length ((jm c y).map zd)) (by rw [List.take_of_length_le (by rw [xK]; exact znC _), xK]) ?_
   refine zlF (fun w hI => qJ (show w.ownsRow 0 3 1 u2 _ _ from hI.at 16 O)) ?_
   rintro ⟨ab, cb, rfl⟩
   refine zmc 16 (e' := DaP (RSl 1 zt) (fun q => (Value.slice ab (jm c y).length cb).ownBlock = some q) (jm c y) [.slice ab (jm c y).length cb]) O (fun w hI => ⟨_, rfl, zkx zd (fun _ _ => rfl) (hI.at 16 O) (fun g hg => hg)⟩) DaP.loc (fun _ h => h) (fun q hq => hq) ?_
   refine Vs 8 O ?_
   refine zm6 37 [(0, _)] tR34 ts27 tz27 (by decide) O O (by kernel_rfl) (fun b37 => ?_)
   refine zmt [7, 16] (Hn := fun u => [(7, OwP 27 1 (RSl 1 zt) (fun q => F q \/ (Value.slice ab (jm c y).length cb).ownBlock = some q) u ((zN c).take y ++ [jm c y]))]) (u := fun u => u) [(1, some (1, 0))] O (fun _ => rfl) (fun _ => rfl) (fun w hI => zmu 7 16 37 hI O O O O tu34 Tryz.el27 O (by decide) O O O (fun D x cs h => zgO D x cs h) (by omega) (by omega)) (fun u7 => ?_)
   refine Va 8 O (by omega) ?_
   rw [<- htk]
   refine zjy (⟨y + 1, u7, fun q => F q \/ (Value.slice ab (jm c y).length cb).ownBlock = some q⟩) (zl4 O) (zl5 O) (by omega) (by first | omega | (dsimp only; omega)) 0 O O
 ·
  obtain rfl : y = r0.length := by omega
  rw [<- htl, zni]
  refine Vs 12 O ?_
  refine zjH Tryz.results22 O (fun w hI => ⟨_, rfl, (show OwH _ _ _ _ _ _ _ from hI.at 7 O).sl (by omega) (fun q hq => hI.own 7 0 O O q hq), hI.k0⟩)
theorem znV {n : Nat} {l : Mx} {x : Nat} (h : x < n) : (jD n l).take (x + 1) = (jD n l).take x ++ [jm l x] := zh (by unfold jD; rw [znu, List.getElem?_range h]; rfl)
theorem znK (n : Nat) (l : Mx) (hl : ∀ col ∈ l, col.length = n) (hn : n <= 1000000) (hll : l.length <= 1000000) (v : Value) (D : Nat -> Prop) (W : World) (hc : SlR 1 (RSl 1 zt) D W v l) : Calls Tryz.prog 24 #[.int .i64 n, v] W (Ret fun r w' => (∃ u, r = .agg #[u] /\ SlR 1 (RSl 1 zt) (fun b => W.heap.size <= b) w' u (jD n l)) /\ Ext W w') := by
 obtain ⟨av, cv, rfl⟩ := hc.form
 have hrl := zc6 n l
 refine zlu Tryz.func24 O Tryz.ntmps24 O (zlE ?_)
 refine Vs 2 O ?_
 refine V.alloc 4 tz36 O O (fun b4 => ?_)
 refine Vs 4 O ?_
 refine V.alloc 5 tz36 O O (fun b5 => ?_)
 refine Vs 8 O ?_
 refine zlM 900 27 1 O ?_
 refine zmc 900 (e' := OwP 27 1 (RSl 1 zt) (fun _ => False) (.slice none 0 0) []) O (fun w hI => OwH.nil) OwP.loc (fun _ h => h) (fun q hq => hq.elim id False.elim) ?_
 refine Vs 1 O ?_
 refine zm3 (σ := Nat × Option Addr × Nat × (Nat -> Prop)) [0, 1, 4, 5] [4] [4, 5] O (fun e ⟨x, aj, cj, F⟩ => (6, .int .i64 x) :: e) (fun e ⟨x, aj, cj, F⟩ => (5, .own b5 [.slice aj ((jD n l).take x).length cj] 36) :: (900, OwP 27 1 (RSl 1 zt) F (.slice aj ((jD n l).take x).length cj) ((jD n l).take x)) :: e) (fun ⟨x, aj, cj, F⟩ => x <= n) (fun ⟨x, aj, cj, F⟩ => n - x) ((0, none, 0, fun _ => False)) (zl4 O) (zl5 O) (fun _ => rfl) (fun _ => rfl) (fun _ => rfl) (zns _) ?_
 rintro ⟨x, aj, cj, F⟩ hx
 show V _ _ _ _ _ ((6, .int .i64 x) :: _) _ ((5, .own b5 [.slice aj ((jD n l).take x).length cj] 36) :: (900, OwP 27 1 (RSl 1 zt) F (.slice aj ((jD n l).take x).length cj) ((jD n l).take x)) :: _) _
 have hxl : ((jD n l).take x).length = x := by rw [znH, hrl]; omega
 refine Vs 8 O ?_
 refine zjn O (fun hlt => ?_) (fun hlt => ?_)
 ·
  have htk := znV (n := n) (l := l) (x := x) (by omega)
  refine Vs 6 O ?_
  refine V.bs0 15 tR27 ts3 O (fun b15 => ?_)
  refine Vs 12 O ?_
  refine zm3 (σ := Nat × Value) [0, 1, 4, 5, 6, 16, 17] [4, 5, 900] [4, 5] O (fun e ⟨k, u2⟩ => (18, .int .i64 k) :: (7, u2) :: e) (fun e ⟨k, u2⟩ => (15, .row 3 1 u2 k (((jm l x).take k).map zd)) :: e) (fun ⟨k, u2⟩ => k <= l.length) (fun ⟨k, u2⟩ => l.length - k) ((0, _)) (zl4 O) (zl5 O) (fun _ => rfl) (fun _ => rfl) (fun _ => rfl) (zns _) ?_
  rintro ⟨k, u2⟩ hk
  show V _ _ _ _ _ ((18, .int .i64 k) :: (7, u2) :: _) _ ((15, .row 3 1 u2 k (((jm l x).take k).map zd)) :: _) _
  refine Vs 6 O ?_
  refine zjn O (fun hlt2 => ?_) (fun hlt2 => ?_)
  ·
   refine Vs 6 O ?_
   obtain ⟨row, he_row, hm_row⟩ := gE_ l (k) (by omega)
   obtain ⟨b_row, o_row, c_row, ha_row, _, hc_row, hR_row⟩ := hc.at he_row
   obtain ⟨v1_row, rfl, hs_row⟩ := hR_row
   obtain ⟨a1_row, n1_row, rfl⟩ := hs_row.form
   refine zm0 1000 0 O O hc_row ?_
   refine V.ix 1000 tR34 ts27 O ha_row (by omega) (_) (rfl) O ?_
   have hrw := hl row hm_row
   obtain ⟨e, he_e, hm_e⟩ := gE_ row (x) (by omega)
   obtain ⟨b_e, o_e, c_e, ha_e, _, hc_e, hR_e⟩ := hs_row.at he_e
   obtain rfl := hR_e
   refine zm0 2000 0 O O hc_e ?_
   refine Vs 8 O ?_
   refine V.ix 2000 tR27 ts3 O ha_e (by omega) (x) (by omega) O ?_
   refine Vs 1 O ?_
   refine zm6 27 [(0, _)] tR27 ts3 tz3 (by decide) O O (by kernel_rfl) (fun b27 => ?_)
   refine zlN 15 27 tu27 Tryz.el3 O (by decide) O O (by omega) (by omega) (fun u15 => ?_)
   refine Va 8 O (by omega) ?_
   refine zm2 15 O (e' := .row 3 1 u15 (k + 1) (((jm l x).take (k + 1)).map zd)) (by rw [zh (show (jm l x)[k]? = some e by unfold jm; rw [znu, he_row]; show some (row[x]?.getD 0) = _; rw [he_e]; rfl), List.map_append]; rfl) ?_
   refine zjy (⟨k + 1, u15⟩) (zl4 O) (zl5 O) (by omega) (by first | omega | (dsimp only; omega)) 0 O O
  ·
   obtain rfl : k = l.length := by omega
   refine zm2 15 O (e' := .row 3 1 u2 (jm l x).length ((jm l x).map zd)) (by rw [List.take_of_length_le (by rw [xK]; exact znC _), xK]) ?_
   refine zlF (fun w hI => qJ (show w.ownsRow 0 3 1 u2 _ _ from hI.at 15 O)) ?_
   rintro ⟨ab, cb, rfl⟩
   refine zmc 15 (e' := DaP (RSl 1 zt) (fun q => (Value.slice ab (jm l x).length cb).ownBlock = some q) (jm l x) [.slice ab (jm l x).length cb]) O (fun w hI => ⟨_, rfl, zkx zd (fun _ _ => rfl) (hI.at 15 O) (fun g hg => hg)⟩) DaP.loc (fun _ h => h) (fun q hq => hq) ?_
   refine Vs 9 O ?_
   refine zm6 33 [(0, _)] tR34 ts27 tz27 (by decide) O O (by kernel_rfl) (fun b33 => ?_)
   refine zmt [900, 15] (Hn := fun u => [(900, OwP 27 1 (RSl 1 zt) (fun q => F q \/ (Value.slice ab (jm l x).length cb).ownBlock = some q) u ((jD n l).take x ++ [jm l x]))]) (u := fun u => u) [(4, some (4, 0)), (5, some (5, 0)), (30, some (5, 0))] O (fun _ => rfl) (fun _ => rfl) (fun w hI => zmu 900 15 33 hI O O O O tu34 Tryz.el27 O (by decide) O O O (fun D x cs h => zgO D x cs h) (by omega) (by omega)) (fun u900 => ?_)
   refine zlF (p := ∃ ao c, u900 = .slice ao ((jD n l).take x ++ [jm l x]).length c) (fun w hI => zds (hI.at 900 O)) (fun hu => ?_)
   obtain ⟨an, cn, rfl⟩ := hu
   refine Va 10 O (by omega) ?_
   rw [<- htk] at *
   refine zjy (⟨x + 1, an, cn, fun q => F q \/ (Value.slice ab (jm l x).length cb).ownBlock = some q⟩) (zl4 O) (zl5 O) (by omega) (by first | omega | (dsimp only; omega)) 0 O O
 ·
  obtain rfl : x = n := by omega
  rw [List.take_of_length_le (by rw [hrl]; exact znC _)] at *
  refine Vs 12 O ?_
  refine zjP Tryz.results24 tg36 ts36 O O O (fun w hI => ⟨_, rfl, ⟨_, rfl, (show OwH _ _ _ _ _ _ _ from hI.at 900 O).sl (by omega) (fun q hq => hI.own 900 0 O O q hq)⟩, hI.k0⟩)
theorem znM (l : List Int) (v : Value) (D : Nat -> Prop) (W : World) (hl : SlR 1 zt D W v l) (hn : ∀ x ∈ l, 0 <= x /\ x <= 9223372036854775807) : Calls Tryz.prog 77 #[v] W (Ret fun r w' => r = .int .i64 (zP l) /\ Ext W w') := by
 obtain ⟨av, cv, rfl⟩ := hl.form
 have hmx := hl.max
 refine zlt Tryz.func77 O Tryz.ntmps77 O (zlE ?_)
 refine Vs 19 O ?_
 refine zm3 (σ := Nat × Int) [6, 7] [] [] O (fun e ⟨i, g⟩ => (8, .int .i64 i) :: (3, .int .i64 g) :: e) (fun e ⟨i, g⟩ => e) (fun ⟨i, g⟩ => i <= l.length /\ 0 <= g /\ g <= 9223372036854775807 /\ (l.drop i).foldl (fun g n => (Int.gcd g n : Int)) g = zP l) (fun ⟨i, g⟩ => l.length - i) ((0, 0)) (zl4 O) (zl5 O) (fun _ => rfl) (fun _ => rfl) (fun _ => rfl) (⟨zns _, Int.le_refl 0, by omega, rfl⟩) ?_
 rintro ⟨i, g⟩ ⟨hi, h0, h1, heq⟩
 show V _ _ _ _ _ ((8, .int .i64 i) :: (3, .int .i64 g) :: _) _ (_) _
 refine Vs 6 O ?_
 refine zjn O (fun hlt => ?_) (fun hlt => ?_)
 ·
  refine Vs 6 O ?_
  obtain ⟨x, he_x, hm_x⟩ := gE_ l (i) (by omega)
  obtain ⟨b_x, o_x, c_x, ha_x, _, hc_x, hR_x⟩ := hl.at he_x
  obtain rfl := hR_x
  refine zm0 1000 0 O O hc_x ?_
  refine V.ix 1000 tR27 ts3 O ha_x (by omega) (_) (rfl) O ?_
  have hx := hn x hm_x
  rw [yC he_x, List.foldl_cons] at heq
  refine Vs 5 O ?_
  refine zm3 (σ := Int × Int) [6, 7, 8] [] [] O (fun e ⟨d, n⟩ => (3, .int .i64 d) :: (5, .int .i64 n) :: e) (fun e ⟨d, n⟩ => e) (fun ⟨d, n⟩ => 0 <= d /\ 0 <= n /\ d <= 9223372036854775807 /\ n <= 9223372036854775807 /\ Int.gcd d n = Int.gcd g x) (fun ⟨d, n⟩ => n.toNat) ((g, x)) (zl4 O) (zl5 O) (fun _ => rfl) (fun _ => rfl) (fun _ => rfl) (⟨h0, hx.1, h1, hx.2, rfl⟩) ?_
  rintro ⟨d, n⟩ ⟨k0, k1, k2, k3, k4⟩
  show V _ _ _ _ _ ((3, .int .i64 d) :: (5, .int .i64 n) :: _) _ (_) _
  refine Vs 7 O ?_
  refine zjn O (fun z => ?_) (fun z => ?_)
  ·
   have e1 := Int.tmod_lt_of_pos d (show 0 < n by omega)
   have e2 := Int.tmod_nonneg n k0
   have e3 := zgy d n k0
   refine Vs 3 O ?_
   refine Vq (by kernel_rfl) ?_
   refine Vs 3 O ?_
   refine zmb O (fun w hI => R.rem O O (by omega) (by omega)) ?_
   refine Vs 4 O ?_
   refine zjy (⟨n, d.tmod n⟩) (zl4 O) (zl5 O) (⟨k1, e2, k3, by omega, by rw [<- e3]; exact k4⟩) (by first | omega | (dsimp only; omega)) 0 O O
  ·
   obtain rfl : n = 0 := by omega
   have hd : ((Int.gcd g x : Nat) : Int) = d := by rw [<- k4, Int.gcd_zero_right]; omega
   rw [hd] at heq
   refine Va 10 O (by omega) ?_
   refine zjy (⟨i + 1, d⟩) (zl4 O) (zl5 O) (⟨by omega, k0, k2, heq⟩) (by first | omega | (dsimp only; omega)) 0 O O
 ·
  obtain rfl : i = l.length := by omega
  rw [List.drop_length] at heq
  have heq : g = zP l := heq
  refine Vs 12 O ?_
  refine zjH Tryz.results77 O (fun w hI => ⟨_, rfl, by rw [<- heq], hI.k0⟩)
theorem znW (xs ys : List Int) (u v : Value) (D D' : Nat -> Prop) (b : Nat) (W : World) (hx : SlR 1 zt D W u xs) (hy : SlR 1 zt D' W v ys) (hB : Cells W b 0 [v]) : Calls Tryz.prog 79 #[u, .pointer (some ⟨b, 0, none⟩)] W (Ret fun r w' => r = .bool (decide (xs = ys)) /\ Ext W w') := by
 refine zlu Tryz.func79 O Tryz.ntmps79 O (zlE ?_)
 refine zm1 900 0 O O (fun h => h) hB ?_
 refine zlK 1 900 0 O O ?_
 refine Vs 9 O ?_
 refine zlT Tryz.call27 O (fun w hI => zdt xs ys _ _ D D' w (Tr1 hI.k0 hx) (Tr1 hI.k0 hy)) ?_
 refine Vs 4 O ?_
 refine zjH Tryz.results79 O (fun w hI => ⟨_, rfl, rfl, hI.k0⟩)
theorem znX (xs ys : List Int) (u v : Value) (D D' : Nat -> Prop) (W : World) (hx : SlR 1 zt D W u xs) (hy : SlR 1 zt D' W v ys) : Calls Tryz.prog 80 #[u, v] W (Ret fun r w' => r = .int .i64 (xp ys xs) /\ Ext W w') := by
 refine zlu Tryz.func80 O Tryz.ntmps80 O (zlE ?_)
 refine Vs 9 O ?_
 refine zlT Tryz.call75 O (fun w hI => kY ys xs v u D' D w (Tr1 hI.k0 hy) (Tr1 hI.k0 hx)) ?_
 refine Vs 4 O ?_
 refine zjH Tryz.results80 O (fun w hI => ⟨_, rfl, rfl, hI.k0⟩)
theorem zjh {C : Mx} {hs : List Value} {O_q F B S : Nat -> Prop} {w2 w : World} (h1 : SumOwn C hs O_q F w) (h2 : SumOld C hs O_q B w2) (hk : Keep S w2 w) (hB : ∀ b, B b -> b < w2.heap.size -> ¬ S b) {i : Nat} {x : List Int} {v : Value} (hx : C[i]? = some x) (hv : hs[i]? = some v) : SlR 1 zt (fun _ => True) w v x := by
 by_cases hO : O_q i
 ·
  obtain ⟨u, h3, h4⟩ := h1 i x hO hx
  rw [hv] at h3
  cases h3
  exact h4.wide za fun _ _ => trivial
 ·
  obtain ⟨u, h3, h4⟩ := h2 i x hO hx
  rw [hv] at h3
  cases h3
  exact (h4.keep za hk hB).wide za fun _ _ => trivial
theorem znY {D : Nat -> Prop} {w : World} {ao : Option Addr} {n c : Nat} {l : List Int} {b o : Nat} (h : SlR 1 zt D w (.slice ao n c) l) (ha : ao = some ⟨b, o, none⟩) {i : Nat} {x : Int} (hx : l[i]? = some x) : w.cell? ⟨b, o + (i : Int).toNat * 1, none⟩ = some (.int .i64 x) := by
 obtain ⟨b', o', cs, h1, _, h3, h4⟩ := h.atD hx
 rw [ha] at h1
 simp only [Option.some.injEq, Addr.mk.injEq, and_true] at h1
 obtain ⟨rfl, rfl⟩ := h1
 cases h4
 have := h3 0 (.int .i64 x) rfl
 simpa using this
theorem znZ {D : Nat -> Prop} {w : World} {ao : Option Addr} {n c : Nat} {l : List Int} (h : SlR 1 zt D w (.slice ao n c) l) (hl : 0 < l.length) : ∃ b o, ao = some ⟨b, o, none⟩ := by
 obtain ⟨x, hx⟩ : ∃ x, l[0]? = some x := ⟨_, znd hl⟩
 obtain ⟨b, o, cs, h1, _⟩ := h.atD hx
 exact ⟨b, o, h1⟩
theorem znN {T : Mx} {y : Nat} {col r : List Int} (hc : T[y]? = some col) (hg : zP col ≠ 0) {k : Nat} (hk : ((yg (T.take y)).map (·.1))[k]? = some (xg col)) (hr : (zu (yg (T.take y)))[k]? = some r) :
  (yg (T.take (y + 1))).map (·.1) = (yg (T.take y)).map (·.1) /\ zu (yg (T.take (y + 1))) = (zu (yg (T.take y))).set k (List.zipWith (· + ·) r col) := by
 have hsp := xJ (T.take y)
 have hmem : xg col ∈ (yg (T.take y)).map (·.1) := zne hk
 have hm : yg (T.take (y + 1)) = (yg (T.take y)).map (fun q => if q.1 = xg col then (q.1, q.2 + zP col) else q) := by
  rw [zbe hc]
  unfold yJ
  rw [znn hg, zno hmem]
 refine ⟨by rw [hm, List.map_map]; exact List.map_congr_left fun q _ => by simp only [Function.comp]; split <;> rfl, ?_⟩
 apply List.ext_getElem?
 intro i
 rw [hm, List.getElem?_set]
 unfold zu at hr ⊢
 rw [List.map_map, znu, znu, znx]
 rw [znu] at hr hk
 by_cases e : k = i
 ·
  subst e
  rw [zno rfl]
  obtain ⟨q, hq, hqe⟩ := Option.map_eq_some_iff.1 hk
  rw [hq] at hr ⊢
  have hr : q.1.map (q.2 * ·) = r := Option.some.inj hr
  rw [zno (znr.1 hq).1]
  simp only [Option.map_some, Function.comp, zno hqe, Option.some.injEq]
  have hcol : col = q.1.map (zP col * ·) := by rw [hqe, za6]
  rw [<- hr]
  conv => rhs; rw [hcol]
  rw [List.zipWith_map, List.zipWith_self]
  exact List.map_congr_left fun x _ => by rw [Int.add_mul]
 ·
  rw [znn e]
  cases hq : (yg (T.take y))[i]? with
  | none => rfl
  | some q =>
   simp only [Option.map_some, Function.comp]
   rw [znn]
   intro hqe
   have h1 : ((yg (T.take y)).map (·.1))[i]? = some (xg col) := by rw [znu, hq]; exact congrArg some hqe
   have h2 : ((yg (T.take y)).map (·.1))[k]? = some (xg col) := by rw [znu]; exact hk
   exact e ((jC hsp.nd h2).symm.trans (jC hsp.nd h1))
theorem znO {T : Mx} {y : Nat} {col : List Int} (hc : T[y]? = some col) (hg : zP col ≠ 0) (hn : xg col ∉ (yg (T.take y)).map (·.1)) : yg (T.take (y + 1)) = yg (T.take y) ++ [(xg col, zP col)] /\ zu (yg (T.take (y + 1))) = zu (yg (T.take y)) ++ [col] := by
 have h : yg (T.take (y + 1)) = yg (T.take y) ++ [(xg col, zP col)] := by
  rw [zbe hc]
  unfold yJ
  rw [znn hg, znn hn]
 refine ⟨h, ?_⟩
 rw [h]
 unfold zu
 rw [List.map_append]
 simp [za6]
theorem zjj {T : Mx} {y : Nat} {col : List Int} (hc : T[y]? = some col) (hg : zP col = 0) : yg (T.take (y + 1)) = yg (T.take y) := by rw [zbe hc]; exact zno hg
theorem idxK {K : Mx} {s : List Int} : zh1 (fun l => decide (l = s)) K = if s ∈ K then ((K.idxOf s : Nat) : Int) else -1 := by
 by_cases h : s ∈ K
 ·
  rw [zno h]
  refine zf2 (i := K.idxOf s) (x := s) ?_ (ziF h) (by simp)
  rw [List.any_eq_false]
  intro z hz
  simp only [decide_eq_true_eq]
  rintro rfl
  obtain ⟨j, hj⟩ := List.mem_iff_getElem?.1 hz
  have hjl := (znr.1 hj).1
  rw [znH] at hjl
  rw [znJ, zno (by omega)] at hj
  have h1 := List.idxOf_lt_length_iff.2 h
  obtain ⟨h2, h3⟩ := znr.1 hj
  have h4 := List.not_of_lt_findIdx (p := (· == z)) (xs := K) (i := j) (show j < K.idxOf z by omega)
  rw [h3] at h4
  simp at h4
 ·
  rw [znn h]
  exact zc3 (List.any_eq_false.2 fun z hz => by simp only [decide_eq_true_eq]; rintro rfl; exact h hz)
theorem mxBd {c : Mx} (v0 : VMx c) : ∀ (y : Nat), ColsAt c.length (zu (yg ((zN c).take y))) 256 := by
 have hTl := qi c
 have hw2 := v0.w2
 have h : ∀ y, y <= (zN c).length -> ColsAt c.length (zu (yg ((zN c).take y))) y := by
  intro y
  induction y with
  | zero => intro _; exact ⟨fun r hr => (by cases hr), fun r hr => (by cases hr)⟩
  | succ y ih =>
   intro hy
   have hA := ih (by omega)
   obtain ⟨col, he⟩ : ∃ z, (zN c)[y]? = some z := ⟨_, znd (by omega)⟩
   have hcm := zne he
   have hcl := za9 hcm
   have hcb := zfx v0 hcm
   by_cases hg : zP col = 0
   . rw [zjj he hg]; exact hA.more
   ·
    by_cases hn : xg col ∈ (yg ((zN c).take y)).map (·.1)
    ·
     have hk := ziF hn
     have hkl := (znr.1 hk).1
     obtain ⟨r, hr⟩ : ∃ r, (zu (yg ((zN c).take y)))[((yg ((zN c).take y)).map (·.1)).idxOf (xg col)]? = some r := ⟨_, znd (by simpa [zu] using hkl)⟩
     rw [(znN he hg hk hr).2]
     exact hA.add (zne hr) hcb hcl
    ·
     rw [(znO he hg hn).2]
     refine ⟨fun r hr => ?_, fun r hr v hv => ?_⟩
     ·
      rcases znw.1 hr with hr | hr
      . exact hA.len r hr
      . rw [znv.1 hr]; exact hcl
     ·
      rcases znw.1 hr with hr | hr
      . have := hA.bd r hr v hv; omega
      ·
       rw [znv.1 hr] at hv
       have := hcb v hv; omega
 intro y
 by_cases hy : y <= (zN c).length
 ·
  have := h y hy
  exact ⟨this.len, fun r hr v hv => by have := this.bd r hr v hv; omega⟩
 ·
  rw [List.take_of_length_le (by omega)]
  have := h _ (znC _)
  rw [zni] at this
  exact ⟨this.len, fun r hr v hv => by have := this.bd r hr v hv; omega⟩
theorem znL (c : Mx) (v : Value) (D : Nat -> Prop) (W : World) (hc : SlR 1 (RSl 1 zt) D W v c) : Calls Tryz.prog 19 #[.agg #[v]] W (Ret fun r w' => (∃ u, r = .agg #[u] /\ SlR 1 (RSl 1 zt) (fun b => W.heap.size <= b) w' u (zgL c)) /\ Ext W w') := by
 obtain ⟨av, cv, rfl⟩ := hc.form
 refine zlt Tryz.func19 O Tryz.ntmps19 O (zlE ?_)
 refine Vs 2 O ?_
 refine V.box 1 O O (fun b1 => ?_)
 refine V.alloc 2 tz36 O O (fun b2 => ?_)
 refine Vs 6 O ?_
 refine zlT Tryz.call20 O (fun w hI => zji c _ D w (Tr1 hI.k0 hc)) ?_
 refine zll O (fun w hI => zkO O (by first | exact zb | rfl)) ?_
 refine Vs 2 O ?_
 refine zjn O (fun v0 => ?_) (fun v0 => ?_)
 ·
  refine Vs 2 O ?_
  refine zm9 [Value.slice none 0 0] [(0, 1)] [] O O (fun _ => by kernel_rfl) ?_
  refine Vs 5 O ?_
  refine zjP Tryz.results19 tg36 ts36 O O O (fun w hI => ⟨_, rfl, ⟨_, rfl, by rw [zhX v0]; exact SlR.nil⟩, hI.k0⟩)
 ·
  have v0 := znm.1 v0
  have hw2 := v0.w2
  have hr1 := v0.r1
  have hr2 := v0.r2
  have hTl := qi c
  have hTc : ∀ col ∈ zN c, col.length = c.length := fun col h => za9 h
  have hTb := fun col (h : col ∈ zN c) => zfx v0 h
  have hCA := mxBd v0
  have hvo := zdV v0
  refine Vs 4 O ?_
  refine V.bs0 28 tR34 ts27 O (fun b28 => ?_)
  refine V.bs0 29 tR34 ts27 O (fun b29 => ?_)
  refine Vs 6 O ?_
  refine V.bs0 30 tR27 ts3 O (fun b30 => ?_)
  refine Vs 7 O ?_
  refine zlV Tryz.call22 O (fun w hI => znQ c v0 _ D w (Tr1 hI.k0 hc)) ?_
  rintro r1 w1 w2 hI1 hk12 hres hlow
  generalize hT : zN c = T at *
  obtain ⟨aT, cT, rfl⟩ := hres.form
  refine Vs 4 O ?_
  refine zmc 28 (e' := OwP 27 1 (RSl 1 zt) (fun _ => False) (.slice (some ⟨b28, 0, none⟩) 0 0) []) O (fun w hI => ⟨⟨[], hI.at 28 rfl, fun i x h => by simp at h⟩, fun _ h => h.elim⟩) OwP.loc (fun _ h => h) (fun q hq => hq.elim id False.elim) ?_
  refine znb 904 (p := SumOwn (zu (yg (T.take 0))) [] (fun _ => False) (fun _ => False)) O (fun w i x h => h.elim) ?_
  refine Vs 1 O ?_
  refine zm3 (σ := Nat × Value × (Nat -> Prop) × Value × List Value × (Nat -> Prop) × (Nat -> Prop) × Value × List Int) [1, 2, 32, 33] [1, 2] [1, 2] O (fun e ⟨y, u, Fs, us, hs, O_q, F, ua, al⟩ => (34, .int .i64 y) :: (3, u) :: (4, us) :: (5, ua) :: e) (fun e ⟨y, u, Fs, us, hs, O_q, F, ua, al⟩ => (28, OwP 27 1 (RSl 1 zt) Fs u ((yg (T.take y)).map (·.1))) :: (29, .row 27 1 us (yg (T.take y)).length hs) :: (30, .row 3 1 ua al.length (al.map zd)) :: (904, .res F (SumOwn (zu (yg (T.take y))) hs O_q F)) :: e) (fun ⟨y, u, Fs, us, hs, O_q, F, ua, al⟩ => y <= T.length /\ al.length <= y * 256 /\ (hs.length = (yg (T.take y)).length /\ ∀ i, O_q i -> i < hs.length) /\ SumOld (zu (yg (T.take y))) hs O_q (fun b => w1.heap.size <= b) w2) (fun ⟨y, u, Fs, us, hs, O_q, F, ua, al⟩ => T.length - y) ((0, .slice (some ⟨b28, 0, none⟩) 0 0, fun _ => False, .slice (some ⟨b29, 0, none⟩) 0 0, [], fun _ => False, fun _ => False, .slice (some ⟨b30, 0, none⟩) 0 0, [])) (zl4 O) (zl5 O) (fun _ => rfl) (fun _ => rfl) (fun _ => rfl) (⟨zns _, zns _, ⟨rfl, fun _ h => h.elim⟩, fun i x _ h => by simp [yg, zu] at h⟩) ?_
  rintro ⟨y, u, Fs, us, hs, O_q, F, ua, al⟩ ⟨hy, hal, ⟨hhl, hOl⟩, hold⟩
  show V _ _ _ _ _ ((34, .int .i64 y) :: (3, u) :: (4, us) :: (5, ua) :: _) _ ((28, OwP 27 1 (RSl 1 zt) Fs u ((yg (T.take y)).map (·.1))) :: (29, .row 27 1 us (yg (T.take y)).length hs) :: (30, .row 3 1 ua al.length (al.map zd)) :: (904, .res F (SumOwn (zu (yg (T.take y))) hs O_q F)) :: _) _
  have hml : (yg (T.take y)).length <= y := by refine znj (zf9 _) ?_; rw [znH]; omega
  refine Vs 6 O ?_
  refine zjn O (fun hlt => ?_) (fun hlt => ?_)
  ·
   refine Vs 6 O ?_
   obtain ⟨col, he_col, hm_col⟩ := gE_ T (y) (by omega)
   obtain ⟨b_col, o_col, c_col, ha_col, hd_col, hc_col, hR_col⟩ := hres.atD he_col
   obtain ⟨v1_col, rfl, hs_col⟩ := hR_col
   obtain ⟨a1_col, n1_col, rfl⟩ := hs_col.form
   refine zm1 1000 0 O O (fun h_ => by have h1_ := hlow _ h_; have h2_ := hd_col; first | omega | exact h1_ h2_) hc_col ?_
   refine V.ix 1000 tR34 ts27 O ha_col (by omega) (_) (rfl) O ?_
   have hcl := hTc col hm_col
   have hcb := hTb col hm_col
   have hg0 := yz col
   refine Vs 7 O ?_
   refine zlT Tryz.call77 O (fun w hI => znM col _ _ w (hs_col.keep za hI.k0 (fun b hb _ hs => by have := hlow b hs; omega)) (fun x hx => by have := hcb x hx; omega)) ?_
   refine Vs 10 O ?_
   refine zjn O (fun g => ?_) (fun g => ?_)
   ·
    have hm := zjj he_col g
    rw [<- hm] at hhl hold hml
    refine zm2 28 O (e' := OwP 27 1 (RSl 1 zt) Fs u ((yg (T.take (y + 1))).map (·.1))) (by rw [hm]) ?_
    refine zm2 29 O (e' := .row 27 1 us (yg (T.take (y + 1))).length hs) (by rw [hm]) ?_
    refine zm2 904 O (e' := .res F (SumOwn (zu (yg (T.take (y + 1)))) hs O_q F)) (by rw [hm]) ?_
    refine Va 8 O (by omega) ?_
    refine zjy (⟨y + 1, u, Fs, us, hs, O_q, F, ua, al⟩) (zl4 O) (zl5 O) (⟨by omega, znj hal (Nat.mul_le_mul_right _ (Nat.le_succ y)), ⟨hhl, hOl⟩, hold⟩) (by first | omega | (dsimp only; omega)) 0 O O
   ·
    refine Vs 6 O ?_
    refine zm8 30 (fun x => [zd x]) (fun _ => rfl) (by simp [Value.oneCell']) zaZ tu27 Tryz.el3 O (by decide) O (fun w hI => ⟨_, hs_col.keep za hI.k0 (fun b hb _ hs => by have := hlow b hs; omega)⟩) (by omega) (by omega) (fun u30 => ?_)
    refine zm2 30 O (e' := .row 3 1 u30 (al ++ col).length ((al ++ col).map zd)) (by rw [znl, List.map_append, <- jU]) ?_
    have hkl := zfa col
    have hka : ∀ (x : Nat) n, col[x]? = some n -> (xg col)[x]? = some (n / zP col) := fun x n h => by unfold xg; rw [znu, h]; rfl
    refine Vs 5 O ?_
    refine V.bs0 45 tR27 ts3 O (fun b45 => ?_)
    refine V.alloc 9 tz27 O O (fun b9 => ?_)
    refine Vs 12 O ?_
    refine zm3 (σ := Nat × Value) [1, 2, 3, 4, 5, 7, 8, 9, 32, 33, 34, 46, 47] [1, 2, 28, 29, 30, 904] [1, 2, 9] O (fun e ⟨x, u2⟩ => (48, .int .i64 x) :: e) (fun e ⟨x, u2⟩ => (9, .own b9 [u2] 27) :: (45, .row 3 1 u2 x (((xg col).take x).map zd)) :: e) (fun ⟨x, u2⟩ => x <= col.length) (fun ⟨x, u2⟩ => col.length - x) ((0, .slice (some ⟨b45, 0, none⟩) 0 0)) (zl4 O) (zl5 O) (fun _ => rfl) (fun _ => rfl) (fun _ => rfl) (zns _) ?_
    rintro ⟨x, u2⟩ hx
    show V _ _ _ _ _ ((48, .int .i64 x) :: _) _ ((9, .own b9 [u2] 27) :: (45, .row 3 1 u2 x (((xg col).take x).map zd)) :: _) _
    refine Vs 6 O ?_
    refine zjn O (fun hlt2 => ?_) (fun hlt2 => ?_)
    ·
     refine Vs 6 O ?_
     obtain ⟨n, he_n, hm_n⟩ := gE_ col (x) (by omega)
     obtain ⟨b_n, o_n, c_n, ha_n, hd_n, hc_n, hR_n⟩ := hs_col.atD he_n
     obtain rfl := hR_n
     refine zm1 2000 0 O O (fun h_ => by have h1_ := hlow _ h_; have h2_ := hd_n; first | omega | exact h1_ h2_) hc_n ?_
     refine V.ix 2000 tR27 ts3 O ha_n (by omega) (_) (rfl) O ?_
     have hnb := hcb n hm_n
     refine Vs 4 O ?_
     refine Vw [1, 2, 9, 2000] [6] O ?_
     refine Vd [0, 1, 2] 0 (by kernel_rfl) O O O ?_
     refine zlm 3 0 O (by kernel_rfl) O O (fun w hI => R.quo O O (by omega) (by omega)) ?_
     refine zm7 4 56 0 [(0, _)] tR27 ts3 tz3 (by decide) O (by kernel_rfl) O O (by kernel_rfl) (fun b56 => ?_)
     refine zlO 5 45 56 0 tu27 Tryz.el3 O (by decide) O (by kernel_rfl) O O O (by omega) (by omega) (fun u45 => ?_)
     refine zlQ 45 O (by omega) ?_
     rintro bq cq rfl hcap_45
     refine Vl 6 O (by kernel_rfl) O ?_
     refine zks (by kernel_rfl) ?_
     refine Va 6 O (by omega) ?_
     refine zm2 45 O (e' := .row 3 1 (.slice (some ⟨bq, 0, none⟩) (x + 1) cq) (x + 1) (((xg col).take (x + 1)).map zd)) (by rw [zh (hka x n he_n), List.map_append, Int.tdiv_eq_ediv_of_nonneg hnb.1]; rfl) ?_
     refine zjy (⟨x + 1, .slice (some ⟨bq, 0, none⟩) (x + 1) cq⟩) (zl4 O) (zl5 O) (by omega) (by first | omega | (dsimp only; omega)) 0 O O
    ·
     obtain rfl : x = col.length := by omega
     refine zm2 45 O (e' := .row 3 1 u2 (xg col).length ((xg col).map zd)) (by rw [List.take_of_length_le (by omega), hkl]) ?_
     refine Vs 9 O ?_
     refine zlT Tryz.call78 O (fun w hI => zo5 (fun l => decide (l = xg col)) ((yg (T.take y)).map (·.1)) _ (fun _ => True) _ _ w Tryz.call79 ((show OwH _ _ _ _ _ _ _ from hI.at 28 O).sl (by omega) (fun _ _ => trivial)) (fun x u' w' hE _ hx => znW x (xg col) _ _ _ (fun _ => True) b9 w' hx ((zkx zd (fun _ _ => rfl) (hI.at 45 O) (fun _ _ => trivial)).ext za hE) (hE.cells (Blk.cells (hI.at 9 O)) (fun h => h)))) ?_
     refine zlG 61 (v := .int .i64 (if xg col ∈ (yg (T.take y)).map (·.1) then ((((yg (T.take y)).map (·.1)).idxOf (xg col) : Nat) : Int) else -1)) O (by rw [idxK]) ?_
     by_cases hm : xg col ∈ (yg (T.take y)).map (·.1)
     ·
      rw [zno hm]
      refine Vs 10 O ?_
      refine zjn O (fun q => ?_) (fun q => ?_)
      . omega
      ·
       have hkK := ziF hm
       generalize hk : ((yg (T.take y)).map (·.1)).idxOf (xg col) = k at *
       have hkl2 : k < (yg (T.take y)).length := by have := (znr.1 hkK).1; rwa [znx] at this
       have hCl : (zu (yg (T.take y))).length = (yg (T.take y)).length := by simp [zu]
       obtain ⟨r, hr⟩ : ∃ r, (zu (yg (T.take y)))[k]? = some r := ⟨_, znd (by omega)⟩
       obtain ⟨hk1, hk2⟩ := znN he_col g hkK hr
       have hml2 : (yg (T.take (y + 1))).length = (yg (T.take y)).length := by have := congrArg List.length hk1; simpa using this
       have hrm := zne hr
       have hrl := (hCA y).len r hrm
       have hrb := (hCA y).bd r hrm
       obtain ⟨hu, hhu⟩ : ∃ z, hs[k]? = some z := ⟨_, znd (by omega)⟩
       refine zlF (p := (∃ ao ch, hu = .slice ao r.length ch) /\ ∀ ao ch, hu = .slice ao r.length ch -> ∃ b o, ao = some ⟨b, o, none⟩) (fun w hI => (have hz := zjh (hI.at 904 O) hold hI.k0 (fun b hb _ hs => by have := hlow b hs; omega) hr hhu; ⟨hz.form, fun ao ch e => by subst e; exact znZ hz (by omega)⟩)) (fun hhd => ?_)
       obtain ⟨⟨au, cu, rfl⟩, hau⟩ := hhd
       obtain ⟨gu, ou, rfl⟩ := hau _ _ rfl
       refine zlP 29 O (by omega) ?_
       rintro bs cs rfl hcap_29
       refine Vs 4 O ?_
       refine V.bs0 72 tR27 ts3 O (fun b72 => ?_)
       refine Vs 12 O ?_
       refine zm3 (σ := Nat × Value) [1, 2, 3, 4, 5, 7, 12, 32, 33, 34, 74] [1, 2, 28, 29, 30, 904] [1, 2] O (fun e ⟨x, u3⟩ => (75, .int .i64 x) :: (13, u3) :: e) (fun e ⟨x, u3⟩ => (72, .row 3 1 u3 x (((List.zipWith (· + ·) r col).take x).map zd)) :: e) (fun ⟨x, u3⟩ => x <= col.length) (fun ⟨x, u3⟩ => col.length - x) ((0, .slice (some ⟨b72, 0, none⟩) 0 0)) (zl4 O) (zl5 O) (fun _ => rfl) (fun _ => rfl) (fun _ => rfl) (zns _) ?_
       rintro ⟨x, u3⟩ hx
       show V _ _ _ _ _ ((75, .int .i64 x) :: (13, u3) :: _) _ ((72, .row 3 1 u3 x (((List.zipWith (· + ·) r col).take x).map zd)) :: _) _
       refine Vs 6 O ?_
       refine zjn O (fun hlt2 => ?_) (fun hlt2 => ?_)
       ·
        obtain ⟨a, ha⟩ : ∃ a, r[x]? = some a := ⟨_, znd (by omega)⟩
        have hab := hrb a (zne ha)
        obtain ⟨n2, he_n2, hm_n2⟩ := gE_ col (x) (by omega)
        obtain ⟨b_n2, o_n2, c_n2, ha_n2, hd_n2, hc_n2, hR_n2⟩ := hs_col.atD he_n2
        obtain rfl := hR_n2
        refine zm1 3000 0 O O (fun h_ => by have h1_ := hlow _ h_; have h2_ := hd_n2; first | omega | exact h1_ h2_) hc_n2 ?_
        have hnb := hcb n2 hm_n2
        have hz : (List.zipWith (· + ·) r col)[x]? = some (a + n2) := by rw [List.getElem?_zipWith, ha, he_n2]
        refine Vs 10 O ?_
        refine Vw [1, 2, 29, 904, 3000] [] O ?_
        refine Vb [0, 1, 2, 3, 5, 8, 9] 0 (by kernel_rfl) O O O (by omega) ?_
        refine zmd 4 O (by kernel_rfl) O 0 O O (fun w hI => R.load tg27 O (zo4 (hI.at 29 O) hhu)) ?_
        refine VD.pl 6 O (by kernel_rfl) O (fun w => zk5 tR27 ts3 O O O (by omega)) ?_
        refine zmd 7 O (by kernel_rfl) O 0 O O (fun w hI => R.load tg3 O (znY (zjh (hI.at 904 O) hold hI.k0 (fun b hb _ hs => by have := hlow b hs; omega) hr hhu) O ha)) ?_
        refine VD.ix 10 3000 tR27 ts3 O (by kernel_rfl) O ha_n2 (by omega) (x) (rfl) O ?_
        refine Vb [11, 12] 0 (by kernel_rfl) O O O (by omega) ?_
        refine zm7 13 91 0 [(0, _)] tR27 ts3 tz3 (by decide) O (by kernel_rfl) O O (by kernel_rfl) (fun b91 => ?_)
        refine zlO 14 72 91 0 tu27 Tryz.el3 O (by decide) O (by kernel_rfl) O O O (by omega) (by omega) (fun u72 => ?_)
        refine Vd [15] 0 (by kernel_rfl) O O O ?_
        refine zkr (by kernel_rfl) ?_
        refine Va 6 O (by omega) ?_
        refine zm2 72 O (e' := .row 3 1 u72 (x + 1) (((List.zipWith (· + ·) r col).take (x + 1)).map zd)) (by rw [zh hz, List.map_append]; rfl) ?_
        refine zjy (⟨x + 1, u72⟩) (zl4 O) (zl5 O) (by omega) (by first | omega | (dsimp only; omega)) 0 O O
       ·
        obtain rfl : x = col.length := by omega
        have hzl : (List.zipWith (· + ·) r col).length = col.length := by rw [List.length_zipWith]; omega
        refine zm2 72 O (e' := .row 3 1 u3 (List.zipWith (· + ·) r col).length ((List.zipWith (· + ·) r col).map zd)) (by rw [List.take_of_length_le (by omega), hzl]) ?_
        refine zlF (fun w hI => qJ (show w.ownsRow 0 3 1 u3 _ _ from hI.at 72 O)) ?_
        rintro ⟨a3, c3, rfl⟩
        refine Va 10 O (by omega) ?_
        refine V.rs 29 (k) ts27 O (by omega) (by omega) ?_
        refine zmv 904 72 (e' := .res (fun q => F q \/ (Value.slice a3 (List.zipWith (· + ·) r col).length c3).ownBlock = some q) (SumOwn ((zu (yg (T.take y))).set k (List.zipWith (· + ·) r col)) (hs.set k (.slice a3 (List.zipWith (· + ·) r col).length c3)) (fun i => O_q i \/ i = k) (fun q => F q \/ (Value.slice a3 (List.zipWith (· + ·) r col).length c3).ownBlock = some q))) [(1, some (1, 0)), (2, some (2, 0))] O O O (fun w hI => (show SumOwn _ _ _ _ _ from hI.at 904 O).put (by omega) (zkx zd (fun _ _ => rfl) (hI.at 72 O) (fun _ h => h))) (SumOwn.loc) (fun _ h => h) (fun q hq => hq) ?_
        refine zm2 904 O (e' := .res (fun q => F q \/ (Value.slice a3 (List.zipWith (· + ·) r col).length c3).ownBlock = some q) (SumOwn (zu (yg (T.take (y + 1)))) (hs.set k (.slice a3 (List.zipWith (· + ·) r col).length c3)) (fun i => O_q i \/ i = k) (fun q => F q \/ (Value.slice a3 (List.zipWith (· + ·) r col).length c3).ownBlock = some q))) (by rw [hk2]) ?_
        refine zm2 28 O (e' := OwP 27 1 (RSl 1 zt) Fs u ((yg (T.take (y + 1))).map (·.1))) (by rw [hk1]) ?_
        rw [<- hml2]
        refine Va 7 O (by omega) ?_
        refine zjy (⟨y + 1, u, Fs, .slice (some ⟨bs, 0, none⟩) (yg (T.take (y + 1))).length cs, hs.set k (.slice a3 (List.zipWith (· + ·) r col).length c3), fun i => O_q i \/ i = k, fun q => F q \/ (Value.slice a3 (List.zipWith (· + ·) r col).length c3).ownBlock = some q, u30, al ++ col⟩) (zl4 O) (zl5 O) (⟨by omega, by rw [znl]; omega, ⟨by rw [List.length_set]; omega, fun i hi => by rw [List.length_set]; exact hi.elim (hOl i) (fun e => by omega)⟩, by rw [hk2]; exact hold.put⟩) (by first | omega | (dsimp only; omega)) 0 O O
     ·
      rw [znn hm]
      refine Vs 10 O ?_
      refine zjn O (fun q => ?_) (fun q => ?_)
      ·
       obtain ⟨hk1, hk2⟩ := znO he_col g hm
       have hCl : (zu (yg (T.take y))).length = (yg (T.take y)).length := by simp [zu]
       have hKl : ((yg (T.take y)).map (·.1)).length = (yg (T.take y)).length := znx _
       refine zlF (fun w hI => qJ (show w.ownsRow 0 3 1 u2 _ _ from hI.at 45 O)) ?_
       rintro ⟨ab, cb, rfl⟩
       refine zmc 45 (e' := DaP (RSl 1 zt) (fun q => (Value.slice ab (xg col).length cb).ownBlock = some q) (xg col) [.slice ab (xg col).length cb]) O (fun w hI => ⟨_, rfl, zkx zd (fun _ _ => rfl) (hI.at 45 O) (fun g hg => hg)⟩) DaP.loc (fun _ h => h) (fun q hq => hq) ?_
       refine Vs 4 O ?_
       refine zm6 66 [(0, _)] tR34 ts27 tz27 (by decide) O O (by kernel_rfl) (fun b66 => ?_)
       refine zmt [28, 45] (Hn := fun u => [(28, OwP 27 1 (RSl 1 zt) (fun q => Fs q \/ (Value.slice ab (xg col).length cb).ownBlock = some q) u ((yg (T.take y)).map (·.1) ++ [xg col]))]) (u := fun u => u) [(1, some (1, 0)), (2, some (2, 0)), (9, some (9, 0))] O (fun _ => rfl) (fun _ => rfl) (fun w hI => zmu 28 45 66 hI O O O O tu34 Tryz.el27 O (by decide) O O O (fun D x cs h => zgO D x cs h) (by omega) (by omega)) (fun u28 => ?_)
       refine Vs 2 O ?_
       refine zm6 70 [(0, _)] tR34 ts27 tz27 (by decide) O O (by kernel_rfl) (fun b70 => ?_)
       refine zlN 29 70 tu34 Tryz.el27 O (by decide) O O (by omega) (by omega) (fun u29 => ?_)
       refine Va 12 O (by omega) ?_
       refine zmc 904 (e' := .res F (SumOwn (zu (yg (T.take (y + 1)))) (hs ++ [.slice a1_col col.length n1_col]) O_q F)) O (fun w hI => by rw [hk2]; exact (show SumOwn _ _ _ _ _ from hI.at 904 O).add (by omega) hOl) (SumOwn.loc) (fun _ h => h) (fun q hq => hq) ?_
       refine zm2 28 O (e' := OwP 27 1 (RSl 1 zt) (fun q => Fs q \/ (Value.slice ab (xg col).length cb).ownBlock = some q) u28 ((yg (T.take (y + 1))).map (·.1))) (by rw [hk1, List.map_append]; rfl) ?_
       refine zm2 29 O (e' := .row 27 1 u29 (yg (T.take (y + 1))).length (hs ++ [.slice a1_col col.length n1_col])) (by rw [hk1, znl]; rfl) ?_
       refine zjy (⟨y + 1, u28, fun q => Fs q \/ (Value.slice ab (xg col).length cb).ownBlock = some q, u29, hs ++ [.slice a1_col col.length n1_col], O_q, F, u30, al ++ col⟩) (zl4 O) (zl5 O) (⟨by omega, by rw [znl]; omega, ⟨by rw [hk1, znl, znl, hhl]; rfl, fun i hi => by have := hOl i hi; rw [znl]; omega⟩, by rw [hk2]; exact hold.add (by omega) hs_col⟩) (by first | omega | (dsimp only; omega)) 0 O O
      . omega
  ·
   obtain rfl : y = T.length := by omega
   have hTT : T.take T.length = T := zni
   rw [hTT] at hhl hold hml ⊢
   have hCA := hCA T.length
   rw [hTT] at hCA
   have hout : IsAbs T (ze2 T) := zcQ T
   have hCl : (zu (yg T)).length = (yg T).length := by simp [zu]
   have hpos : 0 < (yg T).length := by
    have h1 := hout.perm.length_eq
    have h2 := hvo.1.w1
    have h3 := qi (zgL c)
    rw [hvo.2] at h3
    simp only [xz, zu, znx] at h1
    omega
   refine zlP 29 O (hpos) ?_
   rintro bs cs rfl hcap_29
   refine Vs 6 O ?_
   refine zlM 905 3 1 O ?_
   refine Vs 13 O ?_
   refine zm3 (σ := Nat × Value) [1, 2, 4, 99, 100] [1, 2, 28, 29, 904] [1, 2] O (fun e ⟨k, ub⟩ => (101, .int .i64 k) :: (5, ub) :: e) (fun e ⟨k, ub⟩ => (905, .row 3 1 ub ((zu (yg T)).take k).flatten.length (((zu (yg T)).take k).flatten.map zd)) :: e) (fun ⟨k, ub⟩ => k <= (yg T).length /\ ((zu (yg T)).take k).flatten.length <= k * 256) (fun ⟨k, ub⟩ => (yg T).length - k) ((0, .slice none 0 0)) (zl4 O) (zl5 O) (fun _ => rfl) (fun _ => rfl) (fun _ => rfl) (⟨zns _, zns _⟩) ?_
   rintro ⟨k, ub⟩ ⟨hk, hfl⟩
   show V _ _ _ _ _ ((101, .int .i64 k) :: (5, ub) :: _) _ ((905, .row 3 1 ub ((zu (yg T)).take k).flatten.length (((zu (yg T)).take k).flatten.map zd)) :: _) _
   refine Vs 6 O ?_
   refine zjn O (fun hlt => ?_) (fun hlt => ?_)
   ·
    obtain ⟨r, hr⟩ : ∃ r, (zu (yg T))[k]? = some r := ⟨_, znd (by omega)⟩
    have hrm := zne hr
    have hrl := hCA.len r hrm
    obtain ⟨hu, hhu⟩ : ∃ z, hs[k]? = some z := ⟨_, znd (by omega)⟩
    refine zlF (p := ∃ ao ch, hu = .slice ao r.length ch) (fun w hI => (zjh (hI.at 904 O) hold hI.k0 (fun b hb _ hs => by have := hlow b hs; omega) hr hhu).form) (fun hhd => ?_)
    obtain ⟨au, cu, rfl⟩ := hhd
    have htk : ((zu (yg T)).take (k + 1)).flatten = ((zu (yg T)).take k).flatten ++ r := by rw [zh hr, List.flatten_append, List.flatten_singleton]
    refine Va 7 O (by omega) ?_
    refine zlR 29 (k) tg27 O (by omega) (hhu) ?_
    refine Vs 6 O ?_
    refine zm8 905 (fun x => [zd x]) (fun _ => rfl) (by simp [Value.oneCell']) zaZ tu27 Tryz.el3 O (by decide) O (fun w hI => ⟨_, zjh (hI.at 904 O) hold hI.k0 (fun b hb _ hs => by have := hlow b hs; omega) hr hhu⟩) (by omega) (by omega) (fun u905 => ?_)
    refine zm2 905 O (e' := .row 3 1 u905 ((zu (yg T)).take (k + 1)).flatten.length (((zu (yg T)).take (k + 1)).flatten.map zd)) (by rw [htk, znl, List.map_append, <- jU]) ?_
    refine Va 8 O (by omega) ?_
    refine zjy (⟨k + 1, u905⟩) (zl4 O) (zl5 O) (⟨by omega, by rw [htk, znl]; omega⟩) (by first | omega | (dsimp only; omega)) 0 O O
   ·
    obtain rfl : k = (yg T).length := by omega
    have htc : (zu (yg T)).take (yg T).length = zu (yg T) := by rw [<- hCl, zni]
    rw [htc] at hfl ⊢
    refine Vs 8 O ?_
    refine zlT Tryz.call77 O (fun w hI => znM (zu (yg T)).flatten _ (fun _ => True) w (zkx zd (fun _ _ => rfl) (hI.at 905 O) (fun _ _ => trivial)) (fun x hx => by obtain ⟨q, hq, hxq⟩ := List.mem_flatten.1 hx; have := hCA.bd q hq x hxq; omega)) ?_
    have hg0 := zhY (xJ T) (fun e => by rw [e] at hpos; exact absurd hpos (Nat.lt_irrefl 0))
    generalize hg : zP (zu (yg T)).flatten = g at *
    obtain ⟨D', hD⟩ : ∃ D, D = xz (zu (yg T)) := ⟨_, rfl⟩
    have hDl : D'.length = (yg T).length := by rw [hD, <- hCl]; simp [xz]
    have hDat : ∀ (k : Nat) r, (zu (yg T))[k]? = some r -> D'[k]? = some (r.map (· / g)) := fun k r h => by rw [hD, xz, znu, h, hg]; rfl
    refine Vs 5 O ?_
    refine V.bs0 111 tR34 ts27 O (fun b111 => ?_)
    refine Vs 11 O ?_
    refine zmc 111 (e' := OwP 27 1 (RSl 1 zt) (fun _ => False) (.slice (some ⟨b111, 0, none⟩) 0 0) []) O (fun w hI => ⟨⟨[], hI.at 111 rfl, fun i x h => by simp at h⟩, fun _ h => h.elim⟩) OwP.loc (fun _ h => h) (fun q hq => hq.elim id False.elim) ?_
    refine Vs 1 O ?_
    refine zm3 (σ := Nat × Value × (Nat -> Prop)) [1, 2, 17, 112, 113] [1, 2, 28, 29, 904] [1, 2] O (fun e ⟨j, uo, Fo⟩ => (114, .int .i64 j) :: (18, uo) :: e) (fun e ⟨j, uo, Fo⟩ => (111, OwP 27 1 (RSl 1 zt) Fo uo (D'.take j)) :: e) (fun ⟨j, uo, Fo⟩ => j <= (yg T).length) (fun ⟨j, uo, Fo⟩ => (yg T).length - j) ((0, .slice (some ⟨b111, 0, none⟩) 0 0, fun _ => False)) (zl4 O) (zl5 O) (fun _ => rfl) (fun _ => rfl) (fun _ => rfl) (zns _) ?_
    rintro ⟨j, uo, Fo⟩ hj
    show V _ _ _ _ _ ((114, .int .i64 j) :: (18, uo) :: _) _ ((111, OwP 27 1 (RSl 1 zt) Fo uo (D'.take j)) :: _) _
    have hjl : (D'.take j).length = j := by rw [znH]; omega
    refine Vs 6 O ?_
    refine zjn O (fun hlt => ?_) (fun hlt => ?_)
    ·
     obtain ⟨r, hr⟩ : ∃ r, (zu (yg T))[j]? = some r := ⟨_, znd (by omega)⟩
     have hrm := zne hr
     have hrl := hCA.len r hrm
     have hrb := hCA.bd r hrm
     have hdl : (r.map (· / g)).length = r.length := znx _
     obtain ⟨hu, hhu⟩ : ∃ z, hs[j]? = some z := ⟨_, znd (by omega)⟩
     refine zlF (p := (∃ ao ch, hu = .slice ao r.length ch) /\ ∀ ao ch, hu = .slice ao r.length ch -> ∃ b o, ao = some ⟨b, o, none⟩) (fun w hI => (have hz := zjh (hI.at 904 O) hold hI.k0 (fun b hb _ hs => by have := hlow b hs; omega) hr hhu; ⟨hz.form, fun ao ch e => by subst e; exact znZ hz (by omega)⟩)) (fun hhd => ?_)
     obtain ⟨⟨au, cu, rfl⟩, hau⟩ := hhd
     obtain ⟨gu, ou, rfl⟩ := hau _ _ rfl
     refine Va 7 O (by omega) ?_
     refine zlR 29 (j) tg27 O (by omega) (hhu) ?_
     refine Vs 5 O ?_
     refine V.bs0 118 tR27 ts3 O (fun b118 => ?_)
     refine Vs 12 O ?_
     refine zm3 (σ := Nat × Value) [1, 2, 17, 18, 112, 113, 114, 119, 120] [1, 2, 28, 29, 111, 904] [1, 2] O (fun e ⟨x, u3⟩ => (121, .int .i64 x) :: (21, u3) :: e) (fun e ⟨x, u3⟩ => (118, .row 3 1 u3 x (((r.map (· / g)).take x).map zd)) :: e) (fun ⟨x, u3⟩ => x <= r.length) (fun ⟨x, u3⟩ => r.length - x) ((0, .slice (some ⟨b118, 0, none⟩) 0 0)) (zl4 O) (zl5 O) (fun _ => rfl) (fun _ => rfl) (fun _ => rfl) (zns _) ?_
     rintro ⟨x, u3⟩ hx
     show V _ _ _ _ _ ((121, .int .i64 x) :: (21, u3) :: _) _ ((118, .row 3 1 u3 x (((r.map (· / g)).take x).map zd)) :: _) _
     refine Vs 6 O ?_
     refine zjn O (fun hlt2 => ?_) (fun hlt2 => ?_)
     ·
      obtain ⟨a, ha⟩ : ∃ a, r[x]? = some a := ⟨_, znd (by omega)⟩
      have hab := hrb a (zne ha)
      have hda : (r.map (· / g))[x]? = some (a / g) := by rw [znu, ha]; rfl
      refine Vs 6 O ?_
      refine zll O (fun w hI => zk5 tR27 ts3 O O O (by omega)) ?_
      refine zll O (fun w hI => R.load tg3 O (znY (zjh (hI.at 904 O) hold hI.k0 (fun b hb _ hs => by have := hlow b hs; omega) hr hhu) O ha)) ?_
      refine Vs 7 O ?_
      refine zll O (fun w hI => R.quo O O (by omega) (by omega)) ?_
      refine zm6 129 [(0, _)] tR27 ts3 tz3 (by decide) O O (by kernel_rfl) (fun b129 => ?_)
      refine zlN 118 129 tu27 Tryz.el3 O (by decide) O O (by omega) (by omega) (fun u118 => ?_)
      refine Va 8 O (by omega) ?_
      refine zm2 118 O (e' := .row 3 1 u118 (x + 1) (((r.map (· / g)).take (x + 1)).map zd)) (by rw [zh hda, List.map_append, Int.tdiv_eq_ediv_of_nonneg hab.1]; rfl) ?_
      refine zjy (⟨x + 1, u118⟩) (zl4 O) (zl5 O) (by omega) (by first | omega | (dsimp only; omega)) 0 O O
     ·
      obtain rfl : x = r.length := by omega
      refine zm2 118 O (e' := .row 3 1 u3 (r.map (· / g)).length ((r.map (· / g)).map zd)) (by rw [List.take_of_length_le (by omega), hdl]) ?_
      refine zlF (fun w hI => qJ (show w.ownsRow 0 3 1 u3 _ _ from hI.at 118 O)) ?_
      rintro ⟨ab, cb, rfl⟩
      refine zmc 118 (e' := DaP (RSl 1 zt) (fun q => (Value.slice ab (r.map (· / g)).length cb).ownBlock = some q) (r.map (· / g)) [.slice ab (r.map (· / g)).length cb]) O (fun w hI => ⟨_, rfl, zkx zd (fun _ _ => rfl) (hI.at 118 O) (fun g hg => hg)⟩) DaP.loc (fun _ h => h) (fun q hq => hq) ?_
      refine Vs 8 O ?_
      refine zm6 134 [(0, _)] tR34 ts27 tz27 (by decide) O O (by kernel_rfl) (fun b134 => ?_)
      refine zmt [111, 118] (Hn := fun u => [(111, OwP 27 1 (RSl 1 zt) (fun q => Fo q \/ (Value.slice ab (r.map (· / g)).length cb).ownBlock = some q) u (D'.take j ++ [r.map (· / g)]))]) (u := fun u => u) [(1, some (1, 0)), (2, some (2, 0))] O (fun _ => rfl) (fun _ => rfl) (fun w hI => zmu 111 118 134 hI O O O O tu34 Tryz.el27 O (by decide) O O O (fun D x cs h => zgO D x cs h) (by omega) (by omega)) (fun u111 => ?_)
      refine Va 8 O (by omega) ?_
      rw [<- zh (hDat j r hr)]
      refine zjy (⟨j + 1, u111, fun q => Fo q \/ (Value.slice ab (r.map (· / g)).length cb).ownBlock = some q⟩) (zl4 O) (zl5 O) (by omega) (by first | omega | (dsimp only; omega)) 0 O O
    ·
     obtain rfl : j = (yg T).length := by omega
     rw [<- hDl, zni]
     refine Vs 8 O ?_
     refine zlW 111 (E := fun l' => OwP 27 1 (RSl 1 zt) Fo uo l') Tryz.call73 O (fun _ => ⟨OwP.loc, fun _ h => h⟩) (fun w hI => zfg (k := 111) (cf := fun x y => xp y x) ziE (fun D w x cs h => by obtain ⟨u, rfl, h1⟩ := h; obtain ⟨a, c, rfl⟩ := h1.form; exact ⟨_, rfl, rfl⟩) Tryz.call80 swoL hI O (by omega) (fun x y u u' W' hk hx hy => by obtain ⟨_, h1, h2⟩ := hx; obtain ⟨_, h3, h4⟩ := hy; cases h1; cases h3; exact znX x y _ _ _ _ W' h2 h4)) ?_
     rintro _ l' ⟨rfl, hperm, hpw⟩
     have hl' : l' = ze2 T := IsAbs.unique ⟨hD ▸ hperm, hpw.imp fun {a b} h => by have := yI a b; omega⟩ hout
     subst hl'
     have hol : (ze2 T).length = (yg T).length := by rw [hperm.length_eq, hDl]
     have hocl : ∀ col ∈ ze2 T, col.length = c.length := fun col h => (hout.col (n := c.length) (fun r hr => ⟨hTc r hr, fun v hv => (hTb r hr v hv).1⟩) h).1
     have hres0 : jD c.length (ze2 T) = zgL c := by rw [kh v0, hT]
     refine Vs 8 O ?_
     refine zlV Tryz.call24 O (fun w hI => znK c.length (ze2 T) hocl (by omega) (by omega) _ _ w ((show OwH _ _ _ _ _ _ _ from hI.at 111 O).sl (by omega) (fun q hq => hq))) ?_
     rintro r2 w3 w4 hI3 hk34 ⟨uz, rfl, hres2⟩ hlow2
     rw [hres0] at hres2
     obtain ⟨az, cz, rfl⟩ := hres2.form
     have e3 : W.heap.size <= w3.heap.size := hI3.k1.size
     refine Vs 4 O ?_
     refine V.dat 906 0 O O O (hres2) (fun q hq _ hs => by have := hlow2 q hs; omega) ?_
     refine zjP Tryz.results19 tg36 ts36 O O O (fun w hI => ⟨_, rfl, ⟨_, rfl, (hI.at 906 O).1.wide (yD za) (fun q hq => by omega)⟩, hI.k2⟩)
theorem zod : ¬ VMx [] := fun h => absurd h.r1 (by decide)
theorem zo8 {c : Mx} (h : VMx c) : (zgL c).length = c.length := by rw [kh h, zc6]
theorem zo0 (c : Mx) : zgL (zgL c) = zgL c := by
 by_cases h : VMx c
 ·
  obtain ⟨hv, ht⟩ := zdV h
  rw [kh hv, ht, (zcQ (zN c)).idem (zcQ _), zo8 h, <- kh h]
 . rw [zhX h, zhX zod]
theorem zoe {n : Nat} {l : Mx} (h : 1 <= n) : (jD n l).headD [] = jm l 0 := by
 obtain ⟨m, rfl⟩ : ∃ m, n = m + 1 := ⟨n - 1, by omega⟩
 simp [jD, List.range_succ_eq_map]
theorem zjf (c : Mx) (v : Value) (D : Nat -> Prop) (W : World) (hc : SlR 1 (RSl 1 zt) D W v c) (ht : Tab W) :
  Calls Tryz.prog 4 #[.agg #[v]] W (Ret fun r w' => r = .bool true /\ Ext W w') := by
 refine zlt Tryz.func4 O Tryz.ntmps4 O (zlE ?_)
 refine Vs 2 O ?_
 refine V.box 1 O O (fun b1 => ?_)
 refine Vs 6 O ?_
 refine zlT Tryz.call12 O (fun w hI => zdZ w (Tr1 hI.k0 ht)) ?_
 refine zll O (fun w hI => zkO O (by first | exact zb | rfl)) ?_
 refine Vs 2 O ?_
 refine V.bool O (fun k0 => ?_) (fun k0 => ?_)
 . cases k0
 ·
  refine Vs 6 O ?_
  refine zlV Tryz.call16 O (fun w hI => znP c 12 _ D w (Tr1 hI.k0 hc)) ?_
  rintro rr w1 w2 hI1 hk12 ⟨q, rfl, hq⟩ hlow
  refine zll O (fun w hI => zkO O (by first | exact zb | rfl)) ?_
  refine Vs 2 O ?_
  refine V.bool O (fun q1 => ?_) (fun q1 => ?_)
  ·
   refine Vs 7 O ?_
   refine zjH Tryz.results4 O (fun w hI => ⟨_, rfl, rfl, hI.k1⟩)
  ·
   refine Vs 5 O ?_
   refine zlV Tryz.call17 O (fun w hI => zdr c _ D w (Tr1 hI.k1 hc) (Tr1 hI.k1 ht)) ?_
   rintro r1 w3 w4 hI3 hk34 ⟨u, rfl, h1⟩ hlow1
   obtain ⟨a1, c1, rfl⟩ := h1.form
   refine V.alloc 3 tz36 O O (fun b3 => ?_)
   refine Vs 4 O ?_
   refine Vw [1, 3] [] O ?_
   refine Vd [0, 1] 0 (by kernel_rfl) O O O ?_
   refine VD.call2 2 0 Tryz.call19 O (by kernel_rfl) O O (fun w hI => znL c _ D w (Tr1 hI.k2 hc)) ?_
   rintro r2 w5 w6 hI5 hk56 ⟨u2, rfl, h2⟩ hlow2
   refine zlU 3 1 Tryz.call18 O (by kernel_rfl) O O (fun w hI => jF (zgL c) (zgL c) _ _ _ _ w (h1.keep (yD za) hI.k1 (fun b hb _ hs => by have := hlow1 b hs; omega)) (h2.keep (yD za) hI.k0 (fun b hb _ hs => by have := hlow2 b hs; omega))) ?_
   refine Vd [4] 1 (by kernel_rfl) O O O ?_
   refine VD.sp 15 O (fun k1 => ?_) (fun k1 => ?_)
   ·
    refine Vd [5, 7] 1 (by kernel_rfl) O O O ?_
    refine VD.call2 6 1 Tryz.call17 O (by kernel_rfl) O O (fun w hI => zdr (zgL c) _ _ w (h1.keep (yD za) hI.k1 (fun b hb _ hs => by have := hlow1 b hs; omega)) (Tr1 hI.k3 ht)) ?_
    rintro r3 w7 w8 hI7 hk78 ⟨u3, rfl, h3⟩ hlow3
    rw [zo0] at h3
    refine zlU 8 2 Tryz.call18 O (by kernel_rfl) O O (fun w hI => jF (zgL c) (zgL c) _ _ _ _ w (h3.keep (yD za) hI.k0 (fun b hb _ hs => by have := hlow3 b hs; omega)) (h1.keep (yD za) hI.k2 (fun b hb _ hs => by have := hlow1 b hs; omega))) ?_
    refine Vd [9, 10] 2 (by kernel_rfl) O O O ?_
    refine zkr (by kernel_rfl) ?_
    refine Vs 2 O ?_
    refine zjH Tryz.results4 O (fun w hI => ⟨_, rfl, by rw [znp rfl], hI.k4⟩)
   . exact absurd O k1
end Go.Proofs.YtaenledoagbddaaGreatDoor
