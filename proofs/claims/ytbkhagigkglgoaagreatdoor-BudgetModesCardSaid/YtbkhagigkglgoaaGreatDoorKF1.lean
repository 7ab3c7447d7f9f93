/-
  Contracts and the mathematics that the proof needs. Nothing here is a claim.
-/
import Derived.Test.YtbkhagigkglgoaaGreatDoorKU5
import Derived.WalkKit
import Derived.Deep.Quiet
import Derived.Deep.LoopGhost
import Derived.Below
import Derived.OrdersHeld
import Derived.KernelRfl
import Derived.WalkSpells
import Derived.ChangeKeysEq
import Derived.Lib.SliceRun
import Derived.Test.YtbkhagigkglgoaaGreatDoorRows
import Derived.ProofKit
import Derived.OpenShut
import Derived.ReadAgain
import Derived.ChangeBears
import Derived.Laws.Strings
import Derived.Test.YtbkhagigkglgoaaGreatDoorProg
import Derived.Maps.RangeRun
import Derived.MapKept
import Derived.Lib.AppendStr
import Derived.Lib.SmallJoins
import Derived.Lib.Builder
import Derived.Lib.UnsafeStr
import Derived.Laws.Externs
import Derived.Lib.ItoaNum
import Derived.Lib.ItoaMem
import Derived.Shelf.Strings.BuilderK
import Derived.Shelf.LaysM
import Derived.Shelf.Strconv.Itoa3
import Derived.Lib.ItoaLen
import Derived.Shelf.SlSortCmp.WholeK
import Derived.Ground.SlsfProg
import Derived.Shelf.SlSortCmp.NoneTotal
import Derived.Handed
import Derived.LaidLaws
import Derived.Test.YtbkhagigkglgoaaGreatDoorTie
import Derived.Test.YtbkhagigkglgoaaGreatDoorCards
namespace Go.GL
abbrev WD.done := @zjG
abbrev G.done := @zjH
abbrev VD.done := @zjI
abbrev VDx.done := @zjJ
abbrev G.sb := @zku
end Go.GL
namespace Go.Proofs.YtbkhagigkglgoaaGreatDoor
abbrev RpIn.done := @zjK
end Go.Proofs.YtbkhagigkglgoaaGreatDoor
namespace Go.GL
abbrev zmI := @Decidable.not_not
abbrev zmJ := @if_neg
abbrev zmK := @if_pos
abbrev zmL := @List.getElem?_eq_some_iff
abbrev zmM := @Nat.zero_le
abbrev zmN := @List.mem_singleton
abbrev zmO := @not_not_intro
end Go.GL
namespace Go.GL
theorem St.plainB_eq (s : St) : s.plainB = ((if s.act = 3 then true else if s.act = 4 then s.els.isEmpty else s.thn.isEmpty && s.els.isEmpty) && zei s.thn && zei s.els) := by cases s; rw [St.plainB]; rfl
theorem zms {l : List St} (h : ∀ s ∈ l, s.plainB = true) : zei l = true := by
 induction l with
 | nil => rfl
 | cons x r ih => rw [zei, h x (zmc ..), ih (fun s hs => h s (zmb _ hs))]; rfl
end Go.GL
namespace Go.Proofs.YtbkhagigkglgoaaGreatDoor
open Go.GL
theorem ziw {vs : List Vr} {nh : Nat} (l : List St) : ∀ top, zb vs nh l top = 0 -> zei l = true := by
 induction l using zk9 with
 | h l ih =>
 intro top h
 refine zms (fun s hs => ?_)
 obtain ⟨last, h2⟩ := xl l top h s hs
 obtain ⟨h3, _, _, h4, h5⟩ := xN h2
 rw [s.plainB_eq, (ih s hs).1 _ h4, (ih s hs).2 _ h5, Bool.and_true, Bool.and_true]
 split
 . rfl
 ·
  split
  . rename_i a4; rw [(h3.rep a4).2.2]; rfl
  . rename_i a3 a4; rw [(h3.free a3 a4).1, (h3.free a3 a4).2]; rfl
theorem zml {f : Fl} (h : zZ f = 0) : zei f.body = true := ziw _ _ (yo h).2.2.2.1
section
variable {f : Fl} (V : Valid f)
include V
theorem Valid.plain : zei f.body = true := zml V.ok
end
open Go.GL
theorem zmi {l : List Ob} (h : Asc l) : l.Nodup := h.imp fun {a b} h e => by rw [e, jH] at h; omega
theorem zmm (vs : List Vr) (k : Int) (vv : Value) (D : Nat -> Prop) (W : World) (hk : 0 <= k /\ k <= 3) (hg : ∀ v ∈ vs, yn (v.low, v.high)) (hlen : vs.length <= 1000000) (hvs : SlR 5 RVr D W vv vs) :
  Calls Tryz.prog 66 #[vv, .int .i64 k] W (Ret fun r w' => r = .tuple #[.int .i64 ((zp k vs).getD 0), .int .i64 (if (zp k vs).isSome then 0 else 4)] /\ Ext W w') := by
 have hgo : ∀ v ∈ ze k vs, yn (v.low, v.high) := fun v hv => hg v (List.mem_filter.1 hv).1
 have hsp : yf k (ze k vs) 1 = zp k vs := yZ k vs 1
 have hall : ∀ v ∈ ze k vs, v.kind = k := fun v hv => by simpa using (List.mem_filter.1 hv).2
 have hol := zme (xe k vs) hlen
 refine zkH Tryz.func66 O Tryz.ntmps66 O (zkS ?_)
 refine Vs 8 O ?_
 refine zlj (σ := Unit) [0, 1] [] [] O (fun e u => (23, .bool (decide (¬ (0 <= k /\ k <= 3)))) :: e) (fun e u => e) (fun u => True) (fun _ => rfl) (fun _ => rfl) ?_ ?_
 ·
  refine Vs 4 O ?_
  refine zkt 12 O (fun k1_ => ?_) (fun k1_ => ?_)
  ·
   refine Vs 4 O ?_
   refine zkt 16 O (fun k2_ => ?_) (fun k2_ => ?_)
   ·
    refine Vs 4 O ?_
    refine zkt 20 O (fun k3_ => ?_) (fun k3_ => ?_)
    ·
     refine Vs 4 O ?_
     refine ziR (()) (Sub.cons (by first | exact xp (by omega) | exact xq (by omega) | exact xr (by omega)) (zkg O)) (zkh O) (trivial) 0 O O
    ·
     refine Vs 4 O ?_
     refine ziR (()) (Sub.cons (by first | exact xp (by omega) | exact xq (by omega) | exact xr (by omega)) (zkg O)) (zkh O) (trivial) 0 O O
   ·
    refine Vs 8 O ?_
    refine ziR (()) (Sub.cons (by first | exact xp (by omega) | exact xq (by omega) | exact xr (by omega)) (zkg O)) (zkh O) (trivial) 0 O O
  ·
   refine Vs 12 O ?_
   refine ziR (()) (Sub.cons (by first | exact xp (by omega) | exact xq (by omega) | exact xr (by omega)) (zkg O)) (zkh O) (trivial) 0 O O
 rintro u _
 refine Vs 1 O ?_
 refine ziB O (fun h0 => ?_) (fun h0 => ?_)
 . exact absurd hk h0
 ·
  refine Vs 6 O ?_
  refine zl9 Tryz.call72 O (fun w hI => zfZ vs k vv D w (Tr1 hI.k0 hvs) hlen) ?_
  rintro l w1 w2 hI1 hk12 hos hlow
  obtain ⟨al, cl, rfl⟩ := hos.form
  have hml := hos.max
  refine Vs 10 O ?_
  refine zli (σ := Nat) [6] [] [] O (fun e i => (7, .int .i64 i) :: e) (fun e i => e) (fun i => i <= (ze k vs).length) (fun i => (ze k vs).length - i) (0) (zkg O) (zkh O) (fun _ => rfl) (fun _ => rfl) (fun _ => rfl) (zmM _) ?_
  rintro i hi
  refine Vs 9 O ?_
  refine ziB O (fun hlt => ?_) (fun hlt => ?_)
  ·
   refine Vs 5 O ?_
   obtain ⟨x, he_x, hm_x⟩ := gE_ (ze k vs) (i) (by omega)
   obtain ⟨b_x, o_x, c_x, ha_x, hd_x, hc_x, hR_x⟩ := hos.atD he_x
   obtain rfl := hR_x
   refine zlg 1000 0 O O (fun h_ => by have h1_ := hlow _ h_; have h2_ := hd_x; first | omega | exact h1_ h2_) hc_x ?_
   have hgx := hgo x hm_x
   unfold yn at hgx
   dsimp only at hgx
   refine Vq (by kernel_rfl) ?_
   refine Vs 2 O ?_
   refine zl1 1000 tR52 ts120 O ha_x (by omega) (_) (rfl) O ?_
   refine Vs 4 O ?_
   refine zl1 1000 tR52 ts120 O ha_x (by omega) (_) (rfl) O ?_
   refine Vs 4 O ?_
   refine zkt 44 O (fun b1 => ?_) (fun b1 => ?_)
   . exact absurd b1 (by omega)
   ·
    refine Vs 2 O ?_
    refine zl1 1000 tR52 ts120 O ha_x (by omega) (_) (rfl) O ?_
    refine Vs 5 O ?_
    refine zkt 52 O (fun b2 => ?_) (fun b2 => ?_)
    . exact absurd b2 (by omega)
    ·
     refine Vs 2 O ?_
     refine zl1 1000 tR52 ts120 O ha_x (by omega) (_) (rfl) O ?_
     refine Vs 6 O ?_
     refine ziB O (fun b3 => ?_) (fun b3 => ?_)
     . exact absurd b3 (by omega)
     ·
      refine Va 8 O (by omega) ?_
      refine ziM (i + 1) (zkg O) (zkh O) (by omega) (by first | omega | (dsimp only; omega)) 0 O O
  ·
   refine Vs 17 O ?_
   refine zli (σ := Nat × Int) [6] [] [] O (fun e ⟨j, n⟩ => (8, .int .i64 n) :: (9, .int .i64 j) :: e) (fun e ⟨j, n⟩ => e) (fun ⟨j, n⟩ => j <= (ze k vs).length /\ yf k ((ze k vs).take j) 1 = some n) (fun ⟨j, n⟩ => (ze k vs).length - j) ((0, 1)) (zkg O) (zkh O) (fun _ => rfl) (fun _ => rfl) (fun _ => rfl) (⟨zmM _, rfl⟩) ?_
   rintro ⟨j, n⟩ ⟨hj, hs⟩
   show V _ _ _ _ _ ((8, .int .i64 n) :: (9, .int .i64 j) :: _) _ (_) _
   have hn := yq k ((ze k vs).take j) 1 n (fun v hv => hgo v (List.mem_of_mem_take hv)) (by omega) (by omega) hs
   refine Vs 9 O ?_
   refine ziB O (fun hlt2 => ?_) (fun hlt2 => ?_)
   ·
    refine Vs 5 O ?_
    obtain ⟨x, he_x, hm_x⟩ := gE_ (ze k vs) (j) (by omega)
    obtain ⟨b_x, o_x, c_x, ha_x, hd_x, hc_x, hR_x⟩ := hos.atD he_x
    obtain rfl := hR_x
    refine zlg 2000 0 O O (fun h_ => by have h1_ := hlow _ h_; have h2_ := hd_x; first | omega | exact h1_ h2_) hc_x ?_
    have hgx := hgo x hm_x
    unfold yn at hgx
    dsimp only at hgx
    have hp := zeq (n := n) (s := x.high - x.low + 1) hn.1 hn.2 (by omega) (by omega)
    have hst : yf k ((ze k vs).take (j + 1)) 1 = if 4096 < n * (x.high - x.low + 1) then none else some (n * (x.high - x.low + 1)) := by
     rw [zg he_x, zU, hs]; simp [yf, hall x hm_x]
    refine Vq (by kernel_rfl) ?_
    refine Vs 3 O ?_
    refine zl1 2000 tR52 ts120 O ha_x (by omega) (_) (rfl) O ?_
    refine Vs 4 O ?_
    refine zl1 2000 tR52 ts120 O ha_x (by omega) (_) (rfl) O ?_
    refine Va 14 O (by omega) ?_
    refine ziB O (fun hb => ?_) (fun hb => ?_)
    ·
     rw [zmK hb] at hst
     have hnone : zp k vs = none := by
      rw [<- hsp, <- List.take_append_drop (j + 1) (ze k vs), zU, hst]; rfl
     refine Vs 12 O ?_
     refine ziY tr66 O O (fun w hI => ⟨_, rfl, by rw [hnone]; rfl, hI.k1⟩)
    ·
     rw [zmJ hb] at hst
     refine Va 8 O (by omega) ?_
     refine ziM ((j + 1, n * (x.high - x.low + 1))) (zkg O) (zkh O) (⟨by omega, hst⟩) (by first | omega | (dsimp only; omega)) 0 O O
   ·
    have : j = (ze k vs).length := by omega
    subst this
    rw [zmd, hsp] at hs
    refine Vs 13 O ?_
    refine ziY tr66 O O (fun w hI => ⟨_, rfl, by rw [hs]; rfl, hI.k1⟩)
theorem zix {α : Type} [DecidableEq α] : ∀ {l l' : List α}, l.Nodup -> (∀ x ∈ l, x ∈ l') -> l.length <= l'.length
 | [], _, _, _ => zmM _
 | x :: l, l', hn, hs => by
  rw [List.nodup_cons] at hn
  have hx := hs x (zmc ..)
  have h1 := zix (l' := l'.erase x) hn.2 fun y hy => (List.mem_erase_of_ne (fun e : y = x => hn.1 (e ▸ hy))).2 (hs y (zmb _ hy))
  rw [List.length_erase_of_mem hx] at h1
  have := List.length_pos_of_mem hx
  rw [List.length_cons]; omega
theorem zmt {a : Ac} {ps : List Fl} {q : Qu} {s : Int} (h : (zc7 a ps q s).code = 0) (_ : ∀ i, zbq ps q.1 = none -> yU a ps q ≠ i \/ i ≠ 0) : ∃ f, zbq ps q.1 = some f /\ yU a ps q = 0 /\ s ∈ a.left /\ yi a f q <= a.budget.tdiv a.spent /\ zc7 a ps q s = zhK a f q s := by
 unfold zc7 at h ⊢
 by_cases h1 : yU a ps q = 0
 ·
  obtain ⟨_, f, hf, _⟩ := jW h1
  simp only [h1, ne_eq, not_true_eq_false, if_false] at h ⊢
  by_cases h2 : s ∈ a.left
  ·
   simp only [h2, not_true_eq_false, if_false, hf] at h ⊢
   split at h
   . cases h
   ·
    rename_i h3
    exact ⟨f, rfl, trivial, trivial, by omega, by rw [zmJ h3]⟩
  . rw [zmK h2] at h; cases h
 . rw [zmK h1] at h; exact absurd h h1
theorem zmu {f : Fl} {pub rs rs' : List Int} (h : ∀ s ∈ rs, s ∈ rs') : (zg0 f pub rs).length <= (zg0 f pub rs').length :=
 zix (zmi (zc2 _)) fun o ho => by
  obtain ⟨s, hs, rfl⟩ := List.mem_map.1 (mem_distO.1 ho)
  exact zg1 (h s hs)
theorem zmp {ps : List Fl} {a : Ac} {f : Fl} {q : Qu} (hf : zbq ps q.1 = some f) (hi : xU f a.left) (hA : Agree ps a) : ((zg0 f q.2 a.left).length : Int) <= yi a f q := by
 unfold yi
 split
 . exact Int.le_refl _
 ·
  split
  ·
   rename_i h2
   have : (zg0 f q.2 a.left).length <= ([obN f q.2 (a.left.headD 0)]).length := zix (zmi (zc2 _)) fun o ho => by
    obtain ⟨s, hs, rfl⟩ := List.mem_map.1 (mem_distO.1 ho)
    cases hl : a.left with
    | nil => rw [hl] at hs; cases hs
    | cons x r => exact zmN.2 (hA q h2 f hf s hs x (by rw [hl]; exact zmc ..))
   simp only [List.length_singleton] at this
   omega
  ·
   have := zmu (f := f) (pub := q.2) (rs := a.left) (rs' := zax f) fun s hs => mem_allR.2 (hi s hs)
   omega
theorem zmn {a b : Ac} {ps : List Fl} {q : Qu} (h1 : ValidA a) (h2 : ValidA b) (h : a.left = b.left) : yU a ps q = yU b ps q := by
 unfold yU qPC
 rw [zmJ (zmO h1), zmJ (zmO h2), h]
theorem zmj {α β : Type} [DecidableEq β] (P : β -> α -> Bool) (b : Int) (c : Int) (hc : 0 <= c) (hb : 0 <= b) : ∀ (ol : List β) (L : List α), (∀ t ∈ L, ∃ o ∈ ol, P o t = true) -> (∀ o ∈ ol, ((L.filter (P o)).length : Int) * c <= b) -> (L.length : Int) * c <= ol.length * b
 | [], L, h, _ => by
  cases L with
  | nil => simp
  | cons x r => obtain ⟨o, ho, _⟩ := h x (zmc ..); cases ho
 | o :: r, L, h, h2 => by
  have h3 := zmj P b c hc hb r (L.filter fun t => !P o t) (fun t ht => by
   obtain ⟨h4, h5⟩ := List.mem_filter.1 ht
   obtain ⟨o', ho', h6⟩ := h t h4
   rcases List.mem_cons.1 ho' with rfl | ho'
   . rw [h6] at h5; cases h5
   . exact ⟨o', ho', h6⟩) (fun o' ho' => by
   have h7 := h2 o' (zmb _ ho')
   have h8 : ((L.filter fun t => !P o t).filter (P o')).length <= (L.filter (P o')).length := by
    rw [List.filter_filter, show (L.filter fun a => P o' a && !P o a) = (L.filter (P o')).filter (fun a => !P o a) by rw [List.filter_filter]; congr 1; funext a; exact Bool.and_comm _ _]
    exact List.length_filter_le _ _
   have h9 : (((L.filter fun t => !P o t).filter (P o')).length : Int) * c <= ((L.filter (P o')).length : Int) * c := Int.mul_le_mul_of_nonneg_right (by omega) hc
   omega)
  have h10 := h2 o (zmc ..)
  have h11 : (L.filter (P o)).length + (L.filter fun t => !P o t).length = L.length := by
   clear h h2 h3 h10
   induction L with
   | nil => rfl
   | cons x L ih => cases hp : P o x <;> simp [hp] <;> omega
  have h12 : (L.length : Int) * c = ((L.filter (P o)).length : Int) * c + ((L.filter fun t => !P o t).length : Int) * c := by rw [<- Int.add_mul]; congr 1; omega
  rw [h12, List.length_cons]
  have h13 : ((r.length + 1 : Nat) : Int) * b = r.length * b + b := by rw [Int.natCast_add, Int.add_mul]; simp
  omega
def zmE (r : Res) : Int := if r.code = 0 then 100 + r.answer % 65536 else r.code
def goN (t : Nn) (r : Res) : Option Int := t.next[((zmE r % 65536) % t.next.length).toNat]?
def trN (ps : List Fl) (T : List Nn) : Nat -> Ac -> Nat -> Int -> List Int
 | 0, _, _, _ => []
 | n + 1, a, i, s => match T[i]? with
  | none => []
  | some t => let r := zc7 a ps t.q s
   r.code :: r.answer :: r.charge :: (if t.next = [] then [] else match goN t r with
    | none => []
    | some j => if j <= i then [] else trN ps T n (if r.code = 0 then r.ac else a) j.toNat s)
theorem zmk {α β : Type} {g : α -> β} {l : List α} (hn : l.Nodup) (hg : ∀ x ∈ l, ∀ y ∈ l, g x = g y -> x = y) : (l.map g).Nodup := by
 induction l with
 | nil => exact List.Pairwise.nil
 | cons x r ih =>
  rw [List.nodup_cons] at hn
  rw [List.map_cons, List.nodup_cons]
  refine ⟨fun h => ?_, ih hn.2 fun a ha b hb => hg a (zmb _ ha) b (zmb _ hb)⟩
  obtain ⟨y, hy, he⟩ := List.mem_map.1 h
  exact hn.1 (hg y (zmb _ hy) x (zmc ..) he ▸ hy)
theorem zmh {α : Type} {L : List α} {x : α} (hn : L.Nodup) (h : ∀ t ∈ L, t = x) : L.length <= 1 := by
 match L, hn, h with
 | [], _, _ => exact zmM _
 | [_], _, _ => exact Nat.le_refl _
 | a :: b :: r, hn, h => exact absurd ((h a (by simp)).trans (h b (by simp)).symm) (fun e => (List.nodup_cons.1 hn).1 (by simp [e]))
theorem zmA {a : Ac} {ps : List Fl} {q : Qu} {s t : Int} (hs : s ∈ a.left) (ht : t ∈ a.left) : (zc7 a ps q s).code = (zc7 a ps q t).code /\ (zc7 a ps q s).charge = (zc7 a ps q t).charge /\ ((zc7 a ps q s).code ≠ 0 -> zc7 a ps q s = zc7 a ps q t) := by
 unfold zc7
 by_cases h : yU a ps q = 0
 ·
  simp only [h, hs, ht, ne_eq, not_true_eq_false, if_false]
  cases zbq ps q.1 with
  | none => exact ⟨rfl, rfl, fun _ => rfl⟩
  | some f =>
   simp only
   split
   . exact ⟨rfl, rfl, fun _ => rfl⟩
   . exact ⟨rfl, rfl, fun h => absurd O h⟩
 ·
  rw [zmK h, zmK h]
  exact ⟨rfl, rfl, fun _ => rfl⟩
theorem zmv {l : List Ob} {o p : Ob} (ho : o ∈ l) (hp : p ∈ l) (h : zh5 l o = zh5 l p) : o = p := by
 unfold zh5 at h
 rw [zmK ho, zmK hp] at h
 have h1 : ∀ o, o ∈ l -> l[l.findIdx (fun x => decide (x = o))]? = some o := fun o ho => by
  have hlt : l.findIdx (fun x => decide (x = o)) < l.length := List.findIdx_lt_length_of_exists ⟨o, ho, by simp⟩
  rw [zm8 hlt]
  have := List.findIdx_getElem (w := hlt)
  simpa using this
 have h2 := h1 o ho
 rw [show l.findIdx (fun x => decide (x = o)) = l.findIdx (fun x => decide (x = p)) by omega, h1 p hp] at h2
 exact (Option.some.inj h2).symm
theorem zmC (ps : List Fl) (T : List Nn) : ∀ (n : Nat) (a : Ac) (i : Nat) (L : List (List Int)), ValidA a -> Agree ps a -> L.Nodup -> (∀ t ∈ L, ∃ s ∈ a.left, t = trN ps T n a i s) -> (L.length : Int) * a.spent <= a.budget
 | 0, a, i, L, hv, _, hn, h => by
  have h1 := zmh (x := []) hn fun t ht => by obtain ⟨s, _, e⟩ := h t ht; exact e
  have h2 : (L.length : Int) * a.spent <= 1 * a.spent := Int.mul_le_mul_of_nonneg_right (by omega) (by have := hv.s1; omega)
  have := hv.s2
  omega
 | n + 1, a, i, L, hv, hA, hn, h => by
  have hs1 := hv.s1
  have hs2 := hv.s2
  have hone : L.length <= 1 -> (L.length : Int) * a.spent <= a.budget := fun h1 => by
   have h2 : (L.length : Int) * a.spent <= 1 * a.spent := Int.mul_le_mul_of_nonneg_right (by omega) (by omega)
   omega
  cases ht : T[i]? with
  | none => exact hone (zmh (x := []) hn fun t ht' => by obtain ⟨s, _, e⟩ := h t ht'; rw [e, trN, ht])
  | some t =>
   have htr : ∀ s, trN ps T (n + 1) a i s = (zc7 a ps t.q s).code :: (zc7 a ps t.q s).answer :: (zc7 a ps t.q s).charge :: (if t.next = [] then [] else match goN t (zc7 a ps t.q s) with
    | none => []
    | some j => if j <= i then [] else trN ps T n (if (zc7 a ps t.q s).code = 0 then (zc7 a ps t.q s).ac else a) j.toNat s) := fun s => by rw [trN, ht]
   obtain ⟨s0, hs0⟩ : ∃ s, s ∈ a.left := ⟨a.left[0]'hv.l1, List.getElem_mem _⟩
   by_cases hc : (zc7 a ps t.q s0).code = 0
   ·
    obtain ⟨f, hf, hq, _, hp, _⟩ := zmt hc (fun i hg => by
     by_cases hi : i = 0
     ·
      left
      intro e
      obtain ⟨_, f, hf, _⟩ := jW (e.trans hi)
      rw [hg] at hf; cases hf
     ·
      exact .inr hi)
    obtain ⟨_, f', hf', _, _, hin⟩ := jW hq
    rw [hf] at hf'
    cases hf'
    have hr : ∀ s ∈ a.left, zc7 a ps t.q s = zhK a f t.q s := fun s hs => by
     unfold zc7
     rw [zmJ (zmO hq), zmJ (zmO hs), hf]
     simp only
     rw [zmJ (by omega)]
    have hpp := zc8 (q := t.q) hv hin
    have hge := zmp hf hin hA
    have hparts := zmj (fun (o : Ob) (u : List Int) => decide (u[1]? = some (zh5 (zg0 f t.q.2 (zax f)) o))) a.budget (a.spent * yi a f t.q) (Int.mul_nonneg (by omega) (by omega)) (by have := hv.b1; omega) (zg0 f t.q.2 a.left) L (fun u hu => by
     obtain ⟨s, hs, rfl⟩ := h u hu
     refine ⟨obN f t.q.2 s, zg1 hs, ?_⟩
     rw [htr, hr s hs]
     simp [zhK]) (fun o ho => by
     obtain ⟨so, hso, hoe⟩ := List.mem_map.1 (mem_distO.1 ho)
     have hval : ValidA (zeQ a f t.q (yi a f t.q) o) := hoe ▸ hv.ans hso hin hp
     have hL : ∀ u ∈ L.filter (fun u => decide (u[1]? = some (zh5 (zg0 f t.q.2 (zax f)) o))), ∃ s ∈ a.left, obN f t.q.2 s = o /\ u = trN ps T (n + 1) a i s := fun u hu => by
      obtain ⟨h1, h2⟩ := List.mem_filter.1 hu
      obtain ⟨s, hs, rfl⟩ := h u h1
      refine ⟨s, hs, ?_, rfl⟩
      have h2 := of_decide_eq_true h2
      rw [htr, hr s hs] at h2
      have h3 : zh5 (zg0 f t.q.2 (zax f)) (obN f t.q.2 s) = zh5 (zg0 f t.q.2 (zax f)) o := by simpa [zhK] using h2
      exact zmv (zg1 (mem_allR.2 (hin s hs))) (hoe ▸ zg1 (mem_allR.2 (hin so hso))) h3
     have hnL : (L.filter (fun u => decide (u[1]? = some (zh5 (zg0 f t.q.2 (zax f)) o)))).Nodup := hn.filter _
     generalize L.filter (fun u => decide (u[1]? = some (zh5 (zg0 f t.q.2 (zax f)) o))) = M at hL hnL ⊢
     have hdrop : ∀ s ∈ a.left, obN f t.q.2 s = o -> trN ps T (n + 1) a i s = [0, zh5 (zg0 f t.q.2 (zax f)) o, yi a f t.q] ++ (trN ps T (n + 1) a i s).drop 3 := fun s hs he => by
      rw [htr, hr s hs, <- he]
      simp [zhK]
     have hnM : (M.map (List.drop 3)).Nodup := zmk hnL fun u hu v hv' e => by
      obtain ⟨s, hs, h1, rfl⟩ := hL u hu
      obtain ⟨s', hs', h1', rfl⟩ := hL v hv'
      rw [hdrop s hs h1, hdrop s' hs' h1', e]
     have hrest : ∀ s ∈ a.left, obN f t.q.2 s = o -> (trN ps T (n + 1) a i s).drop 3 = (if t.next = [] then [] else match t.next[(((100 + zh5 (zg0 f t.q.2 (zax f)) o % 65536) % 65536) % t.next.length).toNat]? with
       | none => []
       | some j => if j <= i then [] else trN ps T n (zeQ a f t.q (yi a f t.q) o) j.toNat s) := fun s hs he => by
      rw [htr, hr s hs]
      simp only [List.drop_succ_cons, List.drop_zero, zhK, if_true, he, goN, zmE]
     have hfin : (((M.map (List.drop 3)).length : Nat) : Int) * (zeQ a f t.q (yi a f t.q) o).spent <= (zeQ a f t.q (yi a f t.q) o).budget := by
      have hd : (∃ x, ∀ s ∈ a.left, obN f t.q.2 s = o -> (trN ps T (n + 1) a i s).drop 3 = x) \/ ∃ j : Nat, ∀ s ∈ a.left, obN f t.q.2 s = o -> (trN ps T (n + 1) a i s).drop 3 = trN ps T n (zeQ a f t.q (yi a f t.q) o) j s := by
       by_cases hx : t.next = []
       . exact .inl ⟨[], fun s hs he => by rw [hrest s hs he, zmK hx]⟩
       ·
        cases hj : t.next[(((100 + zh5 (zg0 f t.q.2 (zax f)) o % 65536) % 65536) % t.next.length).toNat]? with
        | none => exact .inl ⟨[], fun s hs he => by rw [hrest s hs he, zmJ hx, hj]⟩
        | some j =>
         by_cases hji : j <= i
         . exact .inl ⟨[], fun s hs he => by rw [hrest s hs he, zmJ hx, hj]; simp only; rw [zmK hji]⟩
         . exact .inr ⟨j.toNat, fun s hs he => by rw [hrest s hs he, zmJ hx, hj]; simp only; rw [zmJ hji]⟩
      rcases hd with ⟨x, hx⟩ | ⟨j, hj⟩
      ·
       have h1 := zmh (x := x) hnM fun u hu => by
        obtain ⟨v, hv', rfl⟩ := List.mem_map.1 hu
        obtain ⟨s, hs, he, rfl⟩ := hL v hv'
        exact hx s hs he
       have h2 : (((M.map (List.drop 3)).length : Nat) : Int) * (zeQ a f t.q (yi a f t.q) o).spent <= 1 * (zeQ a f t.q (yi a f t.q) o).spent := Int.mul_le_mul_of_nonneg_right (by omega) (by have := hval.s1; omega)
       have := hval.s2
       omega
      ·
       refine zmC ps T n _ j _ hval (hA.ans hf) hnM fun u hu => ?_
       obtain ⟨v, hv', rfl⟩ := List.mem_map.1 hu
       obtain ⟨s, hs, he, rfl⟩ := hL v hv'
       exact ⟨s, List.mem_filter.2 ⟨hs, decide_eq_true he⟩, hj s hs he⟩
     rw [List.length_map] at hfin
     exact hfin)
    have h1 : ((zg0 f t.q.2 a.left).length : Int) * a.budget <= yi a f t.q * a.budget := Int.mul_le_mul_of_nonneg_right hge (by have := hv.b1; omega)
    have h2 : (L.length : Int) * (a.spent * yi a f t.q) = yi a f t.q * ((L.length : Int) * a.spent) := by
     rw [<- Int.mul_assoc, Int.mul_comm]
    rw [h2] at hparts
    exact Int.le_of_mul_le_mul_left (Int.le_trans hparts h1) (by omega)
   ·
    have hr : ∀ s ∈ a.left, zc7 a ps t.q s = zc7 a ps t.q s0 := fun s hs => ((zmA hs0 hs).2.2 hc).symm
    have hpre : ∀ s ∈ a.left, trN ps T (n + 1) a i s = [(zc7 a ps t.q s0).code, (zc7 a ps t.q s0).answer, (zc7 a ps t.q s0).charge] ++ (trN ps T (n + 1) a i s).drop 3 := fun s hs => by
     rw [htr, hr s hs]; simp
    have hnM : (L.map (List.drop 3)).Nodup := zmk hn fun u hu v hv' e => by
     obtain ⟨s, hs, rfl⟩ := h u hu
     obtain ⟨s', hs', rfl⟩ := h v hv'
     rw [hpre s hs, hpre s' hs', e]
    have hrest : ∀ s ∈ a.left, (trN ps T (n + 1) a i s).drop 3 = (if t.next = [] then [] else match goN t (zc7 a ps t.q s0) with
       | none => []
       | some j => if j <= i then [] else trN ps T n a j.toNat s) := fun s hs => by
     rw [htr, hr s hs]
     simp only [List.drop_succ_cons, List.drop_zero, zmJ hc]
    have hd : (∃ x, ∀ s ∈ a.left, (trN ps T (n + 1) a i s).drop 3 = x) \/ ∃ j : Nat, ∀ s ∈ a.left, (trN ps T (n + 1) a i s).drop 3 = trN ps T n a j s := by
     by_cases hx : t.next = []
     . exact .inl ⟨[], fun s hs => by rw [hrest s hs, zmK hx]⟩
     ·
      cases hj : goN t (zc7 a ps t.q s0) with
      | none => exact .inl ⟨[], fun s hs => by rw [hrest s hs, zmJ hx, hj]⟩
      | some j =>
       by_cases hji : j <= i
       . exact .inl ⟨[], fun s hs => by rw [hrest s hs, zmJ hx, hj]; simp only; rw [zmK hji]⟩
       . exact .inr ⟨j.toNat, fun s hs => by rw [hrest s hs, zmJ hx, hj]; simp only; rw [zmJ hji]⟩
    rw [<- List.length_map (List.drop 3)]
    rcases hd with ⟨x, hx⟩ | ⟨j, hj⟩
    ·
     have h1 := zmh (x := x) hnM fun u hu => by
      obtain ⟨v, hv', rfl⟩ := List.mem_map.1 hu
      obtain ⟨s, hs, rfl⟩ := h v hv'
      exact hx s hs
     have h2 : (((L.map (List.drop 3)).length : Nat) : Int) * a.spent <= 1 * a.spent := Int.mul_le_mul_of_nonneg_right (by omega) (by omega)
     omega
    ·
     refine zmC ps T n a j _ hv hA hnM fun u hu => ?_
     obtain ⟨v, hv', rfl⟩ := List.mem_map.1 hu
     obtain ⟨s, hs, rfl⟩ := h v hv'
     exact ⟨s, hs, hj s hs⟩
theorem zmw (f : Fl) (hlen : f.vars.length <= 1000000) (v1 v2 v3 : Value) (D : Nat -> Prop) (W : World) (hf : RFl D W f v1 v2 v3) : Calls Tryz.prog 43 #[.agg #[v1, v2, v3]] W (Ret fun r w' => r = .bool (decide (ze 3 f.vars ≠ [])) /\ Ext W w') := by
 refine zkG Tryz.func43 O Tryz.ntmps43 O (zkS ?_)
 refine Vs 2 O ?_
 refine V.box 1 O O (fun b1 => ?_)
 refine Vs 7 O ?_
 refine zl9 Tryz.call72 O (fun w hI => zfZ f.vars 3 v1 D w (Tr1 hI.k0 hf.vars) hlen) ?_
 rintro l w1 w2 hI1 hk12 hos hlow
 obtain ⟨al, cl, rfl⟩ := hos.form
 refine Vs 6 O ?_
 refine ziV Tryz.results43 O (fun w hI => ⟨_, rfl, by rw [decide_eq_decide.2 (show (0 : Int) < ((ze 3 f.vars).length : Int) ↔ ze 3 f.vars ≠ [] by rw [<- List.length_pos_iff]; omega)], hI.k1⟩)
theorem ziu (f : Fl) (vd : Valid f) (v1 v2 v3 : Value) (D : Nat -> Prop) (W : World) (hf : RFl D W f v1 v2 v3) : Calls Tryz.prog 33 #[.agg #[v1, v2, v3]] W (Ret fun r w' => r = .int .i64 (spN f) /\ Ext W w') := by
 have hl := vd.lens
 have hsp : (zp 1 f.vars).getD 0 = (spN f : Int) := by
  unfold spN
  cases h : zp 1 f.vars with
  | none => rfl
  | some m =>
   have := yq 1 f.vars 1 m vd.good (by omega) (by omega) h
   simp only [Option.getD_some]
   omega
 refine zkG Tryz.func33 O Tryz.ntmps33 O (zkS ?_)
 refine Vs 2 O ?_
 refine V.box 1 O O (fun b1 => ?_)
 refine Vs 7 O ?_
 refine zl7 Tryz.call66 O (fun w hI => zmm f.vars 1 v1 D w (by decide) vd.good (by omega) (Tr1 hI.k0 hf.vars)) ?_
 refine Vs 14 O ?_
 refine ziV Tryz.results33 O (fun w hI => ⟨_, rfl, by rw [hsp], hI.k0⟩)
end Go.Proofs.YtbkhagigkglgoaaGreatDoor
namespace Go.GL
section
variable {P : Program} {n : Nat} {Q : Exit -> Act -> World -> Prop} {ks : List Fr} {pos : Pos} {env : Env} {A : Tgs} {H : Hp} {Bs : ya}
theorem V.mrg (k k2 : Nat) {e e2 e' : HE} (A1 : Tgs) (hn : (zm H k, zm H k2) = (some e, some e2))
  (hA1 : A1.map (fun p => zdA env p.1) = A1.map (fun p => kf ((k, e') :: yJ [k, k2] H) p.2)) (hA2 : A1.all (fun p => (kf ((k, e') :: yJ [k, k2] H) p.2).isSome) = true)
  (he : ∀ w, VI Bs H w -> e'.holds w) (hl : e'.loc) (hz : ∀ b, ¬ e'.fz b) (hS : ∀ q, e'.S q -> e.S q \/ e2.S q) (h : V P n Q ks pos env A1 ((k, e') :: yJ [k, k2] H) Bs) : V P n Q ks pos env A H Bs := by
 simp only [Prod.mk.injEq] at hn
 refine fun _ w hI => h (zki hA1 hA2) w (hI.hands (Hn := [(k, e')]) ⟨Keep.refl _ _, fun x hx => ?_, List.pairwise_singleton _ _⟩)
 rw [zmN] at hx
 subst hx
 have i1 : ∀ q, e.S q -> InS H [k, k2] q := fun q hq => ⟨_, zl hn.1, by simp [zd6, Nat.beq_refl], hq⟩
 have i2 : ∀ q, e2.S q -> InS H [k, k2] q := fun q hq => ⟨_, zl hn.2, by simp [zd6, Nat.beq_refl], hq⟩
 refine ⟨he w hI, hl, hz, fun q hq => ?_⟩
 rcases hS q hq with h1 | h1
 . exact ⟨.inl (i1 q h1), hI.low _ (zl hn.1) q h1⟩
 . exact ⟨.inl (i2 q h1), hI.low _ (zl hn.2) q h1⟩
end
end Go.GL
namespace Go.Proofs.YtbkhagigkglgoaaGreatDoor
open Go.GL
structure CaseOk (ps : List Fl) (qs_q : List Qu) (n : Int) : Prop where
 ps1 : 1 <= ps.length
 ps4 : ps.length <= 4
 qs8 : qs_q.length <= 8
 q20 : ∀ q ∈ qs_q, q.2.length <= 20
 sz : ∀ f ∈ ps, SzOk f
 an : ∀ f ∈ ps, zcq f = 0
 sp : ∀ f ∈ ps, (spN f : Int) = n
theorem zmq (ps : List Fl) (qs_q : List Qu) (m b : Int) (pv qv : Value) (D1 D2 : Nat -> Prop) (W : World) (hps : SlR 3 RPg D1 W pv ps) (hqs : SlR 2 RQu D2 W qv qs_q) :
  Calls Tryz.prog 13 #[.agg #[.int .i64 m, .int .i64 b, pv, qv]] W (Ret fun r w' => (∃ (n : Int) (ok : Bool), r = .tuple #[.int .i64 n, .bool ok] /\ (ok = true -> CaseOk ps qs_q n)) /\ Ext W w') := by
 obtain ⟨ap, cp, rfl⟩ := hps.form
 obtain ⟨aq, cq, rfl⟩ := hqs.form
 have hmp := hps.max
 have hmq := hqs.max
 refine zkG Tryz.func13 O Tryz.ntmps13 O (zkS ?_)
 refine Vs 2 O ?_
 refine V.box 1 O O (fun b1 => ?_)
 refine Vs 5 O ?_
 refine zlj (σ := Unit) [1] [1] [1] O (fun e u => e) (fun e u => e) (fun u => (1 <= ps.length /\ qs_q.length <= 8) /\ ps.length <= 4 /\ ∀ f ∈ ps, SzOk f) (fun _ => rfl) (fun _ => rfl) ?_ ?_
 ·
  refine Vs 7 O ?_
  refine zkt 13 O (fun p0 => ?_) (fun p0 => ?_)
  ·
   refine Vs 24 O ?_
   refine ziY Tryz.results13 O O (fun w hI => ⟨_, rfl, ⟨_, _, rfl, fun h => by cases h⟩, hI.k0⟩)
  ·
   refine Vs 6 O ?_
   refine zkt 19 O (fun p1 => ?_) (fun p1 => ?_)
   ·
    refine Vs 18 O ?_
    refine ziY Tryz.results13 O O (fun w hI => ⟨_, rfl, ⟨_, _, rfl, fun h => by cases h⟩, hI.k0⟩)
   ·
    refine zln [Value.int IntKind.i64 0, Value.int IntKind.i64 0, Value.int IntKind.i64 0, Value.slice none 0 0, Value.slice none 0 0] [(0, 1), (1, 1), (2, 1), (3, 1), (4, 1)] [] O O (fun _ => by kernel_rfl) ?_
    refine Vs 2 O ?_
    refine zl9 Tryz.call19 O (fun w hI => zge ac0 ps 0 0 0 _ _ _ (fun _ => True) D1 w ⟨SlR.nil, SlR.nil⟩ (Tr1 hI.k0 hps)) ?_
    rintro rr w1 w2 hI1 hk12 ⟨b0, rfl, hb0⟩ hlow
    refine zkx O (fun w hI => zk0 O (by first | exact za | rfl)) ?_
    refine Vs 3 O ?_
    refine V.bool O (fun q1 => ?_) (fun q1 => ?_)
    ·
     refine Vs 9 O ?_
     refine ziY Tryz.results13 O O (fun w hI => ⟨_, rfl, ⟨_, _, rfl, fun h => by cases h⟩, hI.k1⟩)
    ·
     have hb := hb0 (by simpa using q1)
     refine Vs 1 O ?_
     refine ziR (()) (zkg O) (zkh O) (⟨⟨by omega, by omega⟩, hb.1, hb.2.2.2⟩) 1 O O
 rintro u ⟨⟨hp1, hq8⟩, hp4, hz⟩
 refine Vs 16 O ?_
 refine zli (σ := Nat × Int) [1, 27, 28] [1] [1] O (fun e ⟨i, n⟩ => (29, .int .i64 i) :: (4, .int .i64 n) :: e) (fun e ⟨i, n⟩ => e) (fun ⟨i, n⟩ => StIn ps i n) (fun ⟨i, n⟩ => ps.length - i) ((0, 0)) (zkg O) (zkh O) (fun _ => rfl) (fun _ => rfl) (fun _ => rfl) (⟨zmM _, fun j f h => absurd h (Nat.not_lt_zero _)⟩) ?_
 rintro ⟨i, n⟩ hin
 show V _ _ _ _ _ ((29, .int .i64 i) :: (4, .int .i64 n) :: _) _ (_) _
 have hile := hin.le
 refine Vs 6 O ?_
 refine ziB O (fun hlt => ?_) (fun hlt => ?_)
 ·
  refine Vs 7 O ?_
  obtain ⟨f, he_f, hm_f⟩ := gE_ ps (i) (by omega)
  obtain ⟨b_f, o_f, c_f, ha_f, _, hc_f, hR_f⟩ := hps.at he_f
  obtain ⟨v1_f, v2_f, v3_f, rfl, hf_f⟩ := hR_f
  obtain ⟨a1_f, n1_f, rfl⟩ := hf_f.vars.form
  obtain ⟨a2_f, n2_f, rfl⟩ := hf_f.hatches.form
  obtain ⟨a3_f, n3_f, rfl⟩ := hf_f.body.form
  refine zlf 1000 0 O O hc_f ?_
  refine zkZ 1000 tR23 ts56 O ha_f (by omega) (_) (rfl) O ?_
  have hzf := hz f hm_f
  refine Vs 1 O ?_
  refine V.alloc 6 tz56 O O (fun b6 => ?_)
  refine Vs 8 O ?_
  refine zl7 Tryz.call42 O (fun w hI => zab f _ _ _ D1 w (Tr1 hI.k0 hf_f) hzf.size hzf.bulk) ?_
  refine Vs 2 O ?_
  refine zkt 37 O (fun c0 => ?_) (fun c0 => ?_)
  ·
   refine Vs 29 O ?_
   refine ziY Tryz.results13 O O (fun w hI => ⟨_, rfl, ⟨_, _, rfl, fun h => by cases h⟩, hI.k0⟩)
  ·
   have c0 := zmI.1 c0
   have vd := zic hzf c0
   have hvl := vd.lens
   refine Vs 1 O ?_
   refine zl7 Tryz.call43 O (fun w hI => zmw f (by omega) _ _ _ D1 w (Tr1 hI.k0 hf_f)) ?_
   refine Vs 2 O ?_
   refine zkt 41 O (fun c1 => ?_) (fun c1 => ?_)
   ·
    refine Vs 25 O ?_
    refine ziY Tryz.results13 O O (fun w hI => ⟨_, rfl, ⟨_, _, rfl, fun h => by cases h⟩, hI.k0⟩)
   ·
    have ha : zcq f = 0 := by unfold zcq; rw [zmJ (zmO c0), zmJ c1]
    refine Vs 3 O ?_
    refine zkt 44 O (fun c2 => ?_) (fun c2 => ?_)
    ·
     refine Vs 1 O ?_
     refine zl7 Tryz.call33 O (fun w hI => ziu f vd _ _ _ D1 w (Tr1 hI.k0 hf_f)) ?_
     refine Vs 6 O ?_
     refine ziB O (fun c3 => ?_) (fun c3 => ?_)
     ·
      refine Vs 13 O ?_
      refine ziY Tryz.results13 O O (fun w hI => ⟨_, rfl, ⟨_, _, rfl, fun h => by cases h⟩, hI.k0⟩)
     ·
      refine Vs 4 O ?_
      refine zl7 Tryz.call33 O (fun w hI => ziu f vd _ _ _ D1 w (Tr1 hI.k0 hf_f)) ?_
      have hnx := hin.next he_f ha (fun _ => by omega)
      refine Va 8 O (by omega) ?_
      refine ziM (⟨i + 1, (spN f : Int)⟩) (zkg O) (zkh O) (hnx) (by first | omega | (dsimp only; omega)) 0 O O
    ·
     refine Vs 13 O ?_
     refine zl7 Tryz.call33 O (fun w hI => ziu f vd _ _ _ D1 w (Tr1 hI.k0 hf_f)) ?_
     have hnx := hin.next he_f ha (fun h => by omega)
     refine Va 8 O (by omega) ?_
     refine ziM (⟨i + 1, (spN f : Int)⟩) (zkg O) (zkh O) (hnx) (by first | omega | (dsimp only; omega)) 0 O O
 ·
  obtain rfl : i = ps.length := by omega
  refine Vs 15 O ?_
  refine zli (σ := Nat) [4, 55, 56] [] [] O (fun e j => (57, .int .i64 j) :: e) (fun e j => e) (fun j => j <= qs_q.length /\ ∀ k q, k < j -> qs_q[k]? = some q -> q.2.length <= 20) (fun j => qs_q.length - j) (0) (zkg O) (zkh O) (fun _ => rfl) (fun _ => rfl) (fun _ => rfl) (⟨zmM _, fun k q h => absurd h (Nat.not_lt_zero _)⟩) ?_
  rintro j ⟨hj, hall⟩
  refine Vs 6 O ?_
  refine ziB O (fun hlt2 => ?_) (fun hlt2 => ?_)
  ·
   refine Vs 6 O ?_
   obtain ⟨q, he_q, hm_q⟩ := gE_ qs_q (j) (by omega)
   obtain ⟨b_q, o_q, c_q, ha_q, _, hc_q, hR_q⟩ := hqs.at he_q
   obtain ⟨v1_q, rfl, hs_q⟩ := hR_q
   obtain ⟨a1_q, n1_q, rfl⟩ := hs_q.form
   refine zlf 2000 0 O O hc_q ?_
   refine zkZ 2000 tR24 ts33 O ha_q (by omega) (_) (rfl) O ?_
   refine Vs 1 O ?_
   refine V.alloc 8 tz33 O O (fun b8 => ?_)
   refine Vs 11 O ?_
   refine ziB O (fun c0 => ?_) (fun c0 => ?_)
   ·
    refine Vs 12 O ?_
    refine ziY Tryz.results13 O O (fun w hI => ⟨_, rfl, ⟨_, _, rfl, fun h => by cases h⟩, hI.k0⟩)
   ·
    have hnx : j + 1 <= qs_q.length /\ ∀ k q, k < j + 1 -> qs_q[k]? = some q -> q.2.length <= 20 := ⟨by omega, fun k q' hk hq' => by
     by_cases e : k = j
     ·
      subst e
      rw [he_q] at hq'
      cases hq'
      omega
     ·
      exact hall k q' (by omega) hq'⟩
    refine Va 7 O (by omega) ?_
    refine ziM (j + 1) (zkg O) (zkh O) (hnx) (by first | omega | (dsimp only; omega)) 0 O O
  ·
   obtain rfl : j = qs_q.length := by omega
   have hres : CaseOk ps qs_q n := ⟨hp1, hp4, hq8, fun q hq => by
    obtain ⟨k, hk⟩ := List.mem_iff_getElem?.1 hq
    exact hall k q (zmL.1 hk).1 hk, hz, fun f hf => by
    obtain ⟨k, hk⟩ := List.mem_iff_getElem?.1 hf
    exact (hin.ok k f (zmL.1 hk).1 hk).1, fun f hf => by
    obtain ⟨k, hk⟩ := List.mem_iff_getElem?.1 hf
    exact (hin.ok k f (zmL.1 hk).1 hk).2⟩
   refine Vs 13 O ?_
   refine ziY Tryz.results13 O O (fun w hI => ⟨_, rfl, ⟨_, _, rfl, fun _ => hres⟩, hI.k0⟩)
open Go.GL Go.ChangeShapes Go.WideShapes Go.ChangeAt Go.RowKit
section
variable {H : Type} {enc : TypeId × Value -> H} {w : World} {base : Nat} {sp : Nat -> Bool} {held : Bool}
set_option maxRecDepth 100000 in
theorem zmx {r : Reach} {b0 : Nat} {v : Value} {d : DataW H} {ps : List MemPlace} (hval : Value.okWide Tryz.prog w r b0 26 v) (hd : DataW.Trod enc Tryz.prog w base sp held 26 v d ps) :
  ∃ (m b : Int) (fs : List Fl) (qs_q : List Qu) (u1 u2 : Value), v = .agg #[.int .i64 m, .int .i64 b, u1, u2] /\ SlR 3 RPg (fun _ => True) w u1 fs /\ SlR 2 RQu (fun _ => True) w u2 qs_q := by
 unfold Value.okWide at hval
 rw [Tryz.underlying26] at hval
 obtain ⟨cs, rfl, hsz, _⟩ := hval
 obtain ⟨k, hn⟩ := hd
 obtain ⟨xs, m, hk, _, hl, hx, hat⟩ := DataW.trod_struct Tryz.underlying26 hn
 rw [show Tryz.prog.cellsOf 26 = 4 by kernel_rfl] at hl
 obtain ⟨l⟩ := cs
 match l, hl with
 | [c0, c1, c2, c3], _ =>
  obtain ⟨y0, h0⟩ := zq hx hat 0 rfl (c := 1) (by kernel_rfl)
  obtain ⟨y1, h1⟩ := zq hx hat 1 rfl (c := 1) (by kernel_rfl)
  obtain ⟨y2, h2⟩ := zq hx hat 2 rfl (c := 1) (by kernel_rfl)
  obtain ⟨y3, h3⟩ := zq hx hat 3 rfl (c := 1) (by kernel_rfl)
  obtain ⟨n0, e0, _⟩ := DataW.trod_int Tryz.underlying22 h0
  obtain ⟨n1, e1, _⟩ := DataW.trod_int tu3 h1
  obtain ⟨v2, l2, e2, hs2⟩ := zbt Tryz.underlying23 (show Tryz.prog.cellsOf 56 = 3 by kernel_rfl) (by decide) (fun n cs y h => zhp n cs y h) h2
  obtain ⟨v3, l3, e3, hs3⟩ := zbt tu24 (show Tryz.prog.cellsOf 33 = 2 by kernel_rfl) (by decide) (fun n cs y h => (zfm n cs y h).imp fun _ h => h.1) h3
  simp [Value.cells] at e0 e1 e2 e3
  subst e0; subst e1; subst e2; subst e3
  exact ⟨_, _, l2, l3, _, _, rfl, hs2, hs3⟩
end
theorem zmB {n : Int} (h : (Lit.int .u8 n).wf = true) : 0 <= n /\ n <= 255 := by
 have h1 := of_decide_eq_true (Bool.and_eq_true_iff.1 h).1
 have h2 := of_decide_eq_true (Bool.and_eq_true_iff.1 h).2
 exact ⟨h1, h2⟩
open Go.GL
structure TrB (b : Ac) (m : Nat) : Prop where
 ll : b.left.length <= 5000
 al : b.asked.length <= m
 ql : ∀ p ∈ b.asked, p.2.length <= 17592186044416
theorem TrB.ask {b : Ac} {m : Nat} (h : TrB b m) (ps : List Fl) (q : Qu) (s : Int) (hq : q.2.length <= 20) (hc : (zc7 b ps q s).code = 0) : TrB (zc7 b ps q s).ac (m + 1) := by
 have h0 : TrB ac0 (m + 1) := ⟨by decide, zmM _, fun p hp => by cases hp⟩
 unfold zc7 at hc ⊢
 split at hc
 ·
  rename_i h1
  exact absurd hc h1
 ·
  rename_i h1
  rw [zmJ h1]
  split at hc
  . cases hc
  ·
   rename_i h2
   rw [zmJ h2]
   cases hg : zbq ps q.1 with
   | none => exact h0
   | some f =>
    rw [hg] at hc
    simp only at hc ⊢
    split at hc
    . cases hc
    ·
     rename_i h3
     rw [zmJ h3]
     refine ⟨zme (List.length_filter_le _ _) h.ll, ?_, fun p hp => ?_⟩
     ·
      show (if q ∈ b.asked then b.asked else b.asked ++ [q]).length <= _
      have := h.al
      split
      . omega
      . simp; omega
     ·
      have hp : p ∈ (if q ∈ b.asked then b.asked else b.asked ++ [q]) := hp
      split at hp
      . exact h.ql p hp
      ·
       rcases List.mem_append.1 hp with hp | hp
       . exact h.ql p hp
       . rw [zmN.1 hp]; omega
theorem TrB.up {b : Ac} {m k : Nat} (h : TrB b m) (hk : m <= k) : TrB b k := ⟨h.ll, zme h.al hk, h.ql⟩
end Go.Proofs.YtbkhagigkglgoaaGreatDoor
namespace Go.GL
section
variable {P : Program} {env : Env} {w : World} {dst : Option Tmp} {ty : TypeId} {pos : String} {aft : Array Edge} {g : Option (Nat × Bool)}
theorem zmF {s d : TypeId} {ks kd : IntKind} {m : Int} {x : Operand} (hs : P.underlying s = some (.int ks)) (hd : P.underlying d = some (.int kd)) (hw : kd.wrap m = m) (hx : ev env x = some (.int ks m)) : ye P ⟨dst, .convert s d x, ty, pos, aft, g⟩ env w (.int kd m) w :=
 zlT hx (by simp [convert, run_underlying hs, run_underlying hd, Conv.intToInt, hw, Result.andThen])
end
end Go.GL
namespace Go.Proofs.YtbkhagigkglgoaaGreatDoor
open Go.GL
theorem ziv {m b n : Int} (h : zfs m b n = 0) : (m = 0 \/ m = 1) /\ 1 <= b /\ b <= 1048576 /\ 1 <= n /\ n <= 4096 := by
 unfold zfs at h
 split at h
 . cases h
 ·
  rename_i h1
  split at h
  . cases h
  . exact ⟨zmI.1 h1, by omega⟩
theorem zmy {m b n : Int} (h : zfs m b n = 0) : zft m b n = ⟨m, b, 1, qm n.toNat, []⟩ := zmK h
theorem mem_rangeL {n : Nat} {x : Int} : x ∈ qm n ↔ 0 <= x /\ x < (n : Int) := by
 unfold qm
 rw [List.mem_map]
 constructor
 ·
  rintro ⟨i, hi, rfl⟩
  rw [List.mem_range] at hi
  omega
 ·
  intro h
  exact ⟨x.toNat, List.mem_range.2 (by omega), by omega⟩
theorem zmr (n : Nat) : (qm n).Pairwise (· < ·) := by
 unfold qm
 rw [List.pairwise_map]
 exact List.pairwise_lt_range.imp fun h => by omega
structure RunA (ps : List Fl) (a : Ac) (k : Nat) : Prop where
 ok : ValidA a
 ag : Agree ps a
 tr : TrB a k
theorem zmG {m b n : Int} (ps : List Fl) (h : zfs m b n = 0) : RunA ps (zft m b n) 0 := by
 obtain ⟨h1, h2, h3, h4, h5⟩ := ziv h
 rw [zmy h]
 have hl := ze3 n.toNat
 exact ⟨⟨h1, h2, h3, Int.le_refl _, h2, by rw [hl]; omega, by rw [hl]; omega, fun x hx => by have := mem_rangeL.1 hx; omega, zmr _⟩, fun q hq => by (cases hq), ⟨by rw [hl]; omega, Nat.le_refl _, fun q hq => by (cases hq)⟩⟩
theorem zmz {ps : List Fl} {a : Ac} {q : Qu} {s : Int} (h : (zc7 a ps q s).code = 0) : ∃ f, zbq ps q.1 = some f /\ yU a ps q = 0 /\ s ∈ a.left /\ yi a f q <= a.budget.tdiv a.spent /\ zc7 a ps q s = zhK a f q s := zmt h fun i hg => by
 by_cases hi : i = 0
 ·
  left
  intro e
  obtain ⟨_, f, hf, _⟩ := jW (e.trans hi)
  rw [hg] at hf; cases hf
 . exact .inr hi
theorem RunA.ask {ps : List Fl} {a : Ac} {k : Nat} {q : Qu} {s : Int} (h : RunA ps a k) (hq : q.2.length <= 20) (hc : (zc7 a ps q s).code = 0) : RunA ps (zc7 a ps q s).ac (k + 1) := by
 have ht := h.tr.ask ps q s hq hc
 obtain ⟨f, hf, hqc, hs, hp, e⟩ := zmz hc
 obtain ⟨_, f', hf', _, _, hi⟩ := jW hqc
 rw [hf] at hf'
 cases hf'
 rw [e] at ht ⊢
 exact ⟨h.ok.ans hs hi hp, h.ag.ans hf, ht⟩
theorem RunA.up {ps : List Fl} {a : Ac} {k m : Nat} (h : RunA ps a k) (hk : k <= m) : RunA ps a m := ⟨h.ok, h.ag, h.tr.up hk⟩
theorem RunA.acB {ps : List Fl} {a : Ac} {k : Nat} (h : RunA ps a k) (hk : k <= 50000) : AcB a := ⟨h.tr.ll, by have := h.tr.al; omega, h.tr.ql⟩
def zmD (a : Ac) (ps : List Fl) (q : Qu) : Int := if yU a ps q ≠ 0 then 0 else match zbq ps q.1 with
 | none => 0
 | some f => yi a f q
def zit (m : Int) (a : Ac) : Ac := ⟨m, a.budget, a.spent, a.left, a.asked⟩
theorem RAc.md {D : Nat -> Prop} {w : World} {a : Ac} {u1 u2 : Value} (h : RAc D w a u1 u2) (m : Int) : RAc D w (zit m a) u1 u2 := ⟨h.left, h.asked⟩
theorem RunA.md {ps : List Fl} {a : Ac} {k : Nat} (h : RunA ps a k) {m : Int} (hm : m = 0 \/ m = 1) : ValidA (zit m a) := ⟨hm, h.ok.b1, h.ok.b2, h.ok.s1, h.ok.s2, h.ok.l1, h.ok.l2, h.ok.rng, h.ok.asc⟩
theorem RunA.modes {ps : List Fl} {a : Ac} {k : Nat} (h : RunA ps a k) (q : Qu) : yU (zit 0 a) ps q = yU (zit 1 a) ps q /\ zmD (zit 1 a) ps q <= zmD (zit 0 a) ps q := by
 have he := zmn (ps := ps) (q := q) (h.md (m := 0) (.inl rfl)) (h.md (m := 1) (.inr rfl)) rfl
 refine ⟨he, ?_⟩
 unfold zmD
 by_cases hc : yU (zit 0 a) ps q = 0
 ·
  rw [zmJ (zmO (he ▸ hc)), zmJ (zmO hc)]
  obtain ⟨_, f, hf, _, _, hi⟩ := jW hc
  rw [hf]
  have hA : Agree ps (zit 0 a) := h.ag
  have := zmp hf hi hA
  show yi (zit 1 a) f q <= yi (zit 0 a) f q
  have e : yi (zit 1 a) f q = (zg0 f q.2 a.left).length := zmK rfl
  rw [e]
  exact this
 ·
  rw [zmK (fun h => hc (he.trans h)), zmK hc]
  exact Int.le_refl _
structure KrIn (ps : List Fl) (T : List Nn) (a : Ac) (i : Nat) (L : List (List Int)) : Prop where
 le : L.length <= i
 nd : L.Nodup
 all : ∀ t ∈ L, ∃ s ∈ a.left, t = trN ps T T.length a 0 s
theorem zmH {ps : List Fl} {T : List Nn} {a : Ac} : KrIn ps T a 0 [] := ⟨Nat.le_refl _, List.Pairwise.nil, fun t ht => by cases ht⟩
theorem KrIn.old {ps : List Fl} {T : List Nn} {a : Ac} {i : Nat} {L : List (List Int)} (h : KrIn ps T a i L) : KrIn ps T a (i + 1) L := ⟨Nat.le_succ_of_le h.le, h.nd, h.all⟩
theorem KrIn.new {ps : List Fl} {T : List Nn} {a : Ac} {i : Nat} {L : List (List Int)} (h : KrIn ps T a i L) {s : Int} (hs : s ∈ a.left) (hn : trN ps T T.length a 0 s ∉ L) : KrIn ps T a (i + 1) (L ++ [trN ps T T.length a 0 s]) := by
 refine ⟨by rw [zmg]; have := h.le; simp only [List.length_singleton]; omega, ?_, fun t ht => ?_⟩
 ·
  rw [List.nodup_append]
  exact ⟨h.nd, List.pairwise_singleton _ _, fun x hx y hy e => hn (by rw [<- zmN.1 hy, <- e]; exact hx)⟩
 ·
  rcases List.mem_append.1 ht with ht | ht
  . exact h.all t ht
  . exact ⟨s, hs, zmN.1 ht⟩
theorem KrIn.done {ps : List Fl} {T : List Nn} {m b n : Int} {i : Nat} {L : List (List Int)} (hc : zfs m b n = 0) (h : KrIn ps T (zft m b n) i L) : (L.length : Int) <= b := by
 have hr := zmG ps hc
 have h1 := zmC ps T T.length _ 0 L hr.ok hr.ag h.nd h.all
 rw [zmy hc] at h1
 simp only at h1
 omega
theorem zmo (m b : Int) (ps : List Fl) (qs_q : List Qu) (q : Qu) (s : Int) (pv qv tv : Value) (D1 D2 D3 : Nat -> Prop) (W : World) (hps : SlR 3 RPg D1 W pv ps) (hqs : SlR 2 RQu D2 W qv qs_q) (hq : SlR 1 zF D3 W tv q.2) (hs : 0 <= s /\ s <= 255) (ht : Tab W) :
  Calls Tryz.prog 6 #[.agg #[.int .i64 m, .int .i64 b, pv, qv], .agg #[.int .i64 q.1, tv], .int .u8 s] W (Ret fun r w' => r = .bool true /\ Ext W w') := by
 obtain ⟨qp, pub⟩ := q
 dsimp only at hq
 obtain ⟨ap, cp, rfl⟩ := hps.form
 obtain ⟨aq, cq, rfl⟩ := hqs.form
 obtain ⟨at_, ct, rfl⟩ := hq.form
 have hmp := hps.max
 have hmq := hqs.max
 refine zkI Tryz.func6 O Tryz.ntmps6 O (zkS ?_)
 refine Vs 2 O ?_
 refine V.box 3 O O (fun b3 => ?_)
 refine V.box 4 O O (fun b4 => ?_)
 refine Vs 6 O ?_
 refine zl7 Tryz.call12 O (fun w hI => ze4 w (Tr1 hI.k0 ht)) ?_
 refine zkx O (fun w hI => zk0 O (by first | exact za | rfl)) ?_
 refine Vs 2 O ?_
 refine V.bool O (fun k0 => ?_) (fun k0 => ?_)
 . cases k0
 ·
  refine Vs 5 O ?_
  refine zl9 Tryz.call13 O (fun w hI => zmq ps qs_q m b _ _ D1 D2 w (Tr1 hI.k0 hps) (Tr1 hI.k0 hqs)) ?_
  rintro rr w1 w2 hI1 hk12 ⟨n, ok, rfl, hok⟩ hlow
  refine Vs 11 O ?_
  refine zkx O (fun w hI => zk0 O (by first | exact za | rfl)) ?_
  refine Vs 1 O ?_
  refine V.sb 32 O (fun q1 => ?_) (fun q1 => ?_)
  ·
   refine Vs 15 O ?_
   refine ziV Tryz.results6 O (fun w hI => ⟨_, rfl, rfl, hI.k1⟩)
  ·
   have hcs := hok (by simpa using q1)
   refine Vs 7 O ?_
   refine ziB O (fun q2 => ?_) (fun q2 => ?_)
   ·
    refine Vs 7 O ?_
    refine ziV Tryz.results6 O (fun w hI => ⟨_, rfl, rfl, hI.k1⟩)
   ·
    refine Vs 9 O ?_
    refine zlw [] (Hn := fun y : Y5 => [(910, acY y.2.2.2.2 (zft m b n) y)]) [(3, some (3, 0)), (4, some (4, 0)), (33, some (4, 1)), (39, some (3, 0)), (41, some (3, 1))] Tryz.call14 O (fun _ _ => rfl) (fun _ => rfl) (fun w hI => zi0 910 O O) ?_
    rintro _ ⟨x1, x2, x3, x4, G⟩ rfl
    refine Vs 3 O ?_
    refine V.alloc 9 tz37 O O (fun b9 => ?_)
    refine Vs 11 O ?_
    refine ziB O (fun e0 => ?_) (fun e0 => ?_)
    ·
     refine Vs 7 O ?_
     refine ziV Tryz.results6 O (fun w hI => ⟨_, rfl, rfl, hI.k1⟩)
    ·
     have e0 := zmI.1 e0
     have hrun := zmG ps e0
     obtain ⟨_, _, _, hn1, hn2⟩ := ziv e0
     refine Vs 12 O ?_
     refine zli (σ := Nat × Ac × Y5) [2, 3, 4, 7, 9, 50, 51] [3, 4] [3, 4, 9] O (fun e ⟨i, a, ax, cx, az, cz, FF⟩ => (52, .int .i64 i) :: e) (fun e ⟨i, a, ax, cx, az, cz, FF⟩ => (9, .own b9 [.int .i64 a.mode, .int .i64 a.budget, .int .i64 a.spent, .slice ax a.left.length cx, .slice az a.asked.length cz] 37) :: (910, acY FF a (ax, cx, az, cz, FF)) :: e) (fun ⟨i, a, ax, cx, az, cz, FF⟩ => i <= qs_q.length /\ RunA ps a i) (fun ⟨i, a, ax, cx, az, cz, FF⟩ => qs_q.length - i) ((0, zft m b n, x1, x2, x3, x4, G)) (zkg O) (zkh O) (fun _ => rfl) (fun _ => rfl) (fun _ => rfl) (⟨zmM _, hrun⟩) ?_
     rintro ⟨i, a, ax, cx, az, cz, FF⟩ ⟨hi, hra⟩
     show V _ _ _ _ _ ((52, .int .i64 i) :: _) _ ((9, .own b9 [.int .i64 a.mode, .int .i64 a.budget, .int .i64 a.spent, .slice ax a.left.length cx, .slice az a.asked.length cz] 37) :: (910, acY FF a (ax, cx, az, cz, FF)) :: _) _
     have hq8 := hcs.qs8
     refine Vs 6 O ?_
     refine ziB O (fun hlt => ?_) (fun hlt => ?_)
     ·
      refine Vs 6 O ?_
      obtain ⟨p, he_p, hm_p⟩ := gE_ qs_q (i) (by omega)
      obtain ⟨b_p, o_p, c_p, ha_p, _, hc_p, hR_p⟩ := hqs.at he_p
      obtain ⟨v1_p, rfl, hs_p⟩ := hR_p
      obtain ⟨a1_p, n1_p, rfl⟩ := hs_p.form
      refine zlf 1000 1 O O hc_p ?_
      refine zkZ 1000 tR24 ts33 O ha_p (by omega) (_) (rfl) O ?_
      have hp20 := hcs.q20 p hm_p
      have hB := hra.acB (by omega)
      refine Vs 1 O ?_
      refine V.alloc 12 tz33 O O (fun b12 => ?_)
      refine Vs 4 O ?_
      refine Vw [3, 4, 9, 1000, 12] [] O ?_
      refine Vd [0, 1, 2, 3, 4, 6] 0 (by kernel_rfl) O O O ?_
      refine zlp 5 O (by kernel_rfl) O (fun w => zmF Tryz.underlying5 tu3 (xh (by omega)) O) ?_
      refine zlp 7 O (by kernel_rfl) O (fun w => R.rem O O (by omega) (by omega)) ?_
      have hnx := fun hc => hra.ask (q := p) (s := s.tmod n) hp20 hc
      generalize hR : zc7 a ps p (s.tmod n) = RR at hnx
      refine zm5 5 0 [(8, 65, [], false), (9, 56, [65], true), (10, 66, [65, 56], true), (11, 67, [65, 56], true), (12, 68, [65, 56], true), (13, 69, [65, 56], true), (14, 70, [65, 56], true), (15, 13, [], false), (16, 16, [], false)] (psi [(65, fun _ v hx => ∃ y : Y8, v = .tuple #[.agg #[.int .i64 RR.ac.mode, .int .i64 RR.ac.budget, .int .i64 RR.ac.spent, .slice y.1 RR.ac.left.length y.2.1, .slice y.2.2.1 RR.ac.asked.length y.2.2.2.1], .int .i64 RR.answer, .int .i64 RR.charge, .agg #[.slice y.2.2.2.2.1 RR.ob.1.length y.2.2.2.2.2.1, .int .i64 RR.ob.2], .int .i64 RR.code] /\ hx = [(903, aoY y.2.2.2.2.2.2 RR y)]), (56, phM 65), (66, phX 56 0), (67, phX 56 1), (68, phX 56 2), (69, phX 56 3), (70, phX 56 4), (13, phA 13 [Value.int IntKind.i64 0, Value.int IntKind.i64 0, Value.int IntKind.i64 0, Value.slice none 0 0, Value.slice none 0 0] 37), (16, phA 16 [Value.slice none 0 0, Value.int IntKind.i64 0] 60)]) (by kernel_rfl) (by kernel_rfl) O O ⟨?_, ?_, ?_, ?_, ?_, ?_, ?_, ?_, ?_, True.intro⟩ ?_
      . exact zm4 O O (fun _ _ _ _ _ h => h) (fun val hn _ w hI => Does.call (F.call Tryz.call24 (yg O)) (jI (H := []) ((by have h := zcl a hB ps hcs.sz p (by omega) (s.tmod n) _ _ _ _ FF D1 D2 w (show RAc _ _ _ _ _ from hI.at 910 O) (Tr1 hI.k1 hps) (Tr1 hI.k1 hs_p) (Tr1 hI.k1 ht); rw [hR] at h; exact zgE 903 h))))
      . exact MP.move 65 O O O
      . exact MP.ext 56 0 O O O (by decide) (fun _ => rfl) (fun val hn h => by obtain ⟨⟨_, e65, _⟩, ⟨e56, _⟩, _⟩ := h; exact ⟨_, _, e56.trans e65, rfl⟩)
      . exact MP.ext 56 1 O O O (by decide) (fun _ => rfl) (fun val hn h => by obtain ⟨⟨_, e65, _⟩, ⟨e56, _⟩, _⟩ := h; exact ⟨_, _, e56.trans e65, rfl⟩)
      . exact MP.ext 56 2 O O O (by decide) (fun _ => rfl) (fun val hn h => by obtain ⟨⟨_, e65, _⟩, ⟨e56, _⟩, _⟩ := h; exact ⟨_, _, e56.trans e65, rfl⟩)
      . exact MP.ext 56 3 O O O (by decide) (fun _ => rfl) (fun val hn h => by obtain ⟨⟨_, e65, _⟩, ⟨e56, _⟩, _⟩ := h; exact ⟨_, _, e56.trans e65, rfl⟩)
      . exact MP.ext 56 4 O O O (by decide) (fun _ => rfl) (fun val hn h => by obtain ⟨⟨_, e65, _⟩, ⟨e56, _⟩, _⟩ := h; exact ⟨_, _, e56.trans e65, rfl⟩)
      . exact MP.alloc 13 O O tz37 O O
      . exact MP.alloc 16 O O tz60 O O
      rintro val hn ⟨⟨⟨z1, z2, z3, z4, z5, z6, G1⟩, e65, n65⟩, ⟨e56, n56⟩, ⟨e66, n66⟩, ⟨e67, n67⟩, ⟨e68, n68⟩, ⟨e69, n69⟩, ⟨e70, n70⟩, ⟨b13, e13, n13⟩, ⟨b16, e16, n16⟩, _⟩
      have q56 := e56.trans e65
      have q66 := exq e66 q56 rfl
      have q67 := exq e67 q56 rfl
      have q68 := exq e68 q56 rfl
      have q69 := exq e69 q56 rfl
      have q70 := exq e70 q56 rfl
      refine zm7 [(3, some (3, 0)), (4, some (4, 0)), (9, some (9, 0)), (12, some (12, 0)), (54, some (1000, 0)), (58, some (3, 2)), (13, some (13, 0)), (16, some (16, 0))] _ _ (yk e65 (yk q56 (yk q66 (yk q67 (yk q68 (yk q69 (yk q70 (yk e13 (yk e16 (rfl)))))))))) (xX n65 (xX n56 (xX n66 (xX n67 (xX n68 (xX n69 (xX n70 (xX n13 (xX n16 (rfl)))))))))) O O O ?_
      clear n65 q56 n56 q66 n66 q67 n67 q68 n68 q69 n69 q70 n70 n13 n16
      refine Ve 17 0 O (by kernel_rfl) O O O ?_
      refine Vd [18, 19] 0 (by kernel_rfl) O O O ?_
      refine Ve 20 0 O (by kernel_rfl) O O O ?_
      refine Vd [21] 0 (by kernel_rfl) O O O ?_
      refine zjI (by kernel_rfl) ?_
      refine Vs 7 O ?_
      refine ziB O (fun c0 => ?_) (fun c0 => ?_)
      ·
       refine Va 10 O (by omega) ?_
       refine V.mrg 910 903 (e' := acY (fun q => FF q \/ G1 q) RR.ac (z1, z2, z3, z4, fun _ => False)) [(3, some (3, 0)), (4, some (4, 0)), (9, some (9, 0)), (12, some (12, 0)), (13, some (13, 0)), (16, some (16, 0)), (54, some (1000, 0)), (58, some (3, 2))] O O O (fun w hI => (show RAc _ _ _ _ _ /\ _ from hI.at 903 O).1.wide (fun q hq => .inr hq)) (AcP.loc) (fun _ h => h) (fun q hq => hq) ?_
       have hr2 := hnx c0
       refine ziM (⟨i + 1, RR.ac, z1, z2, z3, z4, fun q => FF q \/ G1 q⟩) (zkg O) (zkh O) (⟨by omega, hr2⟩) (by first | omega | (dsimp only; omega)) 0 O O
      ·
       have hr2 := hra.up (Nat.le_succ i)
       refine Va 7 O (by omega) ?_
       refine ziM (⟨i + 1, a, ax, cx, az, cz, FF⟩) (zkg O) (zkh O) (⟨by omega, hr2⟩) (by first | omega | (dsimp only; omega)) 0 O O
     ·
      have hB := hra.acB (by omega)
      have hll := hB.ll
      have hmd := hra.modes (qp, pub)
      refine Vs 8 O ?_
      refine V.alloc 18 tz37 O O (fun b18 => ?_)
      refine Vs 17 O ?_
      refine zl7 Tryz.call20 O (fun w hI => zcj (zit 0 a) hll ps hcs.sz (qp, pub) _ _ _ _ FF D1 D3 w (RAc.md (show RAc _ _ _ _ _ from hI.at 910 O) 0) (Tr1 hI.k1 hps) (Tr1 hI.k1 hq) (Tr1 hI.k1 ht)) ?_
      refine Vs 13 O ?_
      refine zl7 Tryz.call20 O (fun w hI => zcj (zit 1 a) hll ps hcs.sz (qp, pub) _ _ _ _ FF D1 D3 w (RAc.md (show RAc _ _ _ _ _ from hI.at 910 O) 1) (Tr1 hI.k1 hps) (Tr1 hI.k1 hq) (Tr1 hI.k1 ht)) ?_
      refine Vs 13 O ?_
      refine zkt 97 O (fun g1 => ?_) (fun g1 => ?_)
      ·
       have hle : zmD (zit 1 a) ps (qp, pub) <= zmD (zit 0 a) ps (qp, pub) := hmd.2
       refine Vs 8 O ?_
       refine ziV Tryz.results6 O (fun w hI => ⟨_, rfl, by exact congrArg Value.bool (decide_eq_true hle), hI.k1⟩)
      . exact absurd hmd.1 g1
end Go.Proofs.YtbkhagigkglgoaaGreatDoor
