/-
  Contracts and the mathematics that the proof needs. Nothing here is a claim.
-/
import Derived.Test.YtbkhagigkglgoaaGreatDoorKU5
import Derived.WalkKit
import Derived.Deep.Quiet
import Derived.Deep.LoopGhost
import Derived.Below
import Derived.OrdersHeld
import Derived.KernelRfl
import Derived.WalkSpells
import Derived.ChangeKeysEq
import Derived.Lib.SliceRun
import Derived.Test.YtbkhagigkglgoaaGreatDoorRows
import Derived.ProofKit
import Derived.OpenShut
import Derived.ReadAgain
import Derived.ChangeBears
import Derived.Laws.Strings
import Derived.Test.YtbkhagigkglgoaaGreatDoorProg
import Derived.Maps.RangeRun
import Derived.MapKept
import Derived.Lib.AppendStr
import Derived.Lib.SmallJoins
import Derived.Lib.Builder
import Derived.Lib.UnsafeStr
import Derived.Laws.Externs
import Derived.Lib.ItoaNum
import Derived.Lib.ItoaMem
import Derived.Shelf.Strings.BuilderK
import Derived.Shelf.LaysM
import Derived.Shelf.Strconv.Itoa3
import Derived.Lib.ItoaLen
import Derived.Shelf.SlSortCmp.WholeK
import Derived.Ground.SlsfProg
import Derived.Shelf.SlSortCmp.NoneTotal
import Derived.Handed
import Derived.LaidLaws
import Derived.Test.YtbkhagigkglgoaaGreatDoorTie
import Derived.Test.YtbkhagigkglgoaaGreatDoorCards
namespace Go.GL
abbrev WD.done := @zjG
abbrev G.done := @zjH
abbrev VD.done := @zjI
abbrev VDx.done := @zjJ
abbrev G.sb := @zku
abbrev VD.ap := @zl3
end Go.GL
namespace Go.Proofs.YtbkhagigkglgoaaGreatDoor
abbrev RpIn.done := @zjK
end Go.Proofs.YtbkhagigkglgoaaGreatDoor
namespace Go.GL
open Go.RowKit
def zmO : Hp -> Nat -> Hp
 | [], _ => []
 | (k, e) :: r, j => cond (Nat.beq k j) r ((k, e) :: zmO r j)
section
variable {Bs : ya} {H : Hp} {w w' : World} {k : Nat} {e e' : HE} {T : Nat -> Prop}
theorem hdel_sub : ∀ {H : Hp} {k : Nat}, (zmO H k).Sublist H
 | [], _ => List.Sublist.refl _
 | (k', e) :: r, k => by
  simp only [zmO]
  cases Nat.beq k' k with
  | true => exact List.sublist_cons_self ..
  | false => exact hdel_sub.cons_cons _
theorem VI.del (h : VI Bs H w) (k : Nat) : VI Bs (zmO H k) w := h.few (fun _ hx => hdel_sub.subset hx) (h.apart.sublist hdel_sub)
end
section
variable {P : Program} {T : Tab} {Z : Szs} {n : Nat} {Q : Exit -> Act -> World -> Prop} {ks : List Fr} {pos : Pos} {env : Env} {A : Tgs} {H : Hp} {Bs : ya} {ops : Array Oper} {v : Value}
theorem zmt : ∀ {H : Hp} {k j : Nat}, Nat.beq k j = false -> zm (zmO H k) j = zm H j
 | [], _, _, _ => rfl
 | (k1, e1) :: r, k, j, h => by
  simp only [zmO]
  cases hb : Nat.beq k1 k with
  | true =>
   have := zmf hb
   subst this
   simp only [zm, h, cond_false, cond_true]
  | false => simp only [zm, cond_false]; rw [zmt h]
theorem V.del (k : Nat) (hn : qD H k = none) (h : V P n Q ks pos env A (zmO H k) Bs) : V P n Q ks pos env A H Bs := by
 refine fun hA w hI => h (hA.heap (fun j b o hj => ?_)) w (hI.del k)
 have hkj : Nat.beq k j = false := by
  cases hb : Nat.beq k j with
  | true => rw [<- zmf hb, hn] at hj; cases hj
  | false => rfl
 unfold qD at hj ⊢
 rw [zmt hkj]
 exact hj
end
open Go.RowKit
section
variable {P : Program} {T : Tab} {Z : Szs} {n : Nat} {Q : Exit -> Act -> World -> Prop} {ks : List Fr} {pos : Pos} {env : Env} {A : Tgs} {H Hs : Hp} {Bs B0 : ya} {ops : Array Oper} {rest : List Oper} {v : Value} {L : List Nat} {fuel : Nat} {listed : Array Bool}
variable {d : Nat} {op : Op} {ty : TypeId} {ps : String} {aft : Array Edge} {g : Option (Nat × Bool)}
theorem zmX (hn : (Nat.blt d n, gd ops env g) = (true, some true)) (hr : ∀ w, VI Bs H w -> ye P ⟨some d, op, ty, ps, aft, g⟩ env w v w) (h : V P n Q ks (.q ops rest) ((d, v) :: env) ((d, none) :: A) H Bs) : V P n Q ks (.q ops (⟨some d, op, ty, ps, aft, g⟩ :: rest)) env A H Bs := by
 simp only [Prod.mk.injEq] at hn
 exact fun hA w hI => zkz hn.1 hn.2 (fun w1 hw1 => hr w1 (hI.ext hw1)) (h hA.none w hI)
end
end Go.GL
namespace Go.Proofs
theorem Tryz.el31 : (Tryz.prog.info? 31).map (fun i => (i.zero, i.size, i.bytes)) = some (some ((Value.slice none 0 0)), 1, 24) := by kernel_rfl
end Go.Proofs
namespace Go.GL
theorem St.plainB_eq (s : St) : s.plainB = ((if s.act = 3 then true else if s.act = 4 then s.els.isEmpty else s.thn.isEmpty && s.els.isEmpty) && zei s.thn && zei s.els) := by cases s; rw [St.plainB]; rfl
theorem zmA {l : List St} (h : ∀ s ∈ l, s.plainB = true) : zei l = true := by
 induction l with
 | nil => rfl
 | cons x r ih => rw [zei, h x (zmc ..), ih (fun s hs => h s (zmb _ hs))]; rfl
end Go.GL
namespace Go.Proofs.YtbkhagigkglgoaaGreatDoor
open Go.GL
theorem ziw {vs : List Vr} {nh : Nat} (l : List St) : ∀ top, zb vs nh l top = 0 -> zei l = true := by
 induction l using zk9 with
 | h l ih =>
 intro top h
 refine zmA (fun s hs => ?_)
 obtain ⟨last, h2⟩ := xl l top h s hs
 obtain ⟨h3, _, _, h4, h5⟩ := xN h2
 rw [s.plainB_eq, (ih s hs).1 _ h4, (ih s hs).2 _ h5, Bool.and_true, Bool.and_true]
 split
 . rfl
 ·
  split
  . rename_i a4; rw [(h3.rep a4).2.2]; rfl
  . rename_i a3 a4; rw [(h3.free a3 a4).1, (h3.free a3 a4).2]; rfl
theorem zmo {f : Fl} (h : zZ f = 0) : zei f.body = true := ziw _ _ (yo h).2.2.2.1
section
variable {f : Fl} (V : Valid f)
include V
theorem Valid.plain : zei f.body = true := zmo V.ok
end
open Go.GL
theorem zmj {l : List Ob} (h : Asc l) : l.Nodup := h.imp fun {a b} h e => by rw [e, jH] at h; omega
theorem zmp (vs : List Vr) (k : Int) (vv : Value) (D : Nat -> Prop) (W : World) (hk : 0 <= k /\ k <= 3) (hg : ∀ v ∈ vs, yn (v.low, v.high)) (hlen : vs.length <= 1000000) (hvs : SlR 5 RVr D W vv vs) :
  Calls Tryz.prog 66 #[vv, .int .i64 k] W (Ret fun r w' => r = .tuple #[.int .i64 ((zp k vs).getD 0), .int .i64 (if (zp k vs).isSome then 0 else 4)] /\ Ext W w') := by
 have hgo : ∀ v ∈ ze k vs, yn (v.low, v.high) := fun v hv => hg v (List.mem_filter.1 hv).1
 have hsp : yf k (ze k vs) 1 = zp k vs := yZ k vs 1
 have hall : ∀ v ∈ ze k vs, v.kind = k := fun v hv => by simpa using (List.mem_filter.1 hv).2
 have hol := zme (xe k vs) hlen
 refine zkH Tryz.func66 O Tryz.ntmps66 O (zkS ?_)
 refine Vs 8 O ?_
 refine zlj (σ := Unit) [0, 1] [] [] O (fun e u => (23, .bool (decide (¬ (0 <= k /\ k <= 3)))) :: e) (fun e u => e) (fun u => True) (fun _ => rfl) (fun _ => rfl) ?_ ?_
 ·
  refine Vs 4 O ?_
  refine zkt 12 O (fun k1_ => ?_) (fun k1_ => ?_)
  ·
   refine Vs 4 O ?_
   refine zkt 16 O (fun k2_ => ?_) (fun k2_ => ?_)
   ·
    refine Vs 4 O ?_
    refine zkt 20 O (fun k3_ => ?_) (fun k3_ => ?_)
    ·
     refine Vs 4 O ?_
     refine ziR (()) (Sub.cons (by first | exact xp (by omega) | exact xq (by omega) | exact xr (by omega)) (zkg O)) (zkh O) (trivial) 0 O O
    ·
     refine Vs 4 O ?_
     refine ziR (()) (Sub.cons (by first | exact xp (by omega) | exact xq (by omega) | exact xr (by omega)) (zkg O)) (zkh O) (trivial) 0 O O
   ·
    refine Vs 8 O ?_
    refine ziR (()) (Sub.cons (by first | exact xp (by omega) | exact xq (by omega) | exact xr (by omega)) (zkg O)) (zkh O) (trivial) 0 O O
  ·
   refine Vs 12 O ?_
   refine ziR (()) (Sub.cons (by first | exact xp (by omega) | exact xq (by omega) | exact xr (by omega)) (zkg O)) (zkh O) (trivial) 0 O O
 rintro u _
 refine Vs 1 O ?_
 refine ziB O (fun h0 => ?_) (fun h0 => ?_)
 . exact absurd hk h0
 ·
  refine Vs 6 O ?_
  refine zl9 Tryz.call72 O (fun w hI => zfZ vs k vv D w (Tr1 hI.k0 hvs) hlen) ?_
  rintro l w1 w2 hI1 hk12 hos hlow
  obtain ⟨al, cl, rfl⟩ := hos.form
  have hml := hos.max
  refine Vs 10 O ?_
  refine zli (σ := Nat) [6] [] [] O (fun e i => (7, .int .i64 i) :: e) (fun e i => e) (fun i => i <= (ze k vs).length) (fun i => (ze k vs).length - i) (0) (zkg O) (zkh O) (fun _ => rfl) (fun _ => rfl) (fun _ => rfl) (Nat.zero_le _) ?_
  rintro i hi
  refine Vs 9 O ?_
  refine ziB O (fun hlt => ?_) (fun hlt => ?_)
  ·
   refine Vs 5 O ?_
   obtain ⟨x, he_x, hm_x⟩ := gE_ (ze k vs) (i) (by omega)
   obtain ⟨b_x, o_x, c_x, ha_x, hd_x, hc_x, hR_x⟩ := hos.atD he_x
   obtain rfl := hR_x
   refine zlg 1000 0 O O (fun h_ => by have h1_ := hlow _ h_; have h2_ := hd_x; first | omega | exact h1_ h2_) hc_x ?_
   have hgx := hgo x hm_x
   unfold yn at hgx
   dsimp only at hgx
   refine Vq (by kernel_rfl) ?_
   refine Vs 2 O ?_
   refine zl1 1000 tR52 ts120 O ha_x (by omega) (_) (rfl) O ?_
   refine Vs 4 O ?_
   refine zl1 1000 tR52 ts120 O ha_x (by omega) (_) (rfl) O ?_
   refine Vs 4 O ?_
   refine zkt 44 O (fun b1 => ?_) (fun b1 => ?_)
   . exact absurd b1 (by omega)
   ·
    refine Vs 2 O ?_
    refine zl1 1000 tR52 ts120 O ha_x (by omega) (_) (rfl) O ?_
    refine Vs 5 O ?_
    refine zkt 52 O (fun b2 => ?_) (fun b2 => ?_)
    . exact absurd b2 (by omega)
    ·
     refine Vs 2 O ?_
     refine zl1 1000 tR52 ts120 O ha_x (by omega) (_) (rfl) O ?_
     refine Vs 6 O ?_
     refine ziB O (fun b3 => ?_) (fun b3 => ?_)
     . exact absurd b3 (by omega)
     ·
      refine Va 8 O (by omega) ?_
      refine ziM (i + 1) (zkg O) (zkh O) (by omega) (by first | omega | (dsimp only; omega)) 0 O O
  ·
   refine Vs 17 O ?_
   refine zli (σ := Nat × Int) [6] [] [] O (fun e ⟨j, n⟩ => (8, .int .i64 n) :: (9, .int .i64 j) :: e) (fun e ⟨j, n⟩ => e) (fun ⟨j, n⟩ => j <= (ze k vs).length /\ yf k ((ze k vs).take j) 1 = some n) (fun ⟨j, n⟩ => (ze k vs).length - j) ((0, 1)) (zkg O) (zkh O) (fun _ => rfl) (fun _ => rfl) (fun _ => rfl) (⟨Nat.zero_le _, rfl⟩) ?_
   rintro ⟨j, n⟩ ⟨hj, hs⟩
   show V _ _ _ _ _ ((8, .int .i64 n) :: (9, .int .i64 j) :: _) _ (_) _
   have hn := yq k ((ze k vs).take j) 1 n (fun v hv => hgo v (List.mem_of_mem_take hv)) (by omega) (by omega) hs
   refine Vs 9 O ?_
   refine ziB O (fun hlt2 => ?_) (fun hlt2 => ?_)
   ·
    refine Vs 5 O ?_
    obtain ⟨x, he_x, hm_x⟩ := gE_ (ze k vs) (j) (by omega)
    obtain ⟨b_x, o_x, c_x, ha_x, hd_x, hc_x, hR_x⟩ := hos.atD he_x
    obtain rfl := hR_x
    refine zlg 2000 0 O O (fun h_ => by have h1_ := hlow _ h_; have h2_ := hd_x; first | omega | exact h1_ h2_) hc_x ?_
    have hgx := hgo x hm_x
    unfold yn at hgx
    dsimp only at hgx
    have hp := zeq (n := n) (s := x.high - x.low + 1) hn.1 hn.2 (by omega) (by omega)
    have hst : yf k ((ze k vs).take (j + 1)) 1 = if 4096 < n * (x.high - x.low + 1) then none else some (n * (x.high - x.low + 1)) := by
     rw [zg he_x, zU, hs]; simp [yf, hall x hm_x]
    refine Vq (by kernel_rfl) ?_
    refine Vs 3 O ?_
    refine zl1 2000 tR52 ts120 O ha_x (by omega) (_) (rfl) O ?_
    refine Vs 4 O ?_
    refine zl1 2000 tR52 ts120 O ha_x (by omega) (_) (rfl) O ?_
    refine Va 14 O (by omega) ?_
    refine ziB O (fun hb => ?_) (fun hb => ?_)
    ·
     rw [if_pos hb] at hst
     have hnone : zp k vs = none := by
      rw [<- hsp, <- List.take_append_drop (j + 1) (ze k vs), zU, hst]; rfl
     refine Vs 12 O ?_
     refine ziY tr66 O O (fun w hI => ⟨_, rfl, by rw [hnone]; rfl, hI.k1⟩)
    ·
     rw [if_neg hb] at hst
     refine Va 8 O (by omega) ?_
     refine ziM ((j + 1, n * (x.high - x.low + 1))) (zkg O) (zkh O) (⟨by omega, hst⟩) (by first | omega | (dsimp only; omega)) 0 O O
   ·
    have : j = (ze k vs).length := by omega
    subst this
    rw [zmd, hsp] at hs
    refine Vs 13 O ?_
    refine ziY tr66 O O (fun w hI => ⟨_, rfl, by rw [hs]; rfl, hI.k1⟩)
theorem zix {α : Type} [DecidableEq α] : ∀ {l l' : List α}, l.Nodup -> (∀ x ∈ l, x ∈ l') -> l.length <= l'.length
 | [], _, _, _ => Nat.zero_le _
 | x :: l, l', hn, hs => by
  rw [List.nodup_cons] at hn
  have hx := hs x (zmc ..)
  have h1 := zix (l' := l'.erase x) hn.2 fun y hy => (List.mem_erase_of_ne (fun e : y = x => hn.1 (e ▸ hy))).2 (hs y (zmb _ hy))
  rw [List.length_erase_of_mem hx] at h1
  have := List.length_pos_of_mem hx
  rw [List.length_cons]; omega
theorem zmB {a : Ac} {ps : List Fl} {q : Qu} {s : Int} (h : (zc7 a ps q s).code = 0) (_ : ∀ i, zbq ps q.1 = none -> yU a ps q ≠ i \/ i ≠ 0) : ∃ f, zbq ps q.1 = some f /\ yU a ps q = 0 /\ s ∈ a.left /\ yi a f q <= a.budget.tdiv a.spent /\ zc7 a ps q s = zhK a f q s := by
 unfold zc7 at h ⊢
 by_cases h1 : yU a ps q = 0
 ·
  obtain ⟨_, f, hf, _⟩ := jW h1
  simp only [h1, ne_eq, not_true_eq_false, if_false] at h ⊢
  by_cases h2 : s ∈ a.left
  ·
   simp only [h2, not_true_eq_false, if_false, hf] at h ⊢
   split at h
   . cases h
   ·
    rename_i h3
    exact ⟨f, rfl, trivial, trivial, by omega, by rw [if_neg h3]⟩
  . rw [if_pos h2] at h; cases h
 . rw [if_pos h1] at h; exact absurd h h1
theorem zmC {f : Fl} {pub rs rs' : List Int} (h : ∀ s ∈ rs, s ∈ rs') : (zg0 f pub rs).length <= (zg0 f pub rs').length :=
 zix (zmj (zc2 _)) fun o ho => by
  obtain ⟨s, hs, rfl⟩ := List.mem_map.1 (mem_distO.1 ho)
  exact zg1 (h s hs)
theorem zmJ {ps : List Fl} {a : Ac} {f : Fl} {q : Qu} (hf : zbq ps q.1 = some f) (hi : xU f a.left) (hA : Agree ps a) : ((zg0 f q.2 a.left).length : Int) <= yi a f q := by
 unfold yi
 split
 . exact Int.le_refl _
 ·
  split
  ·
   rename_i h2
   have : (zg0 f q.2 a.left).length <= ([obN f q.2 (a.left.headD 0)]).length := zix (zmj (zc2 _)) fun o ho => by
    obtain ⟨s, hs, rfl⟩ := List.mem_map.1 (mem_distO.1 ho)
    cases hl : a.left with
    | nil => rw [hl] at hs; cases hs
    | cons x r => exact List.mem_singleton.2 (hA q h2 f hf s hs x (by rw [hl]; exact zmc ..))
   simp only [List.length_singleton] at this
   omega
  ·
   have := zmC (f := f) (pub := q.2) (rs := a.left) (rs' := zax f) fun s hs => mem_allR.2 (hi s hs)
   omega
theorem zmk {α β : Type} [DecidableEq β] (P : β -> α -> Bool) (b : Int) (c : Int) (hc : 0 <= c) (hb : 0 <= b) : ∀ (ol : List β) (L : List α), (∀ t ∈ L, ∃ o ∈ ol, P o t = true) -> (∀ o ∈ ol, ((L.filter (P o)).length : Int) * c <= b) -> (L.length : Int) * c <= ol.length * b
 | [], L, h, _ => by
  cases L with
  | nil => simp
  | cons x r => obtain ⟨o, ho, _⟩ := h x (zmc ..); cases ho
 | o :: r, L, h, h2 => by
  have h3 := zmk P b c hc hb r (L.filter fun t => !P o t) (fun t ht => by
   obtain ⟨h4, h5⟩ := List.mem_filter.1 ht
   obtain ⟨o', ho', h6⟩ := h t h4
   rcases List.mem_cons.1 ho' with rfl | ho'
   . rw [h6] at h5; cases h5
   . exact ⟨o', ho', h6⟩) (fun o' ho' => by
   have h7 := h2 o' (zmb _ ho')
   have h8 : ((L.filter fun t => !P o t).filter (P o')).length <= (L.filter (P o')).length := by
    rw [List.filter_filter, show (L.filter fun a => P o' a && !P o a) = (L.filter (P o')).filter (fun a => !P o a) by rw [List.filter_filter]; congr 1; funext a; exact Bool.and_comm _ _]
    exact List.length_filter_le _ _
   have h9 : (((L.filter fun t => !P o t).filter (P o')).length : Int) * c <= ((L.filter (P o')).length : Int) * c := Int.mul_le_mul_of_nonneg_right (by omega) hc
   omega)
  have h10 := h2 o (zmc ..)
  have h11 : (L.filter (P o)).length + (L.filter fun t => !P o t).length = L.length := by
   clear h h2 h3 h10
   induction L with
   | nil => rfl
   | cons x L ih => cases hp : P o x <;> simp [hp] <;> omega
  have h12 : (L.length : Int) * c = ((L.filter (P o)).length : Int) * c + ((L.filter fun t => !P o t).length : Int) * c := by rw [<- Int.add_mul]; congr 1; omega
  rw [h12, List.length_cons]
  have h13 : ((r.length + 1 : Nat) : Int) * b = r.length * b + b := by rw [Int.natCast_add, Int.add_mul]; simp
  omega
def zmn (r : Res) : Int := if r.code = 0 then 100 + r.answer % 65536 else r.code
def goN (t : Nn) (r : Res) : Option Int := t.next[((zmn r % 65536) % t.next.length).toNat]?
def trN (ps : List Fl) (T : List Nn) : Nat -> Ac -> Nat -> Int -> List Int
 | 0, _, _, _ => []
 | n + 1, a, i, s => match T[i]? with
  | none => []
  | some t => let r := zc7 a ps t.q s
   r.code :: r.answer :: r.charge :: (if t.next = [] then [] else match goN t r with
    | none => []
    | some j => if j <= i then [] else trN ps T n (if r.code = 0 then r.ac else a) j.toNat s)
theorem zml {α β : Type} {g : α -> β} {l : List α} (hn : l.Nodup) (hg : ∀ x ∈ l, ∀ y ∈ l, g x = g y -> x = y) : (l.map g).Nodup := by
 induction l with
 | nil => exact List.Pairwise.nil
 | cons x r ih =>
  rw [List.nodup_cons] at hn
  rw [List.map_cons, List.nodup_cons]
  refine ⟨fun h => ?_, ih hn.2 fun a ha b hb => hg a (zmb _ ha) b (zmb _ hb)⟩
  obtain ⟨y, hy, he⟩ := List.mem_map.1 h
  exact hn.1 (hg y (zmb _ hy) x (zmc ..) he ▸ hy)
theorem zmh {α : Type} {L : List α} {x : α} (hn : L.Nodup) (h : ∀ t ∈ L, t = x) : L.length <= 1 := by
 match L, hn, h with
 | [], _, _ => exact Nat.zero_le _
 | [_], _, _ => exact Nat.le_refl _
 | a :: b :: r, hn, h => exact absurd ((h a (by simp)).trans (h b (by simp)).symm) (fun e => (List.nodup_cons.1 hn).1 (by simp [e]))
theorem zmK {a : Ac} {ps : List Fl} {q : Qu} {s t : Int} (hs : s ∈ a.left) (ht : t ∈ a.left) : (zc7 a ps q s).code = (zc7 a ps q t).code /\ (zc7 a ps q s).charge = (zc7 a ps q t).charge /\ ((zc7 a ps q s).code ≠ 0 -> zc7 a ps q s = zc7 a ps q t) := by
 unfold zc7
 by_cases h : yU a ps q = 0
 ·
  simp only [h, hs, ht, ne_eq, not_true_eq_false, if_false]
  cases zbq ps q.1 with
  | none => exact ⟨rfl, rfl, fun _ => rfl⟩
  | some f =>
   simp only
   split
   . exact ⟨rfl, rfl, fun _ => rfl⟩
   . exact ⟨rfl, rfl, fun h => absurd O h⟩
 ·
  rw [if_pos h, if_pos h]
  exact ⟨rfl, rfl, fun _ => rfl⟩
theorem zmD {l : List Ob} {o p : Ob} (ho : o ∈ l) (hp : p ∈ l) (h : zh5 l o = zh5 l p) : o = p := by
 unfold zh5 at h
 rw [if_pos ho, if_pos hp] at h
 have h1 : ∀ o, o ∈ l -> l[l.findIdx (fun x => decide (x = o))]? = some o := fun o ho => by
  have hlt : l.findIdx (fun x => decide (x = o)) < l.length := List.findIdx_lt_length_of_exists ⟨o, ho, by simp⟩
  rw [zm8 hlt]
  have := List.findIdx_getElem (w := hlt)
  simpa using this
 have h2 := h1 o ho
 rw [show l.findIdx (fun x => decide (x = o)) = l.findIdx (fun x => decide (x = p)) by omega, h1 p hp] at h2
 exact (Option.some.inj h2).symm
theorem zmP (ps : List Fl) (T : List Nn) : ∀ (n : Nat) (a : Ac) (i : Nat) (L : List (List Int)), ValidA a -> Agree ps a -> L.Nodup -> (∀ t ∈ L, ∃ s ∈ a.left, t = trN ps T n a i s) -> (L.length : Int) * a.spent <= a.budget
 | 0, a, i, L, hv, _, hn, h => by
  have h1 := zmh (x := []) hn fun t ht => by obtain ⟨s, _, e⟩ := h t ht; exact e
  have h2 : (L.length : Int) * a.spent <= 1 * a.spent := Int.mul_le_mul_of_nonneg_right (by omega) (by have := hv.s1; omega)
  have := hv.s2
  omega
 | n + 1, a, i, L, hv, hA, hn, h => by
  have hs1 := hv.s1
  have hs2 := hv.s2
  have hone : L.length <= 1 -> (L.length : Int) * a.spent <= a.budget := fun h1 => by
   have h2 : (L.length : Int) * a.spent <= 1 * a.spent := Int.mul_le_mul_of_nonneg_right (by omega) (by omega)
   omega
  cases ht : T[i]? with
  | none => exact hone (zmh (x := []) hn fun t ht' => by obtain ⟨s, _, e⟩ := h t ht'; rw [e, trN, ht])
  | some t =>
   have htr : ∀ s, trN ps T (n + 1) a i s = (zc7 a ps t.q s).code :: (zc7 a ps t.q s).answer :: (zc7 a ps t.q s).charge :: (if t.next = [] then [] else match goN t (zc7 a ps t.q s) with
    | none => []
    | some j => if j <= i then [] else trN ps T n (if (zc7 a ps t.q s).code = 0 then (zc7 a ps t.q s).ac else a) j.toNat s) := fun s => by rw [trN, ht]
   obtain ⟨s0, hs0⟩ : ∃ s, s ∈ a.left := ⟨a.left[0]'hv.l1, List.getElem_mem _⟩
   by_cases hc : (zc7 a ps t.q s0).code = 0
   ·
    obtain ⟨f, hf, hq, _, hp, _⟩ := zmB hc (fun i hg => by
     by_cases hi : i = 0
     ·
      left
      intro e
      obtain ⟨_, f, hf, _⟩ := jW (e.trans hi)
      rw [hg] at hf; cases hf
     ·
      exact .inr hi)
    obtain ⟨_, f', hf', _, _, hin⟩ := jW hq
    rw [hf] at hf'
    cases hf'
    have hr : ∀ s ∈ a.left, zc7 a ps t.q s = zhK a f t.q s := fun s hs => by
     unfold zc7
     rw [if_neg (not_not_intro hq), if_neg (not_not_intro hs), hf]
     simp only
     rw [if_neg (by omega)]
    have hpp := zc8 (q := t.q) hv hin
    have hge := zmJ hf hin hA
    have hparts := zmk (fun (o : Ob) (u : List Int) => decide (u[1]? = some (zh5 (zg0 f t.q.2 (zax f)) o))) a.budget (a.spent * yi a f t.q) (Int.mul_nonneg (by omega) (by omega)) (by have := hv.b1; omega) (zg0 f t.q.2 a.left) L (fun u hu => by
     obtain ⟨s, hs, rfl⟩ := h u hu
     refine ⟨obN f t.q.2 s, zg1 hs, ?_⟩
     rw [htr, hr s hs]
     simp [zhK]) (fun o ho => by
     obtain ⟨so, hso, hoe⟩ := List.mem_map.1 (mem_distO.1 ho)
     have hval : ValidA (zeQ a f t.q (yi a f t.q) o) := hoe ▸ hv.ans hso hin hp
     have hL : ∀ u ∈ L.filter (fun u => decide (u[1]? = some (zh5 (zg0 f t.q.2 (zax f)) o))), ∃ s ∈ a.left, obN f t.q.2 s = o /\ u = trN ps T (n + 1) a i s := fun u hu => by
      obtain ⟨h1, h2⟩ := List.mem_filter.1 hu
      obtain ⟨s, hs, rfl⟩ := h u h1
      refine ⟨s, hs, ?_, rfl⟩
      have h2 := of_decide_eq_true h2
      rw [htr, hr s hs] at h2
      have h3 : zh5 (zg0 f t.q.2 (zax f)) (obN f t.q.2 s) = zh5 (zg0 f t.q.2 (zax f)) o := by simpa [zhK] using h2
      exact zmD (zg1 (mem_allR.2 (hin s hs))) (hoe ▸ zg1 (mem_allR.2 (hin so hso))) h3
     have hnL : (L.filter (fun u => decide (u[1]? = some (zh5 (zg0 f t.q.2 (zax f)) o)))).Nodup := hn.filter _
     generalize L.filter (fun u => decide (u[1]? = some (zh5 (zg0 f t.q.2 (zax f)) o))) = M at hL hnL ⊢
     have hdrop : ∀ s ∈ a.left, obN f t.q.2 s = o -> trN ps T (n + 1) a i s = [0, zh5 (zg0 f t.q.2 (zax f)) o, yi a f t.q] ++ (trN ps T (n + 1) a i s).drop 3 := fun s hs he => by
      rw [htr, hr s hs, <- he]
      simp [zhK]
     have hnM : (M.map (List.drop 3)).Nodup := zml hnL fun u hu v hv' e => by
      obtain ⟨s, hs, h1, rfl⟩ := hL u hu
      obtain ⟨s', hs', h1', rfl⟩ := hL v hv'
      rw [hdrop s hs h1, hdrop s' hs' h1', e]
     have hrest : ∀ s ∈ a.left, obN f t.q.2 s = o -> (trN ps T (n + 1) a i s).drop 3 = (if t.next = [] then [] else match t.next[(((100 + zh5 (zg0 f t.q.2 (zax f)) o % 65536) % 65536) % t.next.length).toNat]? with
       | none => []
       | some j => if j <= i then [] else trN ps T n (zeQ a f t.q (yi a f t.q) o) j.toNat s) := fun s hs he => by
      rw [htr, hr s hs]
      simp only [List.drop_succ_cons, List.drop_zero, zhK, if_true, he, goN, zmn]
     have hfin : (((M.map (List.drop 3)).length : Nat) : Int) * (zeQ a f t.q (yi a f t.q) o).spent <= (zeQ a f t.q (yi a f t.q) o).budget := by
      have hd : (∃ x, ∀ s ∈ a.left, obN f t.q.2 s = o -> (trN ps T (n + 1) a i s).drop 3 = x) \/ ∃ j : Nat, ∀ s ∈ a.left, obN f t.q.2 s = o -> (trN ps T (n + 1) a i s).drop 3 = trN ps T n (zeQ a f t.q (yi a f t.q) o) j s := by
       by_cases hx : t.next = []
       . exact .inl ⟨[], fun s hs he => by rw [hrest s hs he, if_pos hx]⟩
       ·
        cases hj : t.next[(((100 + zh5 (zg0 f t.q.2 (zax f)) o % 65536) % 65536) % t.next.length).toNat]? with
        | none => exact .inl ⟨[], fun s hs he => by rw [hrest s hs he, if_neg hx, hj]⟩
        | some j =>
         by_cases hji : j <= i
         . exact .inl ⟨[], fun s hs he => by rw [hrest s hs he, if_neg hx, hj]; simp only; rw [if_pos hji]⟩
         . exact .inr ⟨j.toNat, fun s hs he => by rw [hrest s hs he, if_neg hx, hj]; simp only; rw [if_neg hji]⟩
      rcases hd with ⟨x, hx⟩ | ⟨j, hj⟩
      ·
       have h1 := zmh (x := x) hnM fun u hu => by
        obtain ⟨v, hv', rfl⟩ := List.mem_map.1 hu
        obtain ⟨s, hs, he, rfl⟩ := hL v hv'
        exact hx s hs he
       have h2 : (((M.map (List.drop 3)).length : Nat) : Int) * (zeQ a f t.q (yi a f t.q) o).spent <= 1 * (zeQ a f t.q (yi a f t.q) o).spent := Int.mul_le_mul_of_nonneg_right (by omega) (by have := hval.s1; omega)
       have := hval.s2
       omega
      ·
       refine zmP ps T n _ j _ hval (hA.ans hf) hnM fun u hu => ?_
       obtain ⟨v, hv', rfl⟩ := List.mem_map.1 hu
       obtain ⟨s, hs, he, rfl⟩ := hL v hv'
       exact ⟨s, List.mem_filter.2 ⟨hs, decide_eq_true he⟩, hj s hs he⟩
     rw [List.length_map] at hfin
     exact hfin)
    have h1 : ((zg0 f t.q.2 a.left).length : Int) * a.budget <= yi a f t.q * a.budget := Int.mul_le_mul_of_nonneg_right hge (by have := hv.b1; omega)
    have h2 : (L.length : Int) * (a.spent * yi a f t.q) = yi a f t.q * ((L.length : Int) * a.spent) := by
     rw [<- Int.mul_assoc, Int.mul_comm]
    rw [h2] at hparts
    exact Int.le_of_mul_le_mul_left (Int.le_trans hparts h1) (by omega)
   ·
    have hr : ∀ s ∈ a.left, zc7 a ps t.q s = zc7 a ps t.q s0 := fun s hs => ((zmK hs0 hs).2.2 hc).symm
    have hpre : ∀ s ∈ a.left, trN ps T (n + 1) a i s = [(zc7 a ps t.q s0).code, (zc7 a ps t.q s0).answer, (zc7 a ps t.q s0).charge] ++ (trN ps T (n + 1) a i s).drop 3 := fun s hs => by
     rw [htr, hr s hs]; simp
    have hnM : (L.map (List.drop 3)).Nodup := zml hn fun u hu v hv' e => by
     obtain ⟨s, hs, rfl⟩ := h u hu
     obtain ⟨s', hs', rfl⟩ := h v hv'
     rw [hpre s hs, hpre s' hs', e]
    have hrest : ∀ s ∈ a.left, (trN ps T (n + 1) a i s).drop 3 = (if t.next = [] then [] else match goN t (zc7 a ps t.q s0) with
       | none => []
       | some j => if j <= i then [] else trN ps T n a j.toNat s) := fun s hs => by
     rw [htr, hr s hs]
     simp only [List.drop_succ_cons, List.drop_zero, if_neg hc]
    have hd : (∃ x, ∀ s ∈ a.left, (trN ps T (n + 1) a i s).drop 3 = x) \/ ∃ j : Nat, ∀ s ∈ a.left, (trN ps T (n + 1) a i s).drop 3 = trN ps T n a j s := by
     by_cases hx : t.next = []
     . exact .inl ⟨[], fun s hs => by rw [hrest s hs, if_pos hx]⟩
     ·
      cases hj : goN t (zc7 a ps t.q s0) with
      | none => exact .inl ⟨[], fun s hs => by rw [hrest s hs, if_neg hx, hj]⟩
      | some j =>
       by_cases hji : j <= i
       . exact .inl ⟨[], fun s hs => by rw [hrest s hs, if_neg hx, hj]; simp only; rw [if_pos hji]⟩
       . exact .inr ⟨j.toNat, fun s hs => by rw [hrest s hs, if_neg hx, hj]; simp only; rw [if_neg hji]⟩
    rw [<- List.length_map (List.drop 3)]
    rcases hd with ⟨x, hx⟩ | ⟨j, hj⟩
    ·
     have h1 := zmh (x := x) hnM fun u hu => by
      obtain ⟨v, hv', rfl⟩ := List.mem_map.1 hu
      obtain ⟨s, hs, rfl⟩ := h v hv'
      exact hx s hs
     have h2 : (((L.map (List.drop 3)).length : Nat) : Int) * a.spent <= 1 * a.spent := Int.mul_le_mul_of_nonneg_right (by omega) (by omega)
     omega
    ·
     refine zmP ps T n a j _ hv hA hnM fun u hu => ?_
     obtain ⟨v, hv', rfl⟩ := List.mem_map.1 hu
     obtain ⟨s, hs, rfl⟩ := h v hv'
     exact ⟨s, hs, hj s hs⟩
theorem zmL (p : (List Int) -> Bool) (l : List (List Int)) (v : Value) (D : Nat -> Prop) (g : FuncId) (cp : Value) (W : World) (hf : ∀ args w, (callFunc g args).run Tryz.prog w = .ok (.enter g args) w) (hl : SlR 1 (RSl 1 zF) D W v l)
  (hc : ∀ (x : (List Int)) (u : Value) (w : World), Ext W w -> x ∈ l -> SlR 1 zF D w u x -> Calls Tryz.prog g #[u, cp] w (Ret fun r w' => r = .bool (p x) /\ Ext w w')) :
  Calls Tryz.prog 44 #[v, .func (.func g) #[] #[cp]] W (Ret fun r w' => r = .int .i64 (ze6 p l) /\ Ext W w') := by
 obtain ⟨av, cv, rfl⟩ := hl.form
 have hmx := hl.max
 refine zkH Tryz.func44 O Tryz.ntmps44 O (zkS ?_)
 refine Vs 14 O ?_
 refine zli (σ := Nat) [0, 1, 7] [] [] O (fun e i => (8, .int .i64 i) :: e) (fun e i => e) (fun i => i <= l.length /\ (l.take i).any p = false) (fun i => l.length - i) (0) (zkg O) (zkh O) (fun _ => rfl) (fun _ => rfl) (fun _ => rfl) (⟨Nat.zero_le _, by simp⟩) ?_
 rintro i ⟨hi, hno⟩
 refine Vs 6 O ?_
 refine ziB O (fun hlt => ?_) (fun hlt => ?_)
 ·
  refine Vs 15 O ?_
  obtain ⟨x, he_x, hm_x⟩ := gE_ l (i) (by omega)
  obtain ⟨b_x, o_x, c_x, ha_x, _, hc_x, hR_x⟩ := hl.at he_x
  obtain ⟨v1_x, rfl, hs_x⟩ := hR_x
  obtain ⟨a1_x, n1_x, rfl⟩ := hs_x.form
  refine zlf 1000 0 O O hc_x ?_
  refine zkZ 1000 Tryz.runUnderlying41 ts31 O ha_x (by omega) (_) (rfl) O ?_
  refine Vs 1 O ?_
  refine zlu hf O (fun w hI => hc x _ w hI.k0 hm_x (Tr1 hI.k0 hs_x)) ?_
  refine Vs 2 O ?_
  refine V.bool O (fun hp => ?_) (fun hp => ?_)
  ·
   refine Vs 12 O ?_
   refine ziV Tryz.results44 O (fun w hI => ⟨_, rfl, by rw [zbj hno he_x hp], hI.k0⟩)
  ·
   refine Va 7 O (by omega) ?_
   refine ziM (i + 1) (zkg O) (zkh O) (⟨by omega, ky he_x hno hp⟩) (by first | omega | (dsimp only; omega)) 0 O O
 ·
  obtain rfl : i = l.length := by omega
  rw [zmd] at hno
  refine Vs 11 O ?_
  refine ziV Tryz.results44 O (fun w hI => ⟨_, rfl, by rw [ju hno], hI.k0⟩)
theorem zmM (p : (List Int) -> Bool) (l : List (List Int)) (v : Value) (D : Nat -> Prop) (g : FuncId) (cp : Value) (W : World) (hf : ∀ args w, (callFunc g args).run Tryz.prog w = .ok (.enter g args) w) (hl : SlR 1 (RSl 1 zF) D W v l)
  (hc : ∀ (x : (List Int)) (u : Value) (w : World), Ext W w -> x ∈ l -> SlR 1 zF D w u x -> Calls Tryz.prog g #[u, cp] w (Ret fun r w' => r = .bool (p x) /\ Ext w w')) :
  Calls Tryz.prog 16 #[v, .func (.func g) #[] #[cp]] W (Ret fun r w' => r = .bool (l.any p) /\ Ext W w') := by
 refine zkH Tryz.func16 O Tryz.ntmps16 O (zkS ?_)
 refine Vs 9 O ?_
 refine zl7 Tryz.call44 O (fun w hI => zmL p l v D g cp w hf (Tr1 hI.k0 hl) (fun x u w' hE hx hd => hc x u w' ((hI.k0).trans hE (fun _ _ h => h)) hx hd)) ?_
 refine Vs 5 O ?_
 refine ziV Tryz.results16 O (fun w hI => ⟨_, rfl, by congr 1; rw [Bool.eq_iff_iff, decide_eq_true_iff]; exact zbk, hI.k0⟩)
theorem zmE (f : Fl) (hlen : f.vars.length <= 1000000) (v1 v2 v3 : Value) (D : Nat -> Prop) (W : World) (hf : RFl D W f v1 v2 v3) : Calls Tryz.prog 43 #[.agg #[v1, v2, v3]] W (Ret fun r w' => r = .bool (decide (ze 3 f.vars ≠ [])) /\ Ext W w') := by
 refine zkG Tryz.func43 O Tryz.ntmps43 O (zkS ?_)
 refine Vs 2 O ?_
 refine V.box 1 O O (fun b1 => ?_)
 refine Vs 7 O ?_
 refine zl9 Tryz.call72 O (fun w hI => zfZ f.vars 3 v1 D w (Tr1 hI.k0 hf.vars) hlen) ?_
 rintro l w1 w2 hI1 hk12 hos hlow
 obtain ⟨al, cl, rfl⟩ := hos.form
 refine Vs 6 O ?_
 refine ziV Tryz.results43 O (fun w hI => ⟨_, rfl, by rw [decide_eq_decide.2 (show (0 : Int) < ((ze 3 f.vars).length : Int) ↔ ze 3 f.vars ≠ [] by rw [<- List.length_pos_iff]; omega)], hI.k1⟩)
theorem zit (f : Fl) (vd : Valid f) (v1 v2 v3 : Value) (D : Nat -> Prop) (W : World) (hf : RFl D W f v1 v2 v3) : Calls Tryz.prog 33 #[.agg #[v1, v2, v3]] W (Ret fun r w' => r = .int .i64 (spN f) /\ Ext W w') := by
 have hl := vd.lens
 have hsp : (zp 1 f.vars).getD 0 = (spN f : Int) := by
  unfold spN
  cases h : zp 1 f.vars with
  | none => rfl
  | some m =>
   have := yq 1 f.vars 1 m vd.good (by omega) (by omega) h
   simp only [Option.getD_some]
   omega
 refine zkG Tryz.func33 O Tryz.ntmps33 O (zkS ?_)
 refine Vs 2 O ?_
 refine V.box 1 O O (fun b1 => ?_)
 refine Vs 7 O ?_
 refine zl7 Tryz.call66 O (fun w hI => zmp f.vars 1 v1 D w (by decide) vd.good (by omega) (Tr1 hI.k0 hf.vars)) ?_
 refine Vs 14 O ?_
 refine ziV Tryz.results33 O (fun w hI => ⟨_, rfl, by rw [hsp], hI.k0⟩)
end Go.Proofs.YtbkhagigkglgoaaGreatDoor
namespace Go.GL
section
variable {P : Program} {n : Nat} {Q : Exit -> Act -> World -> Prop} {ks : List Fr} {pos : Pos} {env : Env} {A : Tgs} {H : Hp} {Bs : ya}
theorem zmY (k j : Nat) {w0 : World} {S F : Nat -> Prop} {p : World -> Prop} (hn : (zm H k).isNone = true) (hp : Bs[j]? = some (w0, S)) (hl : (HE.dat F p).loc) (h0 : p w0) (hF : ∀ q, F q -> q < w0.heap.size /\ ¬ S q) (h : V P n Q ks pos env A ((k, .dat F p) :: H) Bs) : V P n Q ks pos env A H Bs := by
 refine fun hA w hI => h (hA.new (by simpa using hn)) w ?_
 have hb := hI.base _ (zm9 hp)
 have hk : (HE.dat F p).holds w := HE.keep (e := .dat F p) ⟨h0, fun q hq => (hF q hq).1⟩ hl hb.1 (fun q hq => hq.elim) fun b hb' => (hF b hb').2
 have hfz : ∀ x ∈ H, ∀ b, F b -> ¬ x.2.S b := fun x hx b hb' hs => by
  rcases hb.2 x hx b hs with h1 | h1
  . exact (hF b hb').2 h1
  ·
   have h1 : w0.heap.size <= b := h1
   have := (hF b hb').1
   omega
 refine ⟨?_, ?_, ?_, ?_, ?_, ?_⟩
 ·
  intro x hx
  rcases List.mem_cons.1 hx with rfl | hx
  . exact hk
  . exact hI.holds x hx
 ·
  intro x hx
  rcases List.mem_cons.1 hx with rfl | hx
  . exact hl
  . exact hI.loc x hx
 . exact List.pairwise_cons.2 ⟨fun x _ q hq => hq.elim, hI.apart⟩
 ·
  intro x hx y hy b hb' hs
  rcases List.mem_cons.1 hy with rfl | hy
  . exact hs
  ·
   rcases List.mem_cons.1 hx with rfl | hx
   . exact hfz y hy b hb' hs
   . exact hI.froz x hx y hy b hb' hs
 ·
  intro x hx q hq
  rcases List.mem_cons.1 hx with rfl | hx
  . exact hq.elim
  . exact hI.low x hx q hq
 ·
  intro q hq
  refine ⟨(hI.base q hq).1, fun x hx b hb' => ?_⟩
  rcases List.mem_cons.1 hx with rfl | hx
  . exact hb'.elim
  . exact (hI.base q hq).2 x hx b hb'
end
end Go.GL
namespace Go.Proofs.YtbkhagigkglgoaaGreatDoor
open Go.GL
structure CaseOk (ps : List Fl) (qs_q : List Qu) (n : Int) : Prop where
 ps1 : 1 <= ps.length
 ps4 : ps.length <= 4
 qs8 : qs_q.length <= 8
 q20 : ∀ q ∈ qs_q, q.2.length <= 20
 sz : ∀ f ∈ ps, SzOk f
 an : ∀ f ∈ ps, zcq f = 0
 sp : ∀ f ∈ ps, (spN f : Int) = n
theorem zmw (ps : List Fl) (qs_q : List Qu) (m b : Int) (pv qv : Value) (D1 D2 : Nat -> Prop) (W : World) (hps : SlR 3 RPg D1 W pv ps) (hqs : SlR 2 RQu D2 W qv qs_q) :
  Calls Tryz.prog 13 #[.agg #[.int .i64 m, .int .i64 b, pv, qv]] W (Ret fun r w' => (∃ (n : Int) (ok : Bool), r = .tuple #[.int .i64 n, .bool ok] /\ (ok = true -> CaseOk ps qs_q n)) /\ Ext W w') := by
 obtain ⟨ap, cp, rfl⟩ := hps.form
 obtain ⟨aq, cq, rfl⟩ := hqs.form
 have hmp := hps.max
 have hmq := hqs.max
 refine zkG Tryz.func13 O Tryz.ntmps13 O (zkS ?_)
 refine Vs 2 O ?_
 refine V.box 1 O O (fun b1 => ?_)
 refine Vs 5 O ?_
 refine zlj (σ := Unit) [1] [1] [1] O (fun e u => e) (fun e u => e) (fun u => (1 <= ps.length /\ qs_q.length <= 8) /\ ps.length <= 4 /\ ∀ f ∈ ps, SzOk f) (fun _ => rfl) (fun _ => rfl) ?_ ?_
 ·
  refine Vs 7 O ?_
  refine zkt 13 O (fun p0 => ?_) (fun p0 => ?_)
  ·
   refine Vs 24 O ?_
   refine ziY Tryz.results13 O O (fun w hI => ⟨_, rfl, ⟨_, _, rfl, fun h => by cases h⟩, hI.k0⟩)
  ·
   refine Vs 6 O ?_
   refine zkt 19 O (fun p1 => ?_) (fun p1 => ?_)
   ·
    refine Vs 18 O ?_
    refine ziY Tryz.results13 O O (fun w hI => ⟨_, rfl, ⟨_, _, rfl, fun h => by cases h⟩, hI.k0⟩)
   ·
    refine zln [Value.int IntKind.i64 0, Value.int IntKind.i64 0, Value.int IntKind.i64 0, Value.slice none 0 0, Value.slice none 0 0] [(0, 1), (1, 1), (2, 1), (3, 1), (4, 1)] [] O O (fun _ => by kernel_rfl) ?_
    refine Vs 2 O ?_
    refine zl9 Tryz.call19 O (fun w hI => zge ac0 ps 0 0 0 _ _ _ (fun _ => True) D1 w ⟨SlR.nil, SlR.nil⟩ (Tr1 hI.k0 hps)) ?_
    rintro rr w1 w2 hI1 hk12 ⟨b0, rfl, hb0⟩ hlow
    refine zkx O (fun w hI => zk0 O (by first | exact za | rfl)) ?_
    refine Vs 3 O ?_
    refine V.bool O (fun q1 => ?_) (fun q1 => ?_)
    ·
     refine Vs 9 O ?_
     refine ziY Tryz.results13 O O (fun w hI => ⟨_, rfl, ⟨_, _, rfl, fun h => by cases h⟩, hI.k1⟩)
    ·
     have hb := hb0 (by simpa using q1)
     refine Vs 1 O ?_
     refine ziR (()) (zkg O) (zkh O) (⟨⟨by omega, by omega⟩, hb.1, hb.2.2.2⟩) 1 O O
 rintro u ⟨⟨hp1, hq8⟩, hp4, hz⟩
 refine Vs 16 O ?_
 refine zli (σ := Nat × Int) [1, 27, 28] [1] [1] O (fun e ⟨i, n⟩ => (29, .int .i64 i) :: (4, .int .i64 n) :: e) (fun e ⟨i, n⟩ => e) (fun ⟨i, n⟩ => StIn ps i n) (fun ⟨i, n⟩ => ps.length - i) ((0, 0)) (zkg O) (zkh O) (fun _ => rfl) (fun _ => rfl) (fun _ => rfl) (⟨Nat.zero_le _, fun j f h => absurd h (Nat.not_lt_zero _)⟩) ?_
 rintro ⟨i, n⟩ hin
 show V _ _ _ _ _ ((29, .int .i64 i) :: (4, .int .i64 n) :: _) _ (_) _
 have hile := hin.le
 refine Vs 6 O ?_
 refine ziB O (fun hlt => ?_) (fun hlt => ?_)
 ·
  refine Vs 7 O ?_
  obtain ⟨f, he_f, hm_f⟩ := gE_ ps (i) (by omega)
  obtain ⟨b_f, o_f, c_f, ha_f, _, hc_f, hR_f⟩ := hps.at he_f
  obtain ⟨v1_f, v2_f, v3_f, rfl, hf_f⟩ := hR_f
  obtain ⟨a1_f, n1_f, rfl⟩ := hf_f.vars.form
  obtain ⟨a2_f, n2_f, rfl⟩ := hf_f.hatches.form
  obtain ⟨a3_f, n3_f, rfl⟩ := hf_f.body.form
  refine zlf 1000 0 O O hc_f ?_
  refine zkZ 1000 tR23 ts56 O ha_f (by omega) (_) (rfl) O ?_
  have hzf := hz f hm_f
  refine Vs 1 O ?_
  refine V.alloc 6 tz56 O O (fun b6 => ?_)
  refine Vs 8 O ?_
  refine zl7 Tryz.call42 O (fun w hI => zab f _ _ _ D1 w (Tr1 hI.k0 hf_f) hzf.size hzf.bulk) ?_
  refine Vs 2 O ?_
  refine zkt 37 O (fun c0 => ?_) (fun c0 => ?_)
  ·
   refine Vs 29 O ?_
   refine ziY Tryz.results13 O O (fun w hI => ⟨_, rfl, ⟨_, _, rfl, fun h => by cases h⟩, hI.k0⟩)
  ·
   have c0 := Decidable.not_not.1 c0
   have vd := zic hzf c0
   have hvl := vd.lens
   refine Vs 1 O ?_
   refine zl7 Tryz.call43 O (fun w hI => zmE f (by omega) _ _ _ D1 w (Tr1 hI.k0 hf_f)) ?_
   refine Vs 2 O ?_
   refine zkt 41 O (fun c1 => ?_) (fun c1 => ?_)
   ·
    refine Vs 25 O ?_
    refine ziY Tryz.results13 O O (fun w hI => ⟨_, rfl, ⟨_, _, rfl, fun h => by cases h⟩, hI.k0⟩)
   ·
    have ha : zcq f = 0 := by unfold zcq; rw [if_neg (not_not_intro c0), if_neg c1]
    refine Vs 3 O ?_
    refine zkt 44 O (fun c2 => ?_) (fun c2 => ?_)
    ·
     refine Vs 1 O ?_
     refine zl7 Tryz.call33 O (fun w hI => zit f vd _ _ _ D1 w (Tr1 hI.k0 hf_f)) ?_
     refine Vs 6 O ?_
     refine ziB O (fun c3 => ?_) (fun c3 => ?_)
     ·
      refine Vs 13 O ?_
      refine ziY Tryz.results13 O O (fun w hI => ⟨_, rfl, ⟨_, _, rfl, fun h => by cases h⟩, hI.k0⟩)
     ·
      refine Vs 4 O ?_
      refine zl7 Tryz.call33 O (fun w hI => zit f vd _ _ _ D1 w (Tr1 hI.k0 hf_f)) ?_
      have hnx := hin.next he_f ha (fun _ => by omega)
      refine Va 8 O (by omega) ?_
      refine ziM (⟨i + 1, (spN f : Int)⟩) (zkg O) (zkh O) (hnx) (by first | omega | (dsimp only; omega)) 0 O O
    ·
     refine Vs 13 O ?_
     refine zl7 Tryz.call33 O (fun w hI => zit f vd _ _ _ D1 w (Tr1 hI.k0 hf_f)) ?_
     have hnx := hin.next he_f ha (fun h => by omega)
     refine Va 8 O (by omega) ?_
     refine ziM (⟨i + 1, (spN f : Int)⟩) (zkg O) (zkh O) (hnx) (by first | omega | (dsimp only; omega)) 0 O O
 ·
  obtain rfl : i = ps.length := by omega
  refine Vs 15 O ?_
  refine zli (σ := Nat) [4, 55, 56] [] [] O (fun e j => (57, .int .i64 j) :: e) (fun e j => e) (fun j => j <= qs_q.length /\ ∀ k q, k < j -> qs_q[k]? = some q -> q.2.length <= 20) (fun j => qs_q.length - j) (0) (zkg O) (zkh O) (fun _ => rfl) (fun _ => rfl) (fun _ => rfl) (⟨Nat.zero_le _, fun k q h => absurd h (Nat.not_lt_zero _)⟩) ?_
  rintro j ⟨hj, hall⟩
  refine Vs 6 O ?_
  refine ziB O (fun hlt2 => ?_) (fun hlt2 => ?_)
  ·
   refine Vs 6 O ?_
   obtain ⟨q, he_q, hm_q⟩ := gE_ qs_q (j) (by omega)
   obtain ⟨b_q, o_q, c_q, ha_q, _, hc_q, hR_q⟩ := hqs.at he_q
   obtain ⟨v1_q, rfl, hs_q⟩ := hR_q
   obtain ⟨a1_q, n1_q, rfl⟩ := hs_q.form
   refine zlf 2000 0 O O hc_q ?_
   refine zkZ 2000 tR24 ts33 O ha_q (by omega) (_) (rfl) O ?_
   refine Vs 1 O ?_
   refine V.alloc 8 tz33 O O (fun b8 => ?_)
   refine Vs 11 O ?_
   refine ziB O (fun c0 => ?_) (fun c0 => ?_)
   ·
    refine Vs 12 O ?_
    refine ziY Tryz.results13 O O (fun w hI => ⟨_, rfl, ⟨_, _, rfl, fun h => by cases h⟩, hI.k0⟩)
   ·
    have hnx : j + 1 <= qs_q.length /\ ∀ k q, k < j + 1 -> qs_q[k]? = some q -> q.2.length <= 20 := ⟨by omega, fun k q' hk hq' => by
     by_cases e : k = j
     ·
      subst e
      rw [he_q] at hq'
      cases hq'
      omega
     ·
      exact hall k q' (by omega) hq'⟩
    refine Va 7 O (by omega) ?_
    refine ziM (j + 1) (zkg O) (zkh O) (hnx) (by first | omega | (dsimp only; omega)) 0 O O
  ·
   obtain rfl : j = qs_q.length := by omega
   have hres : CaseOk ps qs_q n := ⟨hp1, hp4, hq8, fun q hq => by
    obtain ⟨k, hk⟩ := List.mem_iff_getElem?.1 hq
    exact hall k q (List.getElem?_eq_some_iff.1 hk).1 hk, hz, fun f hf => by
    obtain ⟨k, hk⟩ := List.mem_iff_getElem?.1 hf
    exact (hin.ok k f (List.getElem?_eq_some_iff.1 hk).1 hk).1, fun f hf => by
    obtain ⟨k, hk⟩ := List.mem_iff_getElem?.1 hf
    exact (hin.ok k f (List.getElem?_eq_some_iff.1 hk).1 hk).2⟩
   refine Vs 13 O ?_
   refine ziY Tryz.results13 O O (fun w hI => ⟨_, rfl, ⟨_, _, rfl, fun _ => hres⟩, hI.k0⟩)
end Go.Proofs.YtbkhagigkglgoaaGreatDoor
namespace Go.GL
theorem zmx (x : Int) : bits .and .i64 x 65535 = x % 65536 := by
 show IntKind.i64.wrap ((BitVec.ofInt 64 x &&& BitVec.ofInt 64 65535).toNat : Int) = _
 have h2 : (BitVec.ofInt 64 (65535 : Int)).toNat = 2 ^ 16 - 1 := by decide
 rw [BitVec.toNat_and, h2, Nat.and_two_pow_sub_one_eq_mod, BitVec.toNat_ofInt]
 have h3 : ((2 ^ 64 : Nat) : Int) = 18446744073709551616 := by decide
 rw [h3, xh (by omega)]
 omega
section
variable {P : Program} {env : Env} {w : World} {dst : Option Tmp} {ty : TypeId} {pos : String} {aft : Array Edge} {g : Option (Nat × Bool)} {t t' : TypeId} {x y : Operand} {m : Int}
theorem zmZ (hx : ev env x = some (.int .i64 m)) (hy : ev env y = some (.int .i64 65535)) : ye P ⟨dst, .binOp .and t x y t', ty, pos, aft, g⟩ env w (.int .i64 (m % 65536)) w := by
 intro n a ha
 simp [execOp, ha.eval hx, ha.eval hy, eqGuard_and, binOp_and, intBits_and, zmx]
end
end Go.GL
namespace Go.Proofs.YtbkhagigkglgoaaGreatDoor
open Go.GL
theorem ziu {ps : List Fl} {T : List Nn} {n i : Nat} {a : Ac} {s : Int} (h : T.length <= i) : trN ps T n a i s = [] := by
 cases n with
 | zero => rfl
 | succ n => rw [trN, List.getElem?_eq_none h]
theorem zmu {ps : List Fl} {T : List Nn} {s : Int} : ∀ (n m i : Nat) (a : Ac), T.length <= n + i -> T.length <= m + i -> trN ps T n a i s = trN ps T m a i s
 | 0, m, i, a, h1, _ => by rw [ziu (by omega), ziu (by omega)]
 | n + 1, 0, i, a, _, h2 => by rw [ziu (by omega), ziu (by omega)]
 | n + 1, m + 1, i, a, h1, h2 => by
  rw [trN, trN]
  cases T[i]? with
  | none => rfl
  | some t =>
   simp only
   cases goN t (zc7 a ps t.q s) with
   | none => rfl
   | some j =>
    simp only
    by_cases hj : j <= i
    . rw [if_pos hj, if_pos hj]
    . rw [if_neg hj, if_neg hj, zmu n m j.toNat _ (by omega) (by omega)]
def zmq (ps : List Fl) (T : List Nn) (a : Ac) (i : Nat) (s : Int) (t : Nn) : List Int :=
 if t.next = [] then [] else match goN t (zc7 a ps t.q s) with
  | none => []
  | some j => if j <= i then [] else trN ps T T.length (if (zc7 a ps t.q s).code = 0 then (zc7 a ps t.q s).ac else a) j.toNat s
theorem zmR {ps : List Fl} {T : List Nn} {i : Nat} {a : Ac} {s : Int} {t : Nn} (h : T[i]? = some t) : trN ps T T.length a i s = [(zc7 a ps t.q s).code, (zc7 a ps t.q s).answer, (zc7 a ps t.q s).charge] ++ zmq ps T a i s t := by
 have hl := (List.getElem?_eq_some_iff.1 h).1
 obtain ⟨k, hk⟩ : ∃ k, T.length = k + 1 := ⟨T.length - 1, by omega⟩
 rw [hk, trN, h]
 unfold zmq
 simp only [List.cons_append, List.nil_append]
 cases goN t (zc7 a ps t.q s) with
 | none => rfl
 | some j =>
  simp only
  by_cases hj : j <= i
  . rw [if_pos hj, if_pos hj]
  . rw [if_neg hj, if_neg hj, zmu k T.length j.toNat _ (by omega) (by omega)]
open Go.GL Go.ChangeShapes Go.WideShapes Go.ChangeAt Go.RowKit
section
variable {H : Type} {enc : TypeId × Value -> H} {w : World} {base : Nat} {sp : Nat -> Bool} {held : Bool}
set_option maxRecDepth 100000 in
theorem zmF {r : Reach} {b0 : Nat} {v : Value} {d : DataW H} {ps : List MemPlace} (hval : Value.okWide Tryz.prog w r b0 26 v) (hd : DataW.Trod enc Tryz.prog w base sp held 26 v d ps) :
  ∃ (m b : Int) (fs : List Fl) (qs_q : List Qu) (u1 u2 : Value), v = .agg #[.int .i64 m, .int .i64 b, u1, u2] /\ SlR 3 RPg (fun _ => True) w u1 fs /\ SlR 2 RQu (fun _ => True) w u2 qs_q := by
 unfold Value.okWide at hval
 rw [Tryz.underlying26] at hval
 obtain ⟨cs, rfl, hsz, _⟩ := hval
 obtain ⟨k, hn⟩ := hd
 obtain ⟨xs, m, hk, _, hl, hx, hat⟩ := DataW.trod_struct Tryz.underlying26 hn
 rw [show Tryz.prog.cellsOf 26 = 4 by kernel_rfl] at hl
 obtain ⟨l⟩ := cs
 match l, hl with
 | [c0, c1, c2, c3], _ =>
  obtain ⟨y0, h0⟩ := zq hx hat 0 rfl (c := 1) (by kernel_rfl)
  obtain ⟨y1, h1⟩ := zq hx hat 1 rfl (c := 1) (by kernel_rfl)
  obtain ⟨y2, h2⟩ := zq hx hat 2 rfl (c := 1) (by kernel_rfl)
  obtain ⟨y3, h3⟩ := zq hx hat 3 rfl (c := 1) (by kernel_rfl)
  obtain ⟨n0, e0, _⟩ := DataW.trod_int Tryz.underlying22 h0
  obtain ⟨n1, e1, _⟩ := DataW.trod_int tu3 h1
  obtain ⟨v2, l2, e2, hs2⟩ := zbt Tryz.underlying23 (show Tryz.prog.cellsOf 56 = 3 by kernel_rfl) (by decide) (fun n cs y h => zhp n cs y h) h2
  obtain ⟨v3, l3, e3, hs3⟩ := zbt tu24 (show Tryz.prog.cellsOf 33 = 2 by kernel_rfl) (by decide) (fun n cs y h => (zfm n cs y h).imp fun _ h => h.1) h3
  simp [Value.cells] at e0 e1 e2 e3
  subst e0; subst e1; subst e2; subst e3
  exact ⟨_, _, l2, l3, _, _, rfl, hs2, hs3⟩
set_option maxRecDepth 100000 in
theorem zmQ (k : Nat) (cs : List Value) (x : DataW H × List MemPlace) (h : DataW.trod enc Tryz.prog w base sp held k 35 cs = some x) : ∃ t, RNn (fun _ => True) w t cs := by
 obtain ⟨xs, m, hk, _, hl, hx, hat⟩ := DataW.trod_struct Tryz.underlying35 h
 rw [show Tryz.prog.cellsOf 35 = 3 by kernel_rfl] at hl
 match cs, hl with
 | [c0, c1, c2], _ =>
  obtain ⟨y0, h0⟩ := zq hx hat 0 rfl (c := 2) (by kernel_rfl)
  obtain ⟨y1, h1⟩ := zq hx hat 1 rfl (c := 1) (by kernel_rfl)
  obtain ⟨q, ⟨u, e0, ha⟩, _⟩ := zfm _ _ _ h0
  obtain ⟨v1, l1, e1, hs1⟩ := zbt tu31 zaP (by decide) (fun n cs y hy => zcv tu3 hy) h1
  simp at e0 e1
  obtain ⟨rfl, rfl⟩ := e0
  subst e1
  exact ⟨⟨q, l1⟩, _, _, rfl, ha, hs1⟩
set_option maxRecDepth 100000 in
theorem zmy {r : Reach} {b0 : Nat} {v : Value} {d : DataW H} {ps : List MemPlace} (hval : Value.okWide Tryz.prog w r b0 27 v) (hd : DataW.Trod enc Tryz.prog w base sp held 27 v d ps) :
  ∃ l, SlR 3 RNn (fun _ => True) w v l := by
 obtain ⟨a, len, cap, rfl⟩ := okWide_slice Tryz.underlying27 hval
 obtain ⟨k, hn⟩ := hd
 obtain ⟨ev, es, hev, hsl⟩ := zbt Tryz.underlying27 (show Tryz.prog.cellsOf 35 = 3 by kernel_rfl) (by decide) (fun n cs y h => zmQ n cs y h) hn
 simp [Value.cells] at hev
 subst hev
 exact ⟨es, hsl⟩
end
open Go.GL
structure TrB (b : Ac) (m : Nat) : Prop where
 ll : b.left.length <= 5000
 al : b.asked.length <= m
 ql : ∀ p ∈ b.asked, p.2.length <= 17592186044416
theorem TrB.ask {b : Ac} {m : Nat} (h : TrB b m) (ps : List Fl) (q : Qu) (s : Int) (hq : q.2.length <= 20) (hc : (zc7 b ps q s).code = 0) : TrB (zc7 b ps q s).ac (m + 1) := by
 have h0 : TrB ac0 (m + 1) := ⟨by decide, Nat.zero_le _, fun p hp => by cases hp⟩
 unfold zc7 at hc ⊢
 split at hc
 ·
  rename_i h1
  exact absurd hc h1
 ·
  rename_i h1
  rw [if_neg h1]
  split at hc
  . cases hc
  ·
   rename_i h2
   rw [if_neg h2]
   cases hg : zbq ps q.1 with
   | none => exact h0
   | some f =>
    rw [hg] at hc
    simp only at hc ⊢
    split at hc
    . cases hc
    ·
     rename_i h3
     rw [if_neg h3]
     refine ⟨zme (List.length_filter_le _ _) h.ll, ?_, fun p hp => ?_⟩
     ·
      show (if q ∈ b.asked then b.asked else b.asked ++ [q]).length <= _
      have := h.al
      split
      . omega
      . simp; omega
     ·
      have hp : p ∈ (if q ∈ b.asked then b.asked else b.asked ++ [q]) := hp
      split at hp
      . exact h.ql p hp
      ·
       rcases List.mem_append.1 hp with hp | hp
       . exact h.ql p hp
       . rw [List.mem_singleton.1 hp]; omega
theorem TrB.up {b : Ac} {m k : Nat} (h : TrB b m) (hk : m <= k) : TrB b k := ⟨h.ll, zme h.al hk, h.ql⟩
theorem zmN (r : Res) : 0 <= zmn r % 65536 /\ zmn r % 65536 < 65536 := by omega
theorem zmm {ps : List Fl} {T : List Nn} {a : Ac} {i : Nat} {s : Int} {t : Nn} (h : t.next.length = 0) : zmq ps T a i s t = [] := if_pos (List.length_eq_zero_iff.1 h)
theorem zmv {ps : List Fl} {T : List Nn} {a : Ac} {i : Nat} {s : Int} {t : Nn} {y : Int} (h : t.next.length ≠ 0) (hy : goN t (zc7 a ps t.q s) = some y) (hl : y <= i) : zmq ps T a i s t = [] := by
 unfold zmq
 rw [if_neg (fun e => h (by rw [e]; rfl)), hy]
 exact if_pos hl
theorem zmG {ps : List Fl} {T : List Nn} {a : Ac} {i : Nat} {s : Int} {t : Nn} {y : Int} (h : t.next.length ≠ 0) (hy : goN t (zc7 a ps t.q s) = some y) (hl : ¬ y <= i) : zmq ps T a i s t = trN ps T T.length (if (zc7 a ps t.q s).code = 0 then (zc7 a ps t.q s).ac else a) y.toNat s := by
 unfold zmq
 rw [if_neg (fun e => h (by rw [e]; rfl)), hy]
 exact if_neg hl
theorem zmi (a : Ac) (ps : List Fl) (hz : ∀ f ∈ ps, SzOk f) (T : List Nn) (hT8 : T.length <= 8) (hT : ∀ t ∈ T, t.q.2.length <= 20) (s : Int) (hA : TrB a 50000) (u1 u2 pv tv : Value) (D D1 D2 : Nat -> Prop) (W : World) (ha : RAc D W a u1 u2) (hps : SlR 3 RPg D1 W pv ps) (hts : SlR 3 RNn D2 W tv T) (ht : Tab W) :
  Calls Tryz.prog 15 #[.agg #[.int .i64 a.mode, .int .i64 a.budget, .int .i64 a.spent, u1, u2], pv, tv, .int .i64 s] W (Ret fun r w' => SlR 1 zF (fun b => W.heap.size <= b) w' r (trN ps T T.length a 0 s) /\ Ext W w') := by
 obtain ⟨a1, c1, h1⟩ := ha.left.form
 obtain ⟨a2, c2, h2⟩ := ha.asked.form
 subst h1 h2
 obtain ⟨ap, cp, rfl⟩ := hps.form
 obtain ⟨at_, ct, rfl⟩ := hts.form
 have hmp := hps.max
 have hmt := hts.max
 refine zkJ Tryz.func15 O Tryz.ntmps15 O (zkS ?_)
 refine Vs 2 O ?_
 refine V.box 4 O O (fun b4 => ?_)
 refine Vs 5 O ?_
 refine V.bs0 19 tR31 ts3 O (fun b19 => ?_)
 refine Vs 9 O ?_
 refine zmY 910 0 (F := fun q => D q /\ q < W.heap.size) (p := fun w => RAc (fun q => D q /\ q < W.heap.size) w a (.slice a1 a.left.length c1) (.slice a2 a.asked.length c2)) O O (AcD.loc) (ha.narrow) (fun q hq => ⟨hq.2, fun h => h⟩) ?_
 generalize hF0e : (fun q => D q /\ q < W.heap.size) = F0
 refine Vs 1 O ?_
 refine zli (σ := Nat × Value × List Int × Ac × Y5) [1, 2, 3, 4] [] [4] O (fun e ⟨i, v, xs, b, ax, cx, az, cz, F⟩ => (10, .int .i64 i) :: (9, v) :: e) (fun e ⟨i, v, xs, b, ax, cx, az, cz, F⟩ => (4, .own b4 [.int .i64 b.mode, .int .i64 b.budget, .int .i64 b.spent, .slice ax b.left.length cx, .slice az b.asked.length cz] 37) :: (910, AcD F b (.slice ax b.left.length cx) (.slice az b.asked.length cz)) :: (19, .row 3 1 v xs.length (xs.map zi)) :: e) (fun ⟨i, v, xs, b, ax, cx, az, cz, F⟩ => TrB b (50000 + i) /\ xs.length <= 3 * i /\ xs ++ trN ps T T.length b i s = trN ps T T.length a 0 s) (fun ⟨i, v, xs, b, ax, cx, az, cz, F⟩ => T.length - i) ((0, _, [], a, a1, c1, a2, c2, F0)) (zkg O) (zkh O) (fun _ => rfl) (fun _ => rfl) (fun _ => rfl) (⟨hA, Nat.zero_le _, rfl⟩) ?_
 rintro ⟨i, v, xs, b, ax, cx, az, cz, F⟩ ⟨hb, hxl, heq⟩
 show V _ _ _ _ _ ((10, .int .i64 i) :: (9, v) :: _) _ ((4, .own b4 [.int .i64 b.mode, .int .i64 b.budget, .int .i64 b.spent, .slice ax b.left.length cx, .slice az b.asked.length cz] 37) :: (910, AcD F b (.slice ax b.left.length cx) (.slice az b.asked.length cz)) :: (19, .row 3 1 v xs.length (xs.map zi)) :: _) _
 refine Vs 9 O ?_
 refine ziB O (fun hlt => ?_) (fun hlt => ?_)
 ·
  refine Vs 7 O ?_
  obtain ⟨t, he_t, hm_t⟩ := gE_ T (i) (by omega)
  obtain ⟨b_t, o_t, c_t, ha_t, _, hc_t, hR_t⟩ := hts.at he_t
  obtain ⟨v1_t, v2_t, rfl, hs_t, hn_t⟩ := hR_t
  obtain ⟨a1_t, n1_t, rfl⟩ := hs_t.form
  obtain ⟨a2_t, n2_t, rfl⟩ := hn_t.form
  refine zlf 1000 0 O O hc_t ?_
  refine zkZ 1000 Tryz.runUnderlying27 Tryz.sizeOf35 O ha_t (by omega) (_) (rfl) O ?_
  have hq20 := hT t hm_t
  have hB : AcB b := ⟨hb.ll, by have := hb.al; omega, hb.ql⟩
  rw [zmR he_t] at heq
  refine Vs 1 O ?_
  refine V.alloc 11 Tryz.zeroValue35 O O (fun b11 => ?_)
  refine Vs 10 O ?_
  refine zl9 Tryz.call24 O (fun w hI => zcl b hB ps hz t.q (by omega) s _ _ _ _ F D1 D2 w (hI.at 910 O).1 (Tr1 hI.k0 hps) (Tr1 hI.k0 hs_t) (Tr1 hI.k0 ht)) ?_
  rintro rA wA wB hIA hkAB ⟨r1, r2, r3, rfl, hac, hob⟩ hlowA
  have hbn := fun hc => hb.ask ps t.q s hq20 hc
  generalize hR : zc7 b ps t.q s = RR at *
  obtain ⟨aL, cL, hL⟩ := hac.left.form
  obtain ⟨aQ, cQ, hQ⟩ := hac.asked.form
  obtain ⟨aO, cO, hO⟩ := hob.form
  subst hL hQ hO
  refine Vs 6 O ?_
  refine V.alloc 12 tz37 O O (fun b12 => ?_)
  refine V.alloc 15 tz60 O O (fun b15 => ?_)
  refine Vs 8 O ?_
  refine zmY 911 0 (F := fun q => wA.heap.size <= q /\ q < wB.heap.size) (p := fun w => RAc (fun q => wA.heap.size <= q /\ q < wB.heap.size) w RR.ac (.slice aL RR.ac.left.length cL) (.slice aQ RR.ac.asked.length cQ)) O O (AcD.loc) (hac.narrow) (fun q hq => ⟨hq.2, fun hs => by have := hlowA q hs; omega⟩) ?_
  refine Vs 5 O ?_
  refine zll 44 [(0, _), (1, _), (2, _)] tR31 ts3 tz3 (by decide) O O (by kernel_rfl) (fun b44 => ?_)
  refine V.ap 19 44 tu31 Tryz.el3 O (by decide) O O (by omega) (by omega) (fun u19 => ?_)
  refine Vs 10 O ?_
  refine zlh 19 O (e' := .row 3 1 u19 (xs ++ [RR.code, RR.answer, RR.charge]).length ((xs ++ [RR.code, RR.answer, RR.charge]).map zi)) (by rw [zmg, List.map_append]; rfl) ?_
  rw [<- List.append_assoc] at heq
  refine ziB O (fun d0 => ?_) (fun d0 => ?_)
  ·
   refine Vs 14 O ?_
   refine ziB O (fun n0 => ?_) (fun n0 => ?_)
   ·
    rw [zmm (by omega), List.append_nil] at heq
    refine Vs 13 O ?_
    refine ziV Tryz.results15 O (fun w hI => ⟨_, rfl, by rw [<- heq]; exact zjO zi (fun _ _ => rfl) (hI.at 19 O) (fun b hb => hI.own 19 1 O O b hb), hI.k1⟩)
   ·
    have hkey : zmn RR = 100 + RR.answer % 65536 := if_pos d0
    have hkn := zmN RR
    have hmod := Int.emod_lt_of_pos (zmn RR % 65536) (show (0 : Int) < (t.next.length : Int) by omega)
    have hmod0 := Int.emod_nonneg (zmn RR % 65536) (show (t.next.length : Int) ≠ 0 by omega)
    have ht2 : ((100 + RR.answer % 65536) % 65536).tmod (t.next.length : Int) = (zmn RR % 65536) % (t.next.length : Int) := by rw [<- hkey]; exact Int.tmod_eq_emod_of_nonneg hkn.1
    obtain ⟨y, he_y, hm_y⟩ := gE_ t.next (((zmn RR % 65536) % (t.next.length : Int)).toNat) (by omega)
    obtain ⟨b_y, o_y, c_y, ha_y, _, hc_y, hR_y⟩ := hn_t.at he_y
    obtain rfl := hR_y
    refine zlf 2000 1 O O hc_y ?_
    have hgo : goN t RR = some y := he_y
    refine Vs 15 O ?_
    refine ziB O (fun e0 => ?_) (fun e0 => ?_)
    ·
     refine Vs 2 O ?_
     refine zkx O (fun w hI => zmZ O O) ?_
     refine Va 5 O (by omega) ?_
     refine Vq (by kernel_rfl) ?_
     refine Vs 3 O ?_
     refine zmX O (fun w hI => zmZ O O) ?_
     refine Vs 3 O ?_
     refine zmX O (fun w hI => R.rem O O (by omega) (by omega)) ?_
     refine zl1 2000 tR31 ts3 O ha_y (by omega) (((zmn RR % 65536) % (t.next.length : Int)).toNat) (by rw [<- hkey, Int.tmod_eq_emod_of_nonneg (by omega)]; omega) O ?_
     refine Vs 12 O ?_
     refine ziB O (fun g0 => ?_) (fun g0 => ?_)
     ·
      rw [<- hR] at hgo
      rw [zmv (i := i) (by omega) hgo (by omega), List.append_nil] at heq
      refine Vs 13 O ?_
      refine ziV Tryz.results15 O (fun w hI => ⟨_, rfl, by rw [<- heq]; exact zjO zi (fun _ _ => rfl) (hI.at 19 O) (fun b hb => hI.own 19 1 O O b hb), hI.k1⟩)
     ·
      rw [<- hR] at hgo
      rw [zmG (i := i) (by omega) hgo (by omega), hR, if_pos d0] at heq
      obtain ⟨k, rfl⟩ : ∃ k : Nat, y = (k : Int) := ⟨y.toNat, by omega⟩
      rw [Int.toNat_natCast] at heq
      refine V.del 910 O ?_
      refine zmY 910 0 (F := fun q => wA.heap.size <= q /\ q < wB.heap.size) (p := fun w => RAc (fun q => wA.heap.size <= q /\ q < wB.heap.size) w RR.ac (.slice aL RR.ac.left.length cL) (.slice aQ RR.ac.asked.length cQ)) O O (AcD.loc) (hac.narrow) (fun q hq => ⟨hq.2, fun hs => by have := hlowA q hs; omega⟩) ?_
      refine Vs 7 O ?_
      refine ziM (⟨k, _, xs ++ [RR.code, RR.answer, RR.charge], RR.ac, aL, cL, aQ, cQ, fun q => wA.heap.size <= q /\ q < wB.heap.size⟩) (zkg O) (zkh O) (⟨(hbn d0).up (by omega), by rw [zmg]; simp only [List.length_cons, List.length_nil]; omega, heq⟩) (by first | omega | (dsimp only; omega)) 1 O O
    . exact absurd d0 e0
  ·
   refine Vs 11 O ?_
   refine ziB O (fun n0 => ?_) (fun n0 => ?_)
   ·
    rw [zmm (by omega), List.append_nil] at heq
    refine Vs 13 O ?_
    refine ziV Tryz.results15 O (fun w hI => ⟨_, rfl, by rw [<- heq]; exact zjO zi (fun _ _ => rfl) (hI.at 19 O) (fun b hb => hI.own 19 1 O O b hb), hI.k1⟩)
   ·
    have hkey : zmn RR = RR.code := if_neg d0
    have hkn := zmN RR
    have hmod := Int.emod_lt_of_pos (zmn RR % 65536) (show (0 : Int) < (t.next.length : Int) by omega)
    have hmod0 := Int.emod_nonneg (zmn RR % 65536) (show (t.next.length : Int) ≠ 0 by omega)
    have ht2 : ((RR.code) % 65536).tmod (t.next.length : Int) = (zmn RR % 65536) % (t.next.length : Int) := by rw [<- hkey]; exact Int.tmod_eq_emod_of_nonneg hkn.1
    obtain ⟨y, he_y, hm_y⟩ := gE_ t.next (((zmn RR % 65536) % (t.next.length : Int)).toNat) (by omega)
    obtain ⟨b_y, o_y, c_y, ha_y, _, hc_y, hR_y⟩ := hn_t.at he_y
    obtain rfl := hR_y
    refine zlf 3000 1 O O hc_y ?_
    have hgo : goN t RR = some y := he_y
    refine Vs 15 O ?_
    refine ziB O (fun e0 => ?_) (fun e0 => ?_)
    . exact absurd e0 d0
    ·
     refine Vs 3 O ?_
     refine Vq (by kernel_rfl) ?_
     refine Vs 3 O ?_
     refine zmX O (fun w hI => zmZ O O) ?_
     refine Vs 3 O ?_
     refine zmX O (fun w hI => R.rem O O (by omega) (by omega)) ?_
     refine zl1 3000 tR31 ts3 O ha_y (by omega) (((zmn RR % 65536) % (t.next.length : Int)).toNat) (by rw [<- hkey, Int.tmod_eq_emod_of_nonneg (by omega)]; omega) O ?_
     refine Vs 12 O ?_
     refine ziB O (fun g0 => ?_) (fun g0 => ?_)
     ·
      rw [<- hR] at hgo
      rw [zmv (i := i) (by omega) hgo (by omega), List.append_nil] at heq
      refine Vs 13 O ?_
      refine ziV Tryz.results15 O (fun w hI => ⟨_, rfl, by rw [<- heq]; exact zjO zi (fun _ _ => rfl) (hI.at 19 O) (fun b hb => hI.own 19 1 O O b hb), hI.k1⟩)
     ·
      rw [<- hR] at hgo
      rw [zmG (i := i) (by omega) hgo (by omega), hR, if_neg d0] at heq
      obtain ⟨k, rfl⟩ : ∃ k : Nat, y = (k : Int) := ⟨y.toNat, by omega⟩
      rw [Int.toNat_natCast] at heq
      refine Vs 7 O ?_
      refine ziM (⟨k, _, xs ++ [RR.code, RR.answer, RR.charge], b, ax, cx, az, cz, F⟩) (zkg O) (zkh O) (⟨hb.up (by omega), by rw [zmg]; simp only [List.length_cons, List.length_nil]; omega, heq⟩) (by first | omega | (dsimp only; omega)) 1 O O
 ·
  rw [ziu (by omega), List.append_nil] at heq
  refine Vs 12 O ?_
  refine ziV Tryz.results15 O (fun w hI => ⟨_, rfl, by rw [<- heq]; exact zjO zi (fun _ _ => rfl) (hI.at 19 O) (fun b hb => hI.own 19 0 O O b hb), hI.k0⟩)
theorem ziv {m b n : Int} (h : zfs m b n = 0) : (m = 0 \/ m = 1) /\ 1 <= b /\ b <= 1048576 /\ 1 <= n /\ n <= 4096 := by
 unfold zfs at h
 split at h
 . cases h
 ·
  rename_i h1
  split at h
  . cases h
  . exact ⟨Decidable.not_not.1 h1, by omega⟩
theorem zmr {m b n : Int} (h : zfs m b n = 0) : zft m b n = ⟨m, b, 1, qm n.toNat, []⟩ := if_pos h
theorem mem_rangeL {n : Nat} {x : Int} : x ∈ qm n ↔ 0 <= x /\ x < (n : Int) := by
 unfold qm
 rw [List.mem_map]
 constructor
 ·
  rintro ⟨i, hi, rfl⟩
  rw [List.mem_range] at hi
  omega
 ·
  intro h
  exact ⟨x.toNat, List.mem_range.2 (by omega), by omega⟩
theorem zmz (n : Nat) : (qm n).Pairwise (· < ·) := by
 unfold qm
 rw [List.pairwise_map]
 exact List.pairwise_lt_range.imp fun h => by omega
structure RunA (ps : List Fl) (a : Ac) (k : Nat) : Prop where
 ok : ValidA a
 ag : Agree ps a
 tr : TrB a k
theorem RunA.new {m b n : Int} (ps : List Fl) (h : zfs m b n = 0) : RunA ps (zft m b n) 0 := by
 obtain ⟨h1, h2, h3, h4, h5⟩ := ziv h
 rw [zmr h]
 have hl := ze3 n.toNat
 exact ⟨⟨h1, h2, h3, Int.le_refl _, h2, by rw [hl]; omega, by rw [hl]; omega, fun x hx => by have := mem_rangeL.1 hx; omega, zmz _⟩, fun q hq => by (cases hq), ⟨by rw [hl]; omega, Nat.le_refl _, fun q hq => by (cases hq)⟩⟩
theorem zmH {ps : List Fl} {a : Ac} {q : Qu} {s : Int} (h : (zc7 a ps q s).code = 0) : ∃ f, zbq ps q.1 = some f /\ yU a ps q = 0 /\ s ∈ a.left /\ yi a f q <= a.budget.tdiv a.spent /\ zc7 a ps q s = zhK a f q s := zmB h fun i hg => by
 by_cases hi : i = 0
 ·
  left
  intro e
  obtain ⟨_, f, hf, _⟩ := jW (e.trans hi)
  rw [hg] at hf; cases hf
 . exact .inr hi
theorem RunA.ask {ps : List Fl} {a : Ac} {k : Nat} {q : Qu} {s : Int} (h : RunA ps a k) (hq : q.2.length <= 20) (hc : (zc7 a ps q s).code = 0) : RunA ps (zc7 a ps q s).ac (k + 1) := by
 have ht := h.tr.ask ps q s hq hc
 obtain ⟨f, hf, hqc, hs, hp, e⟩ := zmH hc
 obtain ⟨_, f', hf', _, _, hi⟩ := jW hqc
 rw [hf] at hf'
 cases hf'
 rw [e] at ht ⊢
 exact ⟨h.ok.ans hs hi hp, h.ag.ans hf, ht⟩
theorem RunA.up {ps : List Fl} {a : Ac} {k m : Nat} (h : RunA ps a k) (hk : k <= m) : RunA ps a m := ⟨h.ok, h.ag, h.tr.up hk⟩
def zmS (m : Int) (a : Ac) : Ac := ⟨m, a.budget, a.spent, a.left, a.asked⟩
theorem RAc.md {D : Nat -> Prop} {w : World} {a : Ac} {u1 u2 : Value} (h : RAc D w a u1 u2) (m : Int) : RAc D w (zmS m a) u1 u2 := ⟨h.left, h.asked⟩
theorem RunA.md {ps : List Fl} {a : Ac} {k : Nat} (h : RunA ps a k) {m : Int} (hm : m = 0 \/ m = 1) : ValidA (zmS m a) := ⟨hm, h.ok.b1, h.ok.b2, h.ok.s1, h.ok.s2, h.ok.l1, h.ok.l2, h.ok.rng, h.ok.asc⟩
structure KrIn (ps : List Fl) (T : List Nn) (a : Ac) (i : Nat) (L : List (List Int)) : Prop where
 le : L.length <= i
 nd : L.Nodup
 all : ∀ t ∈ L, ∃ s ∈ a.left, t = trN ps T T.length a 0 s
theorem zn0 {ps : List Fl} {T : List Nn} {a : Ac} : KrIn ps T a 0 [] := ⟨Nat.le_refl _, List.Pairwise.nil, fun t ht => by cases ht⟩
theorem KrIn.old {ps : List Fl} {T : List Nn} {a : Ac} {i : Nat} {L : List (List Int)} (h : KrIn ps T a i L) : KrIn ps T a (i + 1) L := ⟨Nat.le_succ_of_le h.le, h.nd, h.all⟩
theorem KrIn.new {ps : List Fl} {T : List Nn} {a : Ac} {i : Nat} {L : List (List Int)} (h : KrIn ps T a i L) {s : Int} (hs : s ∈ a.left) (hn : trN ps T T.length a 0 s ∉ L) : KrIn ps T a (i + 1) (L ++ [trN ps T T.length a 0 s]) := by
 refine ⟨by rw [zmg]; have := h.le; simp only [List.length_singleton]; omega, ?_, fun t ht => ?_⟩
 ·
  rw [List.nodup_append]
  exact ⟨h.nd, List.pairwise_singleton _ _, fun x hx y hy e => hn (by rw [<- List.mem_singleton.1 hy, <- e]; exact hx)⟩
 ·
  rcases List.mem_append.1 ht with ht | ht
  . exact h.all t ht
  . exact ⟨s, hs, List.mem_singleton.1 ht⟩
theorem KrIn.done {ps : List Fl} {T : List Nn} {m b n : Int} {i : Nat} {L : List (List Int)} (hc : zfs m b n = 0) (h : KrIn ps T (zft m b n) i L) : (L.length : Int) <= b := by
 have hr := RunA.new ps hc
 have h1 := zmP ps T T.length _ 0 L hr.ok hr.ag h.nd h.all
 rw [zmr hc] at h1
 simp only at h1
 omega
theorem zmI (x y : List Int) (u v : Value) (b : Nat) (D D' : Nat -> Prop) (W : World) (hx : SlR 1 zF D W u x) (hy : SlR 1 zF D' W v y) (hB : Cells W b 0 [v]) : Calls Tryz.prog 17 #[u, .pointer (some ⟨b, 0, none⟩)] W (Ret fun r w' => r = .bool (decide (y = x)) /\ Ext W w') := by
 obtain ⟨a1, c1, rfl⟩ := hx.form
 obtain ⟨a2, c2, rfl⟩ := hy.form
 refine zkH Tryz.func17 O Tryz.ntmps17 O (zkS ?_)
 refine zlg 900 0 O O (fun h => h) hB ?_
 refine zkY 1 900 0 O O ?_
 refine Vs 9 O ?_
 refine zl7 tc18 O (fun w hI => qz y x _ _ D' D w (Tr1 hI.k0 hy) (Tr1 hI.k0 hx)) ?_
 refine Vs 4 O ?_
 refine ziV Tryz.results17 O (fun w hI => ⟨_, rfl, rfl, hI.k0⟩)
abbrev slE (l : List Int) (y : Option Addr × Nat × (Nat -> Prop)) : HE := DaP (RSl 1 zF) y.2.2 l [.slice y.1 l.length y.2.1]
theorem zmT {H : Hp} {f : FuncId} {args : Array Value} {l : List Int} {w : World} (k : Nat) (hc : Calls Tryz.prog f args w (Ret fun r w' => SlR 1 zF (fun b => w.heap.size <= b) w' r l /\ Ext w w')) :
  Calls Tryz.prog f args w (Ret fun r w' => ∃ y : Option Addr × Nat × (Nat -> Prop), r = .slice y.1 l.length y.2.1 /\ Hands H [] [(k, slE l y)] w w') := by
 refine hc.mono ?_
 rintro _ w' ⟨_, rfl, hd, hk⟩
 obtain ⟨ao, co, rfl⟩ := hd.form
 refine ⟨_, rfl, (ao, co, fun b => w.heap.size <= b /\ b < w'.heap.size), rfl, hk.mono fun q _ h => h.elim, fun x hx => ?_, List.pairwise_singleton _ _⟩
 rw [List.mem_singleton] at hx
 subst hx
 exact ⟨⟨_, rfl, hd.narrow (by omega) yj⟩, DaP.loc, fun _ h => h, fun q hq => ⟨.inr hq.1, hq.2⟩⟩
theorem zmU {F : Nat -> Prop} {w : World} {l : List Int} {ao : Option Addr} {co : Nat} (h : (DaP (RSl 1 zF) F l [.slice ao l.length co]).holds w) : SlR 1 zF F w (.slice ao l.length co) l := by
 obtain ⟨v, hv, h1⟩ := h
 obtain rfl := (List.cons.inj hv).1
 exact h1
theorem zmV (D : Nat -> Prop) {w : World} (x : List Int) (cs : List Value) (h : RSl 1 zF D w x cs) : ∀ u ∈ cs, u.oneCell' = true := by
 obtain ⟨v, rfl, h1⟩ := h
 obtain ⟨a, c, rfl⟩ := h1.form
 simp [Value.oneCell']
theorem zmW {L : List (List Int)} {t : List Int} : L.any (fun u => decide (t = u)) = decide (t ∈ L) := by
 rw [Bool.eq_iff_iff, List.any_eq_true, decide_eq_true_iff]
 exact ⟨fun ⟨u, h1, h2⟩ => by rw [of_decide_eq_true h2]; exact h1, fun h => ⟨t, h, decide_eq_true rfl⟩⟩
theorem zms (m b : Int) (ps : List Fl) (qs_q : List Qu) (T : List Nn) (pv qv tv : Value) (D1 D2 D3 : Nat -> Prop) (W : World) (hps : SlR 3 RPg D1 W pv ps) (hqs : SlR 2 RQu D2 W qv qs_q) (hts : SlR 3 RNn D3 W tv T) (ht : Tab W) :
  Calls Tryz.prog 3 #[.agg #[.int .i64 m, .int .i64 b, pv, qv], tv] W (Ret fun r w' => r = .bool true /\ Ext W w') := by
 obtain ⟨ap, cp, rfl⟩ := hps.form
 obtain ⟨aq, cq, rfl⟩ := hqs.form
 obtain ⟨at_, ct, rfl⟩ := hts.form
 have hmp := hps.max
 have hmt := hts.max
 refine zkH Tryz.func3 O Tryz.ntmps3 O (zkS ?_)
 refine Vs 2 O ?_
 refine V.box 2 O O (fun b2 => ?_)
 refine Vs 6 O ?_
 refine zl7 Tryz.call12 O (fun w hI => ze4 w (Tr1 hI.k0 ht)) ?_
 refine zkx O (fun w hI => zk0 O (by first | exact za | rfl)) ?_
 refine Vs 2 O ?_
 refine V.bool O (fun k0 => ?_) (fun k0 => ?_)
 . cases k0
 ·
  refine Vs 5 O ?_
  refine zl9 Tryz.call13 O (fun w hI => zmw ps qs_q m b _ _ D1 D2 w (Tr1 hI.k0 hps) (Tr1 hI.k0 hqs)) ?_
  rintro rr w1 w2 hI1 hk12 ⟨n, ok, rfl, hok⟩ hlow
  refine Vs 11 O ?_
  refine zkx O (fun w hI => zk0 O (by first | exact za | rfl)) ?_
  refine Vs 1 O ?_
  refine V.sb 23 O (fun q1 => ?_) (fun q1 => ?_)
  ·
   refine Vs 14 O ?_
   refine ziV Tryz.results3 O (fun w hI => ⟨_, rfl, rfl, hI.k1⟩)
  ·
   have hcs := hok (by simpa using q1)
   refine Vs 6 O ?_
   refine ziB O (fun q2 => ?_) (fun q2 => ?_)
   ·
    refine Vs 7 O ?_
    refine ziV Tryz.results3 O (fun w hI => ⟨_, rfl, rfl, hI.k1⟩)
   ·
    have hT8 : T.length <= 8 := by omega
    refine Vs 11 O ?_
    refine zli (σ := Nat) [1, 2, 5, 28, 29] [2] [2] O (fun e j => (30, .int .i64 j) :: e) (fun e j => e) (fun j => j <= T.length /\ ∀ k t, k < j -> T[k]? = some t -> t.q.2.length <= 20) (fun j => T.length - j) (0) (zkg O) (zkh O) (fun _ => rfl) (fun _ => rfl) (fun _ => rfl) (⟨Nat.zero_le _, fun k t h => absurd h (Nat.not_lt_zero _)⟩) ?_
    rintro j ⟨hj, hall⟩
    refine Vs 6 O ?_
    refine ziB O (fun hlt => ?_) (fun hlt => ?_)
    ·
     refine Vs 6 O ?_
     obtain ⟨t, he_t, hm_t⟩ := gE_ T (j) (by omega)
     obtain ⟨b_t, o_t, c_t, ha_t, _, hc_t, hR_t⟩ := hts.at he_t
     obtain ⟨v1_t, v2_t, rfl, hs_t, hn_t⟩ := hR_t
     obtain ⟨a1_t, n1_t, rfl⟩ := hs_t.form
     obtain ⟨a2_t, n2_t, rfl⟩ := hn_t.form
     refine zlf 1000 1 O O hc_t ?_
     refine zkZ 1000 Tryz.runUnderlying27 Tryz.sizeOf35 O ha_t (by omega) (_) (rfl) O ?_
     refine Vs 1 O ?_
     refine V.alloc 8 Tryz.zeroValue35 O O (fun b8 => ?_)
     refine Vs 12 O ?_
     refine ziB O (fun c0 => ?_) (fun c0 => ?_)
     ·
      refine Vs 11 O ?_
      refine ziV Tryz.results3 O (fun w hI => ⟨_, rfl, rfl, hI.k1⟩)
     ·
      have hnx : j + 1 <= T.length /\ ∀ k t, k < j + 1 -> T[k]? = some t -> t.q.2.length <= 20 := ⟨by omega, fun k t' hk ht' => by
       by_cases e : k = j
       ·
        subst e
        rw [he_t] at ht'
        cases ht'
        omega
       ·
        exact hall k t' (by omega) ht'⟩
      refine Va 7 O (by omega) ?_
      refine ziM (j + 1) (zkg O) (zkh O) (hnx) (by first | omega | (dsimp only; omega)) 0 O O
    ·
     obtain rfl : j = T.length := by omega
     have hT : ∀ t ∈ T, t.q.2.length <= 20 := fun t ht => by
      obtain ⟨k, hk⟩ := List.mem_iff_getElem?.1 ht
      exact hall k t (List.getElem?_eq_some_iff.1 hk).1 hk
     refine Vs 12 O ?_
     refine zlw [] (Hn := fun y : Y5 => [(910, acY y.2.2.2.2 (zft m b n) y)]) [(2, some (2, 0)), (41, some (2, 0)), (43, some (2, 1))] Tryz.call14 O (fun _ _ => rfl) (fun _ => rfl) (fun w hI => zi0 910 O O) ?_
     rintro _ ⟨x1, x2, x3, x4, G⟩ rfl
     refine Vs 3 O ?_
     refine V.alloc 9 tz37 O O (fun b9 => ?_)
     refine Vs 11 O ?_
     refine ziB O (fun e0 => ?_) (fun e0 => ?_)
     ·
      refine Vs 7 O ?_
      refine ziV Tryz.results3 O (fun w hI => ⟨_, rfl, rfl, hI.k1⟩)
     ·
      have e0 := Decidable.not_not.1 e0
      have hrun := RunA.new ps e0
      have hA : TrB (zft m b n) 50000 := hrun.tr.up (by omega)
      obtain ⟨_, _, _, hn1, hn2⟩ := ziv e0
      obtain ⟨k, rfl⟩ : ∃ k : Nat, n = (k : Int) := ⟨n.toNat, by omega⟩
      have hlf : (zft m b (k : Int)).left = qm k := by rw [zmr e0]; rfl
      refine Vs 4 O ?_
      refine V.bs0 51 Tryz.runUnderlying41 ts31 O (fun b51 => ?_)
      refine Vs 10 O ?_
      refine zlq 51 (e' := OwP 31 1 (RSl 1 zF) (fun _ => False) (.slice (some ⟨b51, 0, none⟩) 0 0) []) O (fun w hI => ⟨⟨[], hI.at 51 rfl, fun i x h => by simp at h⟩, fun _ h => h.elim⟩) OwP.loc (fun _ h => h) (fun q hq => hq.elim id False.elim) ?_
      refine Vs 1 O ?_
      refine zli (σ := Nat × List (List Int) × Option Addr × Nat × (Nat -> Prop)) [1, 2, 9, 52] [2, 9, 910] [2, 9] O (fun e ⟨i, L, ax, cx, F⟩ => (53, .int .i64 i) :: (11, .slice ax L.length cx) :: e) (fun e ⟨i, L, ax, cx, F⟩ => (51, OwP 31 1 (RSl 1 zF) F (.slice ax L.length cx) L) :: e) (fun ⟨i, L, ax, cx, F⟩ => i <= k /\ KrIn ps T (zft m b (k : Int)) i L) (fun ⟨i, L, ax, cx, F⟩ => k - i) ((0, [], some ⟨b51, 0, none⟩, 0, fun _ => False)) (zkg O) (zkh O) (fun _ => rfl) (fun _ => rfl) (fun _ => rfl) (⟨Nat.zero_le _, zn0⟩) ?_
      rintro ⟨i, L, ax, cx, F⟩ ⟨hi, hin⟩
      show V _ _ _ _ _ ((53, .int .i64 i) :: (11, .slice ax L.length cx) :: _) _ ((51, OwP 31 1 (RSl 1 zF) F (.slice ax L.length cx) L) :: _) _
      have hLe := hin.le
      refine Vs 6 O ?_
      refine ziB O (fun hlt2 => ?_) (fun hlt2 => ?_)
      ·
       have hs : (i : Int) ∈ (zft m b (k : Int)).left := by rw [hlf]; exact mem_rangeL.2 (by omega)
       refine Vs 17 O ?_
       refine zlw [] (Hn := fun y : Option Addr × Nat × (Nat -> Prop) => [(905, slE (trN ps T T.length (zft m b (k : Int)) 0 (i : Int)) y)]) [(2, some (2, 0)), (9, some (9, 0)), (57, some (2, 2))] Tryz.call15 O (fun _ _ => rfl) (fun _ => rfl) (fun w hI => zmT 905 (zmi (zft m b (k : Int)) ps hcs.sz T hT8 hT (i : Int) hA _ _ _ _ G D1 D3 w (show RAc _ _ _ _ _ from hI.at 910 O) (Tr1 hI.k1 hps) (Tr1 hI.k1 hts) (Tr1 hI.k1 ht))) ?_
       rintro _ ⟨ao, co, G2⟩ rfl
       refine V.alloc 13 Tryz.zeroValue31 O O (fun b13 => ?_)
       refine Vs 7 O ?_
       refine zl7 Tryz.call16 O (fun w hI => zmM (fun u => decide (trN ps T T.length (zft m b (k : Int)) 0 (i : Int) = u)) L _ _ _ _ w Tryz.call17 ((show OwH _ _ _ _ _ _ _ from hI.at 51 O).sl (by omega) (fun q hq => hq)) (fun x u w' hE _ hd => zmI x (trN ps T T.length (zft m b (k : Int)) 0 (i : Int)) u _ b13 _ _ w' hd ((zmU (hI.at 905 O)).ext zc hE) (hE.cells (Blk.cells (hI.at 13 O)) (fun h => h)))) ?_
       refine V.eq 64 (v := .bool (decide (trN ps T T.length (zft m b (k : Int)) 0 (i : Int) ∈ L))) O (by rw [zmW]) ?_
       refine zkx O (fun w hI => zk0 O (by first | exact za | rfl)) ?_
       refine Vs 2 O ?_
       refine ziB O (fun c => ?_) (fun c => ?_)
       ·
        refine Vs 3 O ?_
        refine zll 68 [(0, _)] Tryz.runUnderlying41 ts31 Tryz.zeroValue31 (by decide) O O (by kernel_rfl) (fun b68 => ?_)
        refine zlE [51, 905] (Hn := fun u => [(51, OwP 31 1 (RSl 1 zF) (fun q => F q \/ G2 q) u (L ++ [trN ps T T.length (zft m b (k : Int)) 0 (i : Int)]))]) (u := fun u => u) [(2, some (2, 0)), (9, some (9, 0)), (13, some (13, 0)), (57, some (2, 2))] O (fun _ => rfl) (fun _ => rfl) (fun w hI => zlG 51 905 68 hI O O O O Tryz.underlying41 Tryz.el31 O (by decide) O O O (fun D x cs h => zmV D x cs h) (by omega) (by omega)) (fun u51 => ?_)
        refine zkT (p := ∃ ao c, u51 = .slice ao (L ++ [trN ps T T.length (zft m b (k : Int)) 0 (i : Int)]).length c) (fun w hI => owf (hI.at 51 O)) (fun hu => ?_)
        obtain ⟨an, cn, rfl⟩ := hu
        refine Va 8 O (by omega) ?_
        have hnx := hin.new hs c
        refine ziM (⟨i + 1, L ++ [trN ps T T.length (zft m b (k : Int)) 0 (i : Int)], an, cn, fun q => F q \/ G2 q⟩) (zkg O) (zkh O) (⟨by omega, hnx⟩) (by first | omega | (dsimp only; omega)) 0 O O
       ·
        have hnx := hin.old
        refine Va 7 O (by omega) ?_
        refine ziM (⟨i + 1, L, ax, cx, F⟩) (zkg O) (zkh O) (⟨by omega, hnx⟩) (by first | omega | (dsimp only; omega)) 0 O O
      ·
       have hle := hin.done e0
       refine Vs 16 O ?_
       refine ziV Tryz.results3 O (fun w hI => ⟨_, rfl, by rw [decide_eq_true hle], hI.k1⟩)
end Go.Proofs.YtbkhagigkglgoaaGreatDoor
