/-
  Contracts and the mathematics that the proof needs. Nothing here is a claim.
-/
import Derived.Test.YtbkhagigkglgoaaGreatDoorKU5
import Derived.WalkKit
import Derived.Deep.Quiet
import Derived.Deep.LoopGhost
import Derived.Below
import Derived.OrdersHeld
import Derived.KernelRfl
import Derived.WalkSpells
import Derived.ChangeKeysEq
import Derived.Lib.SliceRun
import Derived.Test.YtbkhagigkglgoaaGreatDoorRows
import Derived.ProofKit
import Derived.OpenShut
import Derived.ReadAgain
import Derived.ChangeBears
import Derived.Laws.Strings
import Derived.Test.YtbkhagigkglgoaaGreatDoorProg
import Derived.Maps.RangeRun
import Derived.MapKept
import Derived.Lib.AppendStr
import Derived.Lib.SmallJoins
import Derived.Lib.Builder
import Derived.Lib.UnsafeStr
import Derived.Laws.Externs
import Derived.Lib.ItoaNum
import Derived.Lib.ItoaMem
import Derived.Shelf.Strings.BuilderK
import Derived.Shelf.LaysM
import Derived.Shelf.Strconv.Itoa3
import Derived.Lib.ItoaLen
import Derived.Shelf.SlSortCmp.WholeK
import Derived.Ground.SlsfProg
import Derived.Shelf.SlSortCmp.NoneTotal
import Derived.Handed
import Derived.LaidLaws
import Derived.Test.YtbkhagigkglgoaaGreatDoorTie
import Derived.Test.YtbkhagigkglgoaaGreatDoorCards
namespace Go.GL
abbrev WD.done := @zjG
abbrev G.done := @zjH
abbrev VD.done := @zjI
abbrev VDx.done := @zjJ
abbrev G.sb := @zku
end Go.GL
namespace Go.Proofs.YtbkhagigkglgoaaGreatDoor
abbrev RpIn.done := @zjK
end Go.Proofs.YtbkhagigkglgoaaGreatDoor
namespace Go.GL
abbrev zmC := @if_neg
abbrev zmD := @List.mem_singleton
end Go.GL
namespace Go.GL
theorem St.plainB_eq (s : St) : s.plainB = ((if s.act = 3 then true else if s.act = 4 then s.els.isEmpty else s.thn.isEmpty && s.els.isEmpty) && zei s.thn && zei s.els) := by cases s; rw [St.plainB]; rfl
theorem zmo {l : List St} (h : ∀ s ∈ l, s.plainB = true) : zei l = true := by
 induction l with
 | nil => rfl
 | cons x r ih => rw [zei, h x (zmc ..), ih (fun s hs => h s (zmb _ hs))]; rfl
end Go.GL
namespace Go.Proofs.YtbkhagigkglgoaaGreatDoor
open Go.GL
theorem zit {vs : List Vr} {nh : Nat} (l : List St) : ∀ top, zb vs nh l top = 0 -> zei l = true := by
 induction l using zk9 with
 | h l ih =>
 intro top h
 refine zmo (fun s hs => ?_)
 obtain ⟨last, h2⟩ := xl l top h s hs
 obtain ⟨h3, _, _, h4, h5⟩ := xN h2
 rw [s.plainB_eq, (ih s hs).1 _ h4, (ih s hs).2 _ h5, Bool.and_true, Bool.and_true]
 split
 . rfl
 ·
  split
  . rename_i a4; rw [(h3.rep a4).2.2]; rfl
  . rename_i a3 a4; rw [(h3.free a3 a4).1, (h3.free a3 a4).2]; rfl
theorem zmj {f : Fl} (h : zZ f = 0) : zei f.body = true := zit _ _ (yo h).2.2.2.1
section
variable {f : Fl} (V : Valid f)
include V
theorem Valid.plain : zei f.body = true := zmj V.ok
end
open Go.GL
theorem zix {l : List Ob} (h : Asc l) : l.Nodup := h.imp fun {a b} h e => by rw [e, jH] at h; omega
theorem ziu {α : Type} [DecidableEq α] : ∀ {l l' : List α}, l.Nodup -> (∀ x ∈ l, x ∈ l') -> l.length <= l'.length
 | [], _, _, _ => Nat.zero_le _
 | x :: l, l', hn, hs => by
  rw [List.nodup_cons] at hn
  have hx := hs x (zmc ..)
  have h1 := ziu (l' := l'.erase x) hn.2 fun y hy => (List.mem_erase_of_ne (fun e : y = x => hn.1 (e ▸ hy))).2 (hs y (zmb _ hy))
  rw [List.length_erase_of_mem hx] at h1
  have := List.length_pos_of_mem hx
  rw [List.length_cons]; omega
theorem zmp {a : Ac} {ps : List Fl} {q : Qu} {s : Int} (h : (zc7 a ps q s).code = 0) (_ : ∀ i, zbq ps q.1 = none -> yU a ps q ≠ i \/ i ≠ 0) : ∃ f, zbq ps q.1 = some f /\ yU a ps q = 0 /\ s ∈ a.left /\ yi a f q <= a.budget.tdiv a.spent /\ zc7 a ps q s = zhK a f q s := by
 unfold zc7 at h ⊢
 by_cases h1 : yU a ps q = 0
 ·
  obtain ⟨_, f, hf, _⟩ := jW h1
  simp only [h1, ne_eq, not_true_eq_false, if_false] at h ⊢
  by_cases h2 : s ∈ a.left
  ·
   simp only [h2, not_true_eq_false, if_false, hf] at h ⊢
   split at h
   . cases h
   ·
    rename_i h3
    exact ⟨f, rfl, trivial, trivial, by omega, by rw [zmC h3]⟩
  . rw [if_pos h2] at h; cases h
 . rw [if_pos h1] at h; exact absurd h h1
theorem zmq {f : Fl} {pub rs rs' : List Int} (h : ∀ s ∈ rs, s ∈ rs') : (zg0 f pub rs).length <= (zg0 f pub rs').length :=
 ziu (zix (zc2 _)) fun o ho => by
  obtain ⟨s, hs, rfl⟩ := List.mem_map.1 (mem_distO.1 ho)
  exact zg1 (h s hs)
theorem zmu {ps : List Fl} {a : Ac} {f : Fl} {q : Qu} (hf : zbq ps q.1 = some f) (hi : xU f a.left) (hA : Agree ps a) : ((zg0 f q.2 a.left).length : Int) <= yi a f q := by
 unfold yi
 split
 . exact Int.le_refl _
 ·
  split
  ·
   rename_i h2
   have : (zg0 f q.2 a.left).length <= ([obN f q.2 (a.left.headD 0)]).length := ziu (zix (zc2 _)) fun o ho => by
    obtain ⟨s, hs, rfl⟩ := List.mem_map.1 (mem_distO.1 ho)
    cases hl : a.left with
    | nil => rw [hl] at hs; cases hs
    | cons x r => exact zmD.2 (hA q h2 f hf s hs x (by rw [hl]; exact zmc ..))
   simp only [List.length_singleton] at this
   omega
  ·
   have := zmq (f := f) (pub := q.2) (rs := a.left) (rs' := zax f) fun s hs => mem_allR.2 (hi s hs)
   omega
theorem zmh {α β : Type} [DecidableEq β] (P : β -> α -> Bool) (b : Int) (c : Int) (hc : 0 <= c) (hb : 0 <= b) : ∀ (ol : List β) (L : List α), (∀ t ∈ L, ∃ o ∈ ol, P o t = true) -> (∀ o ∈ ol, ((L.filter (P o)).length : Int) * c <= b) -> (L.length : Int) * c <= ol.length * b
 | [], L, h, _ => by
  cases L with
  | nil => simp
  | cons x r => obtain ⟨o, ho, _⟩ := h x (zmc ..); cases ho
 | o :: r, L, h, h2 => by
  have h3 := zmh P b c hc hb r (L.filter fun t => !P o t) (fun t ht => by
   obtain ⟨h4, h5⟩ := List.mem_filter.1 ht
   obtain ⟨o', ho', h6⟩ := h t h4
   rcases List.mem_cons.1 ho' with rfl | ho'
   . rw [h6] at h5; cases h5
   . exact ⟨o', ho', h6⟩) (fun o' ho' => by
   have h7 := h2 o' (zmb _ ho')
   have h8 : ((L.filter fun t => !P o t).filter (P o')).length <= (L.filter (P o')).length := by
    rw [List.filter_filter, show (L.filter fun a => P o' a && !P o a) = (L.filter (P o')).filter (fun a => !P o a) by rw [List.filter_filter]; congr 1; funext a; exact Bool.and_comm _ _]
    exact List.length_filter_le _ _
   have h9 : (((L.filter fun t => !P o t).filter (P o')).length : Int) * c <= ((L.filter (P o')).length : Int) * c := Int.mul_le_mul_of_nonneg_right (by omega) hc
   omega)
  have h10 := h2 o (zmc ..)
  have h11 : (L.filter (P o)).length + (L.filter fun t => !P o t).length = L.length := by
   clear h h2 h3 h10
   induction L with
   | nil => rfl
   | cons x L ih => cases hp : P o x <;> simp [hp] <;> omega
  have h12 : (L.length : Int) * c = ((L.filter (P o)).length : Int) * c + ((L.filter fun t => !P o t).length : Int) * c := by rw [<- Int.add_mul]; congr 1; omega
  rw [h12, List.length_cons]
  have h13 : ((r.length + 1 : Nat) : Int) * b = r.length * b + b := by rw [Int.natCast_add, Int.add_mul]; simp
  omega
def zmz (r : Res) : Int := if r.code = 0 then 100 + r.answer % 65536 else r.code
def goN (t : Nn) (r : Res) : Option Int := t.next[((zmz r % 65536) % t.next.length).toNat]?
def trN (ps : List Fl) (T : List Nn) : Nat -> Ac -> Nat -> Int -> List Int
 | 0, _, _, _ => []
 | n + 1, a, i, s => match T[i]? with
  | none => []
  | some t => let r := zc7 a ps t.q s
   r.code :: r.answer :: r.charge :: (if t.next = [] then [] else match goN t r with
    | none => []
    | some j => if j <= i then [] else trN ps T n (if r.code = 0 then r.ac else a) j.toNat s)
theorem zmi {α β : Type} {g : α -> β} {l : List α} (hn : l.Nodup) (hg : ∀ x ∈ l, ∀ y ∈ l, g x = g y -> x = y) : (l.map g).Nodup := by
 induction l with
 | nil => exact List.Pairwise.nil
 | cons x r ih =>
  rw [List.nodup_cons] at hn
  rw [List.map_cons, List.nodup_cons]
  refine ⟨fun h => ?_, ih hn.2 fun a ha b hb => hg a (zmb _ ha) b (zmb _ hb)⟩
  obtain ⟨y, hy, he⟩ := List.mem_map.1 h
  exact hn.1 (hg y (zmb _ hy) x (zmc ..) he ▸ hy)
theorem ziv {α : Type} {L : List α} {x : α} (hn : L.Nodup) (h : ∀ t ∈ L, t = x) : L.length <= 1 := by
 match L, hn, h with
 | [], _, _ => exact Nat.zero_le _
 | [_], _, _ => exact Nat.le_refl _
 | a :: b :: r, hn, h => exact absurd ((h a (by simp)).trans (h b (by simp)).symm) (fun e => (List.nodup_cons.1 hn).1 (by simp [e]))
theorem zml {a : Ac} {ps : List Fl} {q : Qu} {s t : Int} (hs : s ∈ a.left) (ht : t ∈ a.left) : (zc7 a ps q s).code = (zc7 a ps q t).code /\ (zc7 a ps q s).charge = (zc7 a ps q t).charge /\ ((zc7 a ps q s).code ≠ 0 -> zc7 a ps q s = zc7 a ps q t) := by
 unfold zc7
 by_cases h : yU a ps q = 0
 ·
  simp only [h, hs, ht, ne_eq, not_true_eq_false, if_false]
  cases zbq ps q.1 with
  | none => exact ⟨rfl, rfl, fun _ => rfl⟩
  | some f =>
   simp only
   split
   . exact ⟨rfl, rfl, fun _ => rfl⟩
   . exact ⟨rfl, rfl, fun h => absurd O h⟩
 ·
  rw [if_pos h, if_pos h]
  exact ⟨rfl, rfl, fun _ => rfl⟩
theorem zmr {l : List Ob} {o p : Ob} (ho : o ∈ l) (hp : p ∈ l) (h : zh5 l o = zh5 l p) : o = p := by
 unfold zh5 at h
 rw [if_pos ho, if_pos hp] at h
 have h1 : ∀ o, o ∈ l -> l[l.findIdx (fun x => decide (x = o))]? = some o := fun o ho => by
  have hlt : l.findIdx (fun x => decide (x = o)) < l.length := List.findIdx_lt_length_of_exists ⟨o, ho, by simp⟩
  rw [zm8 hlt]
  have := List.findIdx_getElem (w := hlt)
  simpa using this
 have h2 := h1 o ho
 rw [show l.findIdx (fun x => decide (x = o)) = l.findIdx (fun x => decide (x = p)) by omega, h1 p hp] at h2
 exact (Option.some.inj h2).symm
theorem zmw (ps : List Fl) (T : List Nn) : ∀ (n : Nat) (a : Ac) (i : Nat) (L : List (List Int)), ValidA a -> Agree ps a -> L.Nodup -> (∀ t ∈ L, ∃ s ∈ a.left, t = trN ps T n a i s) -> (L.length : Int) * a.spent <= a.budget
 | 0, a, i, L, hv, _, hn, h => by
  have h1 := ziv (x := []) hn fun t ht => by obtain ⟨s, _, e⟩ := h t ht; exact e
  have h2 : (L.length : Int) * a.spent <= 1 * a.spent := Int.mul_le_mul_of_nonneg_right (by omega) (by have := hv.s1; omega)
  have := hv.s2
  omega
 | n + 1, a, i, L, hv, hA, hn, h => by
  have hs1 := hv.s1
  have hs2 := hv.s2
  have hone : L.length <= 1 -> (L.length : Int) * a.spent <= a.budget := fun h1 => by
   have h2 : (L.length : Int) * a.spent <= 1 * a.spent := Int.mul_le_mul_of_nonneg_right (by omega) (by omega)
   omega
  cases ht : T[i]? with
  | none => exact hone (ziv (x := []) hn fun t ht' => by obtain ⟨s, _, e⟩ := h t ht'; rw [e, trN, ht])
  | some t =>
   have htr : ∀ s, trN ps T (n + 1) a i s = (zc7 a ps t.q s).code :: (zc7 a ps t.q s).answer :: (zc7 a ps t.q s).charge :: (if t.next = [] then [] else match goN t (zc7 a ps t.q s) with
    | none => []
    | some j => if j <= i then [] else trN ps T n (if (zc7 a ps t.q s).code = 0 then (zc7 a ps t.q s).ac else a) j.toNat s) := fun s => by rw [trN, ht]
   obtain ⟨s0, hs0⟩ : ∃ s, s ∈ a.left := ⟨a.left[0]'hv.l1, List.getElem_mem _⟩
   by_cases hc : (zc7 a ps t.q s0).code = 0
   ·
    obtain ⟨f, hf, hq, _, hp, _⟩ := zmp hc (fun i hg => by
     by_cases hi : i = 0
     ·
      left
      intro e
      obtain ⟨_, f, hf, _⟩ := jW (e.trans hi)
      rw [hg] at hf; cases hf
     ·
      exact .inr hi)
    obtain ⟨_, f', hf', _, _, hin⟩ := jW hq
    rw [hf] at hf'
    cases hf'
    have hr : ∀ s ∈ a.left, zc7 a ps t.q s = zhK a f t.q s := fun s hs => by
     unfold zc7
     rw [zmC (not_not_intro hq), zmC (not_not_intro hs), hf]
     simp only
     rw [zmC (by omega)]
    have hpp := zc8 (q := t.q) hv hin
    have hge := zmu hf hin hA
    have hparts := zmh (fun (o : Ob) (u : List Int) => decide (u[1]? = some (zh5 (zg0 f t.q.2 (zax f)) o))) a.budget (a.spent * yi a f t.q) (Int.mul_nonneg (by omega) (by omega)) (by have := hv.b1; omega) (zg0 f t.q.2 a.left) L (fun u hu => by
     obtain ⟨s, hs, rfl⟩ := h u hu
     refine ⟨obN f t.q.2 s, zg1 hs, ?_⟩
     rw [htr, hr s hs]
     simp [zhK]) (fun o ho => by
     obtain ⟨so, hso, hoe⟩ := List.mem_map.1 (mem_distO.1 ho)
     have hval : ValidA (zeQ a f t.q (yi a f t.q) o) := hoe ▸ hv.ans hso hin hp
     have hL : ∀ u ∈ L.filter (fun u => decide (u[1]? = some (zh5 (zg0 f t.q.2 (zax f)) o))), ∃ s ∈ a.left, obN f t.q.2 s = o /\ u = trN ps T (n + 1) a i s := fun u hu => by
      obtain ⟨h1, h2⟩ := List.mem_filter.1 hu
      obtain ⟨s, hs, rfl⟩ := h u h1
      refine ⟨s, hs, ?_, rfl⟩
      have h2 := of_decide_eq_true h2
      rw [htr, hr s hs] at h2
      have h3 : zh5 (zg0 f t.q.2 (zax f)) (obN f t.q.2 s) = zh5 (zg0 f t.q.2 (zax f)) o := by simpa [zhK] using h2
      exact zmr (zg1 (mem_allR.2 (hin s hs))) (hoe ▸ zg1 (mem_allR.2 (hin so hso))) h3
     have hnL : (L.filter (fun u => decide (u[1]? = some (zh5 (zg0 f t.q.2 (zax f)) o)))).Nodup := hn.filter _
     generalize L.filter (fun u => decide (u[1]? = some (zh5 (zg0 f t.q.2 (zax f)) o))) = M at hL hnL ⊢
     have hdrop : ∀ s ∈ a.left, obN f t.q.2 s = o -> trN ps T (n + 1) a i s = [0, zh5 (zg0 f t.q.2 (zax f)) o, yi a f t.q] ++ (trN ps T (n + 1) a i s).drop 3 := fun s hs he => by
      rw [htr, hr s hs, <- he]
      simp [zhK]
     have hnM : (M.map (List.drop 3)).Nodup := zmi hnL fun u hu v hv' e => by
      obtain ⟨s, hs, h1, rfl⟩ := hL u hu
      obtain ⟨s', hs', h1', rfl⟩ := hL v hv'
      rw [hdrop s hs h1, hdrop s' hs' h1', e]
     have hrest : ∀ s ∈ a.left, obN f t.q.2 s = o -> (trN ps T (n + 1) a i s).drop 3 = (if t.next = [] then [] else match t.next[(((100 + zh5 (zg0 f t.q.2 (zax f)) o % 65536) % 65536) % t.next.length).toNat]? with
       | none => []
       | some j => if j <= i then [] else trN ps T n (zeQ a f t.q (yi a f t.q) o) j.toNat s) := fun s hs he => by
      rw [htr, hr s hs]
      simp only [List.drop_succ_cons, List.drop_zero, zhK, if_true, he, goN, zmz]
     have hfin : (((M.map (List.drop 3)).length : Nat) : Int) * (zeQ a f t.q (yi a f t.q) o).spent <= (zeQ a f t.q (yi a f t.q) o).budget := by
      have hd : (∃ x, ∀ s ∈ a.left, obN f t.q.2 s = o -> (trN ps T (n + 1) a i s).drop 3 = x) \/ ∃ j : Nat, ∀ s ∈ a.left, obN f t.q.2 s = o -> (trN ps T (n + 1) a i s).drop 3 = trN ps T n (zeQ a f t.q (yi a f t.q) o) j s := by
       by_cases hx : t.next = []
       . exact .inl ⟨[], fun s hs he => by rw [hrest s hs he, if_pos hx]⟩
       ·
        cases hj : t.next[(((100 + zh5 (zg0 f t.q.2 (zax f)) o % 65536) % 65536) % t.next.length).toNat]? with
        | none => exact .inl ⟨[], fun s hs he => by rw [hrest s hs he, zmC hx, hj]⟩
        | some j =>
         by_cases hji : j <= i
         . exact .inl ⟨[], fun s hs he => by rw [hrest s hs he, zmC hx, hj]; simp only; rw [if_pos hji]⟩
         . exact .inr ⟨j.toNat, fun s hs he => by rw [hrest s hs he, zmC hx, hj]; simp only; rw [zmC hji]⟩
      rcases hd with ⟨x, hx⟩ | ⟨j, hj⟩
      ·
       have h1 := ziv (x := x) hnM fun u hu => by
        obtain ⟨v, hv', rfl⟩ := List.mem_map.1 hu
        obtain ⟨s, hs, he, rfl⟩ := hL v hv'
        exact hx s hs he
       have h2 : (((M.map (List.drop 3)).length : Nat) : Int) * (zeQ a f t.q (yi a f t.q) o).spent <= 1 * (zeQ a f t.q (yi a f t.q) o).spent := Int.mul_le_mul_of_nonneg_right (by omega) (by have := hval.s1; omega)
       have := hval.s2
       omega
      ·
       refine zmw ps T n _ j _ hval (hA.ans hf) hnM fun u hu => ?_
       obtain ⟨v, hv', rfl⟩ := List.mem_map.1 hu
       obtain ⟨s, hs, he, rfl⟩ := hL v hv'
       exact ⟨s, List.mem_filter.2 ⟨hs, decide_eq_true he⟩, hj s hs he⟩
     rw [List.length_map] at hfin
     exact hfin)
    have h1 : ((zg0 f t.q.2 a.left).length : Int) * a.budget <= yi a f t.q * a.budget := Int.mul_le_mul_of_nonneg_right hge (by have := hv.b1; omega)
    have h2 : (L.length : Int) * (a.spent * yi a f t.q) = yi a f t.q * ((L.length : Int) * a.spent) := by
     rw [<- Int.mul_assoc, Int.mul_comm]
    rw [h2] at hparts
    exact Int.le_of_mul_le_mul_left (Int.le_trans hparts h1) (by omega)
   ·
    have hr : ∀ s ∈ a.left, zc7 a ps t.q s = zc7 a ps t.q s0 := fun s hs => ((zml hs0 hs).2.2 hc).symm
    have hpre : ∀ s ∈ a.left, trN ps T (n + 1) a i s = [(zc7 a ps t.q s0).code, (zc7 a ps t.q s0).answer, (zc7 a ps t.q s0).charge] ++ (trN ps T (n + 1) a i s).drop 3 := fun s hs => by
     rw [htr, hr s hs]; simp
    have hnM : (L.map (List.drop 3)).Nodup := zmi hn fun u hu v hv' e => by
     obtain ⟨s, hs, rfl⟩ := h u hu
     obtain ⟨s', hs', rfl⟩ := h v hv'
     rw [hpre s hs, hpre s' hs', e]
    have hrest : ∀ s ∈ a.left, (trN ps T (n + 1) a i s).drop 3 = (if t.next = [] then [] else match goN t (zc7 a ps t.q s0) with
       | none => []
       | some j => if j <= i then [] else trN ps T n a j.toNat s) := fun s hs => by
     rw [htr, hr s hs]
     simp only [List.drop_succ_cons, List.drop_zero, zmC hc]
    have hd : (∃ x, ∀ s ∈ a.left, (trN ps T (n + 1) a i s).drop 3 = x) \/ ∃ j : Nat, ∀ s ∈ a.left, (trN ps T (n + 1) a i s).drop 3 = trN ps T n a j s := by
     by_cases hx : t.next = []
     . exact .inl ⟨[], fun s hs => by rw [hrest s hs, if_pos hx]⟩
     ·
      cases hj : goN t (zc7 a ps t.q s0) with
      | none => exact .inl ⟨[], fun s hs => by rw [hrest s hs, zmC hx, hj]⟩
      | some j =>
       by_cases hji : j <= i
       . exact .inl ⟨[], fun s hs => by rw [hrest s hs, zmC hx, hj]; simp only; rw [if_pos hji]⟩
       . exact .inr ⟨j.toNat, fun s hs => by rw [hrest s hs, zmC hx, hj]; simp only; rw [zmC hji]⟩
    rw [<- List.length_map (List.drop 3)]
    rcases hd with ⟨x, hx⟩ | ⟨j, hj⟩
    ·
     have h1 := ziv (x := x) hnM fun u hu => by
      obtain ⟨v, hv', rfl⟩ := List.mem_map.1 hu
      obtain ⟨s, hs, rfl⟩ := h v hv'
      exact hx s hs
     have h2 : (((L.map (List.drop 3)).length : Nat) : Int) * a.spent <= 1 * a.spent := Int.mul_le_mul_of_nonneg_right (by omega) (by omega)
     omega
    ·
     refine zmw ps T n a j _ hv hA hnM fun u hu => ?_
     obtain ⟨v, hv', rfl⟩ := List.mem_map.1 hu
     obtain ⟨s, hs, rfl⟩ := h v hv'
     exact ⟨s, hs, hj s hs⟩
theorem zmk (a : Ac) (u1 u2 : Value) (D : Nat -> Prop) (W : World) (ha : RAc D W a u1 u2) : Calls Tryz.prog 23 #[.agg #[.int .i64 a.mode, .int .i64 a.budget, .int .i64 a.spent, u1, u2]] W (Ret fun r w' => r = .bool (decide (ValidA a)) /\ Ext W w') := by
 have hl := ha.left
 obtain ⟨al, cl, rfl⟩ := hl.form
 obtain ⟨aq, cq, hq⟩ := ha.asked.form
 subst hq
 have hmx := hl.max
 refine zkG Tryz.func23 O Tryz.ntmps23 O (zkS ?_)
 refine Vs 2 O ?_
 refine V.box 1 O O (fun b1 => ?_)
 refine Vs 5 O ?_
 refine zlj (σ := Unit) [1] [1] [1] O (fun e u => (46, .bool (decide (zhg a \/ a.left.length < 1 \/ 4096 < a.left.length))) :: e) (fun e u => e) (fun u => True) (fun _ => rfl) (fun _ => rfl) ?_ ?_
 ·
  refine Vs 5 O ?_
  refine zkt 8 O (fun k1_ => ?_) (fun k1_ => ?_)
  ·
   refine Vs 5 O ?_
   refine zkt 13 O (fun k2_ => ?_) (fun k2_ => ?_)
   ·
    refine Vs 34 O ?_
    refine ziR (()) (Sub.cons (by first | exact xp (by omega) | exact xq (by omega) | exact xr (by omega)) (zkg O)) (zkh O) (trivial) 0 O O
   ·
    refine Vs 5 O ?_
    refine zkt 18 O (fun k3_ => ?_) (fun k3_ => ?_)
    ·
     refine Vs 29 O ?_
     refine ziR (()) (Sub.cons (by first | exact xp (by omega) | exact xq (by omega) | exact xr (by omega)) (zkg O)) (zkh O) (trivial) 0 O O
    ·
     refine Vs 5 O ?_
     refine zkt 23 O (fun k4_ => ?_) (fun k4_ => ?_)
     ·
      refine Vs 24 O ?_
      refine ziR (()) (Sub.cons (by first | exact xp (by omega) | exact xq (by omega) | exact xr (by omega)) (zkg O)) (zkh O) (trivial) 0 O O
     ·
      refine Vs 5 O ?_
      refine zkt 28 O (fun k5_ => ?_) (fun k5_ => ?_)
      ·
       refine Vs 19 O ?_
       refine ziR (()) (Sub.cons (by first | exact xp (by omega) | exact xq (by omega) | exact xr (by omega)) (zkg O)) (zkh O) (trivial) 0 O O
      ·
       refine Vs 7 O ?_
       refine zkt 35 O (fun k6_ => ?_) (fun k6_ => ?_)
       ·
        refine Vs 12 O ?_
        refine ziR (()) (Sub.cons (by first | exact xp (by omega) | exact xq (by omega) | exact xr (by omega)) (zkg O)) (zkh O) (trivial) 0 O O
       ·
        refine Vs 6 O ?_
        refine zkt 41 O (fun k7_ => ?_) (fun k7_ => ?_)
        ·
         refine Vs 6 O ?_
         refine ziR (()) (Sub.cons (by first | exact xp (by omega) | exact xq (by omega) | exact xr (by omega)) (zkg O)) (zkh O) (trivial) 0 O O
        ·
         refine Vs 6 O ?_
         refine ziR (()) (Sub.cons (by first | exact xp (by omega) | exact xq (by omega) | exact xr (by omega)) (zkg O)) (zkh O) (trivial) 0 O O
  ·
   refine Vs 10 O ?_
   refine zkt 18 O (fun k2_ => ?_) (fun k2_ => ?_)
   ·
    refine Vs 29 O ?_
    refine ziR (()) (Sub.cons (by first | exact xp (by omega) | exact xq (by omega) | exact xr (by omega)) (zkg O)) (zkh O) (trivial) 0 O O
   ·
    refine Vs 5 O ?_
    refine zkt 23 O (fun k3_ => ?_) (fun k3_ => ?_)
    ·
     refine Vs 24 O ?_
     refine ziR (()) (Sub.cons (by first | exact xp (by omega) | exact xq (by omega) | exact xr (by omega)) (zkg O)) (zkh O) (trivial) 0 O O
    ·
     refine Vs 5 O ?_
     refine zkt 28 O (fun k4_ => ?_) (fun k4_ => ?_)
     ·
      refine Vs 19 O ?_
      refine ziR (()) (Sub.cons (by first | exact xp (by omega) | exact xq (by omega) | exact xr (by omega)) (zkg O)) (zkh O) (trivial) 0 O O
     ·
      refine Vs 7 O ?_
      refine zkt 35 O (fun k5_ => ?_) (fun k5_ => ?_)
      ·
       refine Vs 12 O ?_
       refine ziR (()) (Sub.cons (by first | exact xp (by omega) | exact xq (by omega) | exact xr (by omega)) (zkg O)) (zkh O) (trivial) 0 O O
      ·
       refine Vs 6 O ?_
       refine zkt 41 O (fun k6_ => ?_) (fun k6_ => ?_)
       ·
        refine Vs 6 O ?_
        refine ziR (()) (Sub.cons (by first | exact xp (by omega) | exact xq (by omega) | exact xr (by omega)) (zkg O)) (zkh O) (trivial) 0 O O
       ·
        refine Vs 6 O ?_
        refine ziR (()) (Sub.cons (by first | exact xp (by omega) | exact xq (by omega) | exact xr (by omega)) (zkg O)) (zkh O) (trivial) 0 O O
 rintro u _
 refine Vs 1 O ?_
 refine ziB O (fun c0 => ?_) (fun c0 => ?_)
 ·
  rcases c0 with c1 | c2
  ·
   refine Vs 7 O ?_
   refine ziV Tryz.results23 O (fun w hI => ⟨_, rfl, by rw [zhh c1], hI.k0⟩)
  ·
   refine Vs 7 O ?_
   refine ziV Tryz.results23 O (fun w hI => ⟨_, rfl, by rw [zhP c2], hI.k0⟩)
 ·
  have c1 : ¬ zhg a := fun h => c0 (.inl h)
  have c2 : ¬ (a.left.length < 1 \/ 4096 < a.left.length) := fun h => c0 (.inr h)
  refine Vs 12 O ?_
  refine zli (σ := Nat) [1, 48, 49] [1] [1] O (fun e i => (50, .int .i64 i) :: e) (fun e i => e) (fun i => AscT a.left i) (fun i => a.left.length - i) (0) (zkg O) (zkh O) (fun _ => rfl) (fun _ => rfl) (fun _ => rfl) (⟨Nat.zero_le _, by simp, by simp⟩) ?_
  rintro i hA
  have hle := hA.le
  refine Vs 6 O ?_
  refine ziB O (fun hlt => ?_) (fun hlt => ?_)
  ·
   refine Vs 7 O ?_
   obtain ⟨x, he_x, hm_x⟩ := gE_ a.left (i) (by omega)
   obtain ⟨b_x, o_x, c_x, ha_x, _, hc_x, hR_x⟩ := hl.at he_x
   obtain rfl := hR_x
   refine zlf 1000 0 O O hc_x ?_
   refine zkZ 1000 tR31 ts3 O ha_x (by omega) (_) (rfl) O ?_
   refine Vs 10 O ?_
   refine zkt 57 O (fun b1 => ?_) (fun b1 => ?_)
   ·
    refine Vs 31 O ?_
    refine ziV Tryz.results23 O (fun w hI => ⟨_, rfl, by rw [zgC he_x (.inl b1)], hI.k0⟩)
   ·
    refine Vs 4 O ?_
    refine zkt 61 O (fun b2 => ?_) (fun b2 => ?_)
    ·
     refine Vs 27 O ?_
     refine ziV Tryz.results23 O (fun w hI => ⟨_, rfl, by rw [zgC he_x (.inr b2)], hI.k0⟩)
    ·
     refine Vs 3 O ?_
     refine zkt 64 O (fun b3 => ?_) (fun b3 => ?_)
     ·
      obtain ⟨y, he_y, hm_y⟩ := gE_ a.left (i-1) (by omega)
      obtain ⟨b_y, o_y, c_y, ha_y, _, hc_y, hR_y⟩ := hl.at he_y
      obtain rfl := hR_y
      refine zlf 2000 0 O O hc_y ?_
      refine Va 5 O (by omega) ?_
      refine zkZ 2000 tR31 ts3 O ha_y (by omega) (i - 1) (by omega) O ?_
      refine Vs 6 O ?_
      refine ziB O (fun b4 => ?_) (fun b4 => ?_)
      ·
       refine Vs 11 O ?_
       refine ziV Tryz.results23 O (fun w hI => ⟨_, rfl, by rw [zhQ (by omega) he_x he_y b4], hI.k0⟩)
      ·
       refine Va 7 O (by omega) ?_
       refine ziM (i + 1) (zkg O) (zkh O) (hA.next he_x (by omega) fun p _ hp => by rw [he_y] at hp; cases hp; omega) (by first | omega | (dsimp only; omega)) 0 O O
     ·
      refine Va 20 O (by omega) ?_
      refine ziM (i + 1) (zkg O) (zkh O) (hA.next he_x (by omega) fun p h0 _ => absurd h0 (by omega)) (by first | omega | (dsimp only; omega)) 0 O O
  ·
   obtain rfl : i = a.left.length := by omega
   refine Vs 11 O ?_
   refine ziV Tryz.results23 O (fun w hI => ⟨_, rfl, by rw [zf8 c1 c2 hA], hI.k0⟩)
structure TrB (b : Ac) (m : Nat) : Prop where
 ll : b.left.length <= 5000
 al : b.asked.length <= m
 ql : ∀ p ∈ b.asked, p.2.length <= 17592186044416
theorem zmm {m b n : Int} (h : zfs m b n = 0) : (m = 0 \/ m = 1) /\ 1 <= b /\ b <= 1048576 /\ 1 <= n /\ n <= 4096 := by
 unfold zfs at h
 split at h
 . cases h
 ·
  rename_i h1
  split at h
  . cases h
  . exact ⟨Decidable.not_not.1 h1, by omega⟩
theorem zms {m b n : Int} (h : zfs m b n = 0) : zft m b n = ⟨m, b, 1, qm n.toNat, []⟩ := if_pos h
theorem mem_rangeL {n : Nat} {x : Int} : x ∈ qm n ↔ 0 <= x /\ x < (n : Int) := by
 unfold qm
 rw [List.mem_map]
 constructor
 ·
  rintro ⟨i, hi, rfl⟩
  rw [List.mem_range] at hi
  omega
 ·
  intro h
  exact ⟨x.toNat, List.mem_range.2 (by omega), by omega⟩
theorem zmn (n : Nat) : (qm n).Pairwise (· < ·) := by
 unfold qm
 rw [List.pairwise_map]
 exact List.pairwise_lt_range.imp fun h => by omega
structure RunA (ps : List Fl) (a : Ac) (k : Nat) : Prop where
 ok : ValidA a
 ag : Agree ps a
 tr : TrB a k
theorem zmA {m b n : Int} (ps : List Fl) (h : zfs m b n = 0) : RunA ps (zft m b n) 0 := by
 obtain ⟨h1, h2, h3, h4, h5⟩ := zmm h
 rw [zms h]
 have hl := ze3 n.toNat
 exact ⟨⟨h1, h2, h3, Int.le_refl _, h2, by rw [hl]; omega, by rw [hl]; omega, fun x hx => by have := mem_rangeL.1 hx; omega, zmn _⟩, fun q hq => by (cases hq), ⟨by rw [hl]; omega, Nat.le_refl _, fun q hq => by (cases hq)⟩⟩
theorem zmt {ps : List Fl} {a : Ac} {q : Qu} {s : Int} (h : (zc7 a ps q s).code = 0) : ∃ f, zbq ps q.1 = some f /\ yU a ps q = 0 /\ s ∈ a.left /\ yi a f q <= a.budget.tdiv a.spent /\ zc7 a ps q s = zhK a f q s := zmp h fun i hg => by
 by_cases hi : i = 0
 ·
  left
  intro e
  obtain ⟨_, f, hf, _⟩ := jW (e.trans hi)
  rw [hg] at hf; cases hf
 . exact .inr hi
def zmy (a : Ac) (ps : List Fl) (q : Qu) : Int := if yU a ps q ≠ 0 then 0 else match zbq ps q.1 with
 | none => 0
 | some f => yi a f q
def zmx (m : Int) (a : Ac) : Ac := ⟨m, a.budget, a.spent, a.left, a.asked⟩
theorem RAc.md {D : Nat -> Prop} {w : World} {a : Ac} {u1 u2 : Value} (h : RAc D w a u1 u2) (m : Int) : RAc D w (zmx m a) u1 u2 := ⟨h.left, h.asked⟩
theorem RunA.md {ps : List Fl} {a : Ac} {k : Nat} (h : RunA ps a k) {m : Int} (hm : m = 0 \/ m = 1) : ValidA (zmx m a) := ⟨hm, h.ok.b1, h.ok.b2, h.ok.s1, h.ok.s2, h.ok.l1, h.ok.l2, h.ok.rng, h.ok.asc⟩
theorem zmv {ps : List Fl} {a : Ac} {q : Qu} {s : Int} (h : (zc7 a ps q s).code = 0) : s ∈ (zc7 a ps q s).ac.left /\ (zc7 a ps q s).charge = zmy a ps q := by
 obtain ⟨f, hf, hqc, hs, _, e⟩ := zmt h
 rw [e]
 refine ⟨List.mem_filter.2 ⟨hs, decide_eq_true rfl⟩, ?_⟩
 unfold zmy
 rw [zmC (not_not_intro hqc), hf]
 rfl
structure KrIn (ps : List Fl) (T : List Nn) (a : Ac) (i : Nat) (L : List (List Int)) : Prop where
 le : L.length <= i
 nd : L.Nodup
 all : ∀ t ∈ L, ∃ s ∈ a.left, t = trN ps T T.length a 0 s
theorem zmB {ps : List Fl} {T : List Nn} {a : Ac} : KrIn ps T a 0 [] := ⟨Nat.le_refl _, List.Pairwise.nil, fun t ht => by cases ht⟩
theorem KrIn.old {ps : List Fl} {T : List Nn} {a : Ac} {i : Nat} {L : List (List Int)} (h : KrIn ps T a i L) : KrIn ps T a (i + 1) L := ⟨Nat.le_succ_of_le h.le, h.nd, h.all⟩
theorem KrIn.new {ps : List Fl} {T : List Nn} {a : Ac} {i : Nat} {L : List (List Int)} (h : KrIn ps T a i L) {s : Int} (hs : s ∈ a.left) (hn : trN ps T T.length a 0 s ∉ L) : KrIn ps T a (i + 1) (L ++ [trN ps T T.length a 0 s]) := by
 refine ⟨by rw [zmg]; have := h.le; simp only [List.length_singleton]; omega, ?_, fun t ht => ?_⟩
 ·
  rw [List.nodup_append]
  exact ⟨h.nd, List.pairwise_singleton _ _, fun x hx y hy e => hn (by rw [<- zmD.1 hy, <- e]; exact hx)⟩
 ·
  rcases List.mem_append.1 ht with ht | ht
  . exact h.all t ht
  . exact ⟨s, hs, zmD.1 ht⟩
theorem KrIn.done {ps : List Fl} {T : List Nn} {m b n : Int} {i : Nat} {L : List (List Int)} (hc : zfs m b n = 0) (h : KrIn ps T (zft m b n) i L) : (L.length : Int) <= b := by
 have hr := zmA ps hc
 have h1 := zmw ps T T.length _ 0 L hr.ok hr.ag h.nd h.all
 rw [zms hc] at h1
 simp only at h1
 omega
theorem ziw (a : Ac) (ps : List Fl) (q : Qu) (u1 u2 pv qv : Value) (D D1 D2 : Nat -> Prop) (W : World) (ha : RAc D W a u1 u2) (hps : SlR 3 RPg D1 W pv ps) (hq : SlR 1 zF D2 W qv q.2) (ht : Tab W) (hql : ∀ p ∈ a.asked, p.2.length <= 17592186044416) :
  Calls Tryz.prog 5 #[.agg #[.int .i64 a.mode, .int .i64 a.budget, .int .i64 a.spent, u1, u2], pv, .agg #[.int .i64 q.1, qv]] W (Ret fun r w' => r = .bool true /\ Ext W w') := by
 obtain ⟨qp, pub⟩ := q
 dsimp only at hq
 have hal := ha.left
 obtain ⟨a1, c1, h1⟩ := ha.left.form
 obtain ⟨a2, c2, h2⟩ := ha.asked.form
 subst h1 h2
 obtain ⟨ap, cp, rfl⟩ := hps.form
 obtain ⟨aq, cq, rfl⟩ := hq.form
 have hml := hal.max
 refine zkI Tryz.func5 O Tryz.ntmps5 O (zkS ?_)
 refine Vs 2 O ?_
 refine V.box 3 O O (fun b3 => ?_)
 refine V.box 5 O O (fun b5 => ?_)
 refine Vs 6 O ?_
 refine zl7 Tryz.call12 O (fun w hI => ze4 w (Tr1 hI.k0 ht)) ?_
 refine zkx O (fun w hI => zk0 O (by first | exact za | rfl)) ?_
 refine Vs 2 O ?_
 refine V.bool O (fun k0 => ?_) (fun k0 => ?_)
 . cases k0
 ·
  refine Vs 7 O ?_
  refine zl9 Tryz.call19 O (fun w hI => zge a ps a.mode a.budget a.spent _ _ _ D D1 w (Tr1 hI.k0 ha) (Tr1 hI.k0 hps)) ?_
  rintro rr w1 w2 hI1 hk12 ⟨b0, rfl, hb0⟩ hlow
  refine zkx O (fun w hI => zk0 O (by first | exact za | rfl)) ?_
  refine Vs 1 O ?_
  refine V.sb 27 O (fun q1 => ?_) (fun q1 => ?_)
  ·
   refine Vs 20 O ?_
   refine ziV Tryz.results5 O (fun w hI => ⟨_, rfl, rfl, hI.k1⟩)
  ·
   have hb := hb0 (by simpa using q1)
   refine Vs 6 O ?_
   refine zkt 33 O (fun q2 => ?_) (fun q2 => ?_)
   ·
    refine Vs 14 O ?_
    refine ziV Tryz.results5 O (fun w hI => ⟨_, rfl, rfl, hI.k1⟩)
   ·
    refine Vs 1 O ?_
    refine zl7 Tryz.call23 O (fun w hI => zmk a _ _ D w (Tr1 hI.k1 ha)) ?_
    refine zkx O (fun w hI => zk0 O (by first | exact za | rfl)) ?_
    refine Vs 3 O ?_
    refine ziB O (fun v0 => ?_) (fun v0 => ?_)
    ·
     refine Vs 7 O ?_
     refine ziV Tryz.results5 O (fun w hI => ⟨_, rfl, rfl, hI.k1⟩)
    ·
     have v0 := Decidable.not_not.1 v0
     have hA : AcB a := ⟨by omega, by omega, hql⟩
     have hz := hb.2.2.2
     have hl1 := v0.l1
     obtain ⟨s0, he_s0, hm_s0⟩ := gE_ a.left (0) (by omega)
     obtain ⟨b_s0, o_s0, c_s0, ha_s0, _, hc_s0, hR_s0⟩ := hal.at he_s0
     obtain rfl := hR_s0
     refine zlf 1000 1 O O hc_s0 ?_
     have hs0 : s0 ∈ a.left := zm9 he_s0
     refine Vs 3 O ?_
     refine Vw [3, 5, 1000] [] O ?_
     refine Vd [0, 1, 2, 3, 4] 0 (by kernel_rfl) O O O ?_
     refine zl0 5 1000 tR31 ts3 O (by kernel_rfl) O ha_s0 (by omega) (0) (by omega) O ?_
     generalize hR0 : zc7 a ps (qp, pub) s0 = R0
     refine Vd [6] 0 (by kernel_rfl) O O O ?_
     refine zm5 5 0 [(7, 46, [], false), (8, 38, [46], true), (9, 47, [46, 38], true), (10, 48, [46, 38], true), (11, 49, [46, 38], true), (12, 50, [46, 38], true), (13, 51, [46, 38], true), (14, 7, [], false), (15, 10, [], false)] (psi [(46, fun _ v hx => ∃ y : Y8, v = .tuple #[.agg #[.int .i64 R0.ac.mode, .int .i64 R0.ac.budget, .int .i64 R0.ac.spent, .slice y.1 R0.ac.left.length y.2.1, .slice y.2.2.1 R0.ac.asked.length y.2.2.2.1], .int .i64 R0.answer, .int .i64 R0.charge, .agg #[.slice y.2.2.2.2.1 R0.ob.1.length y.2.2.2.2.2.1, .int .i64 R0.ob.2], .int .i64 R0.code] /\ hx = [(902, aoY y.2.2.2.2.2.2 R0 y)]), (38, phM 46), (47, phX 38 0), (48, phX 38 1), (49, phX 38 2), (50, phX 38 3), (51, phX 38 4), (7, phA 7 [Value.int IntKind.i64 0, Value.int IntKind.i64 0, Value.int IntKind.i64 0, Value.slice none 0 0, Value.slice none 0 0] 37), (10, phA 10 [Value.slice none 0 0, Value.int IntKind.i64 0] 60)]) (by kernel_rfl) (by kernel_rfl) O O ⟨?_, ?_, ?_, ?_, ?_, ?_, ?_, ?_, ?_, True.intro⟩ ?_
     . exact zm4 O O (fun _ _ _ _ _ h => h) (fun val hn _ w hI => Does.call (F.call Tryz.call24 (yg O)) (jI (H := []) ((by have h := zcl a hA ps hz (qp, pub) (by dsimp only; omega) s0 _ _ _ _ D D1 D2 w (Tr1 hI.k1 ha) (Tr1 hI.k1 hps) (Tr1 hI.k1 hq) (Tr1 hI.k1 ht); rw [hR0] at h; exact zgE 902 h))))
     . exact MP.move 46 O O O
     . exact MP.ext 38 0 O O O (by decide) (fun _ => rfl) (fun val hn h => by obtain ⟨⟨_, e46, _⟩, ⟨e38, _⟩, _⟩ := h; exact ⟨_, _, e38.trans e46, rfl⟩)
     . exact MP.ext 38 1 O O O (by decide) (fun _ => rfl) (fun val hn h => by obtain ⟨⟨_, e46, _⟩, ⟨e38, _⟩, _⟩ := h; exact ⟨_, _, e38.trans e46, rfl⟩)
     . exact MP.ext 38 2 O O O (by decide) (fun _ => rfl) (fun val hn h => by obtain ⟨⟨_, e46, _⟩, ⟨e38, _⟩, _⟩ := h; exact ⟨_, _, e38.trans e46, rfl⟩)
     . exact MP.ext 38 3 O O O (by decide) (fun _ => rfl) (fun val hn h => by obtain ⟨⟨_, e46, _⟩, ⟨e38, _⟩, _⟩ := h; exact ⟨_, _, e38.trans e46, rfl⟩)
     . exact MP.ext 38 4 O O O (by decide) (fun _ => rfl) (fun val hn h => by obtain ⟨⟨_, e46, _⟩, ⟨e38, _⟩, _⟩ := h; exact ⟨_, _, e38.trans e46, rfl⟩)
     . exact MP.alloc 7 O O tz37 O O
     . exact MP.alloc 10 O O tz60 O O
     rintro val hn ⟨⟨⟨x1, x2, x3, x4, x5, x6, G0⟩, e46, n46⟩, ⟨e38, n38⟩, ⟨e47, n47⟩, ⟨e48, n48⟩, ⟨e49, n49⟩, ⟨e50, n50⟩, ⟨e51, n51⟩, ⟨b7, e7, n7⟩, ⟨b10, e10, n10⟩, _⟩
     have q38 := e38.trans e46
     have q47 := exq e47 q38 rfl
     have q48 := exq e48 q38 rfl
     have q49 := exq e49 q38 rfl
     have q50 := exq e50 q38 rfl
     have q51 := exq e51 q38 rfl
     refine zm7 [(3, some (3, 0)), (5, some (5, 0)), (28, some (5, 1)), (42, some (3, 3)), (44, some (1000, 0)), (7, some (7, 0)), (10, some (10, 0))] _ _ (yk e46 (yk q38 (yk q47 (yk q48 (yk q49 (yk q50 (yk q51 (yk e7 (yk e10 (rfl)))))))))) (xX n46 (xX n38 (xX n47 (xX n48 (xX n49 (xX n50 (xX n51 (xX n7 (xX n10 (rfl)))))))))) O O O ?_
     clear n46 q38 n38 q47 n47 q48 n48 q49 n49 q50 n50 q51 n51 n7 n10
     refine Ve 16 0 O (by kernel_rfl) O O O ?_
     refine Vd [17, 18] 0 (by kernel_rfl) O O O ?_
     refine Ve 19 0 O (by kernel_rfl) O O O ?_
     refine Vd [20] 0 (by kernel_rfl) O O O ?_
     refine zjI (by kernel_rfl) ?_
     refine Vs 6 O ?_
     refine zl7 Tryz.call20 O (fun w hI => zcj a (by omega) ps hz (qp, pub) _ _ _ _ D D1 D2 w (Tr1 hI.k1 ha) (Tr1 hI.k1 hps) (Tr1 hI.k1 hq) (Tr1 hI.k1 ht)) ?_
     refine Vs 17 O ?_
     refine zli (σ := Nat) [1, 3, 5, 9, 11, 12, 60, 61] [3, 5, 902] [3, 5] O (fun e i => (62, .int .i64 i) :: e) (fun e i => e) (fun i => i <= a.left.length) (fun i => a.left.length - i) (0) (zkg O) (zkh O) (fun _ => rfl) (fun _ => rfl) (fun _ => rfl) (Nat.zero_le _) ?_
     rintro i hi
     refine Vs 6 O ?_
     refine ziB O (fun hlt => ?_) (fun hlt => ?_)
     ·
      refine Vs 6 O ?_
      obtain ⟨s, he_s, hm_s⟩ := gE_ a.left (i) (by omega)
      obtain ⟨b_s, o_s, c_s, ha_s, _, hc_s, hR_s⟩ := hal.at he_s
      obtain rfl := hR_s
      refine zlf 2000 1 O O hc_s ?_
      refine zkZ 2000 tR31 ts3 O ha_s (by omega) (_) (rfl) O ?_
      have hany := zml (ps := ps) (q := (qp, pub)) hs0 hm_s
      have hleft := zmv (ps := ps) (a := a) (q := (qp, pub)) (s := s)
      generalize hR : zc7 a ps (qp, pub) s = RR at hany hleft
      rw [hR0] at hany
      refine Vs 10 O ?_
      refine zlw [] (Hn := fun y : Y8 => [(903, aoY y.2.2.2.2.2.2 RR y)]) [(3, some (3, 0)), (5, some (5, 0)), (64, some (2000, 0))] Tryz.call24 O (fun _ _ => rfl) (fun _ => rfl) (fun w hI => (by have h := zcl a hA ps hz (qp, pub) (by dsimp only; omega) s _ _ _ _ D D1 D2 w (Tr1 hI.k1 ha) (Tr1 hI.k1 hps) (Tr1 hI.k1 hq) (Tr1 hI.k1 ht); rw [hR] at h; exact zgE 903 h)) ?_
      rintro _ ⟨z1, z2, z3, z4, z5, z6, G1⟩ rfl
      refine Vs 6 O ?_
      refine V.alloc 16 tz37 O O (fun b16 => ?_)
      refine V.alloc 19 tz60 O O (fun b19 => ?_)
      refine Vs 13 O ?_
      refine zkt 80 O (fun g1 => ?_) (fun g1 => ?_)
      . exact absurd hany.1.symm g1
      ·
       refine Vs 5 O ?_
       refine zkt 85 O (fun g2 => ?_) (fun g2 => ?_)
       . exact absurd hany.2.1.symm g2
       ·
        refine Vs 3 O ?_
        refine zkt 88 O (fun g3 => ?_) (fun g3 => ?_)
        ·
         have hcc : RR.charge = zmy a ps (qp, pub) := (hleft (hany.1 ▸ g3)).2
         have hin : s ∈ RR.ac.left := (hleft (hany.1 ▸ g3)).1
         refine Vs 4 O ?_
         refine zkt 92 O (fun g4 => ?_) (fun g4 => ?_)
         . exact absurd hcc g4
         ·
          refine Vs 3 O ?_
          refine zl7 Tryz.call25 O (fun w hI => jY RR.ac.left s _ _ w (show RAc _ _ _ _ _ /\ _ from hI.at 903 O).1.left) ?_
          refine zkx O (fun w hI => zk0 O (by first | exact za | rfl)) ?_
          refine Vs 5 O ?_
          refine ziB O (fun g5 => ?_) (fun g5 => ?_)
          . exact absurd hin g5
          ·
           refine Va 7 O (by omega) ?_
           refine ziM (i + 1) (zkg O) (zkh O) (by omega) (by first | omega | (dsimp only; omega)) 0 O O
        ·
         refine Va 22 O (by omega) ?_
         refine ziM (i + 1) (zkg O) (zkh O) (by omega) (by first | omega | (dsimp only; omega)) 0 O O
     ·
      refine Vs 11 O ?_
      refine ziV Tryz.results5 O (fun w hI => ⟨_, rfl, rfl, hI.k1⟩)
end Go.Proofs.YtbkhagigkglgoaaGreatDoor
