/-
  Contracts and the mathematics that the proof needs. Nothing here is a claim.
-/
import Derived.Test.YtbkhagigkglgoaaGreatDoorKU5
import Derived.WalkKit
import Derived.Deep.Quiet
import Derived.Deep.LoopGhost
import Derived.Below
import Derived.OrdersHeld
import Derived.KernelRfl
import Derived.WalkSpells
import Derived.ChangeKeysEq
import Derived.Lib.SliceRun
import Derived.Test.YtbkhagigkglgoaaGreatDoorRows
import Derived.ProofKit
import Derived.OpenShut
import Derived.ReadAgain
import Derived.ChangeBears
import Derived.Laws.Strings
import Derived.Test.YtbkhagigkglgoaaGreatDoorProg
import Derived.Maps.RangeRun
import Derived.MapKept
import Derived.Lib.AppendStr
import Derived.Lib.SmallJoins
import Derived.Lib.Builder
import Derived.Lib.UnsafeStr
import Derived.Laws.Externs
import Derived.Lib.ItoaNum
import Derived.Lib.ItoaMem
import Derived.Shelf.Strings.BuilderK
import Derived.Shelf.LaysM
import Derived.Shelf.Strconv.Itoa3
import Derived.Lib.ItoaLen
import Derived.Shelf.SlSortCmp.WholeK
import Derived.Ground.SlsfProg
import Derived.Shelf.SlSortCmp.NoneTotal
import Derived.Handed
import Derived.LaidLaws
import Derived.Test.YtbkhagigkglgoaaGreatDoorTie
import Derived.Test.YtbkhagigkglgoaaGreatDoorCards
namespace Go.GL
abbrev WD.done := @zjG
abbrev G.done := @zjH
abbrev VD.done := @zjI
abbrev VDx.done := @zjJ
end Go.GL
namespace Go.Proofs.YtbkhagigkglgoaaGreatDoor
abbrev RpIn.done := @zjK
end Go.Proofs.YtbkhagigkglgoaaGreatDoor
namespace Go.GL
open Go.ChangeShapes Go.WideShapes Go.ChangeAt Go.RowKit
section
variable {H : Type} {enc : TypeId × Value -> H} {P : Program} {w w' W W' : World} {base : Nat} {sp : Nat -> Bool} {held : Bool}
theorem zmr {e e' : TypeId} {n : Nat} {cs : List Value} {y : DataW H × List MemPlace} (he : P.underlying e = some (.array 2 e')) (he' : P.underlying e' = some (.int .i64)) (hc' : P.cellsOf e' = 1) (hc : P.cellsOf e = 2) (h : DataW.trod enc P w base sp held n e cs = some y) : ∃ z, ze8 (fun _ => True) w z cs := by
 obtain ⟨xs, m, _, _, hl, hx, hat⟩ := DataW.trod_array he h
 rw [hc] at hl
 match cs, hl with
 | [u, v], _ =>
  have h0 := hat 0 (by decide)
  have h1 := hat 1 (by decide)
  obtain ⟨y0, hy0⟩ : ∃ y, xs[0]? = some y := ⟨_, zm8 (by omega)⟩
  obtain ⟨y1, hy1⟩ : ∃ y, xs[1]? = some y := ⟨_, zm8 (by omega)⟩
  rw [hy0, hc'] at h0
  rw [hy1, hc'] at h1
  obtain ⟨a, ha, _⟩ := DataW.trod_int he' h0
  obtain ⟨b, hb, _⟩ := DataW.trod_int he' h1
  simp at ha hb
  subst ha; subst hb
  exact ⟨(a, b), rfl⟩
end
theorem St.plainB_eq (s : St) : s.plainB = ((if s.act = 3 then true else if s.act = 4 then s.els.isEmpty else s.thn.isEmpty && s.els.isEmpty) && zei s.thn && zei s.els) := by cases s; rw [St.plainB]; rfl
theorem zmo {l : List St} (h : ∀ s ∈ l, s.plainB = true) : zei l = true := by
 induction l with
 | nil => rfl
 | cons x r ih => rw [zei, h x (zmc ..), ih (fun s hs => h s (zmb _ hs))]; rfl
end Go.GL
namespace Go.Proofs.YtbkhagigkglgoaaGreatDoor
open Go.GL
theorem zit {vs : List Vr} {nh : Nat} (l : List St) : ∀ top, zb vs nh l top = 0 -> zei l = true := by
 induction l using zk9 with
 | h l ih =>
 intro top h
 refine zmo (fun s hs => ?_)
 obtain ⟨last, h2⟩ := xl l top h s hs
 obtain ⟨h3, _, _, h4, h5⟩ := xN h2
 rw [s.plainB_eq, (ih s hs).1 _ h4, (ih s hs).2 _ h5, Bool.and_true, Bool.and_true]
 split
 . rfl
 ·
  split
  . rename_i a4; rw [(h3.rep a4).2.2]; rfl
  . rename_i a3 a4; rw [(h3.free a3 a4).1, (h3.free a3 a4).2]; rfl
theorem zmi {f : Fl} (h : zZ f = 0) : zei f.body = true := zit _ _ (yo h).2.2.2.1
section
variable {f : Fl} (V : Valid f)
include V
theorem Valid.plain : zei f.body = true := zmi V.ok
end
open Go.GL
theorem ziw {l : List Ob} (h : Asc l) : l.Nodup := h.imp fun {a b} h e => by rw [e, jH] at h; omega
theorem ziu {α : Type} [DecidableEq α] : ∀ {l l' : List α}, l.Nodup -> (∀ x ∈ l, x ∈ l') -> l.length <= l'.length
 | [], _, _, _ => Nat.zero_le _
 | x :: l, l', hn, hs => by
  rw [List.nodup_cons] at hn
  have hx := hs x (zmc ..)
  have h1 := ziu (l' := l'.erase x) hn.2 fun y hy => (List.mem_erase_of_ne (fun e : y = x => hn.1 (e ▸ hy))).2 (hs y (zmb _ hy))
  rw [List.length_erase_of_mem hx] at h1
  have := List.length_pos_of_mem hx
  rw [List.length_cons]; omega
theorem zmv {a : Ac} {ps : List Fl} {q : Qu} {s : Int} (h : (zc7 a ps q s).code = 0) (_ : ∀ i, zbq ps q.1 = none -> yU a ps q ≠ i \/ i ≠ 0) : ∃ f, zbq ps q.1 = some f /\ yU a ps q = 0 /\ s ∈ a.left /\ yi a f q <= a.budget.tdiv a.spent /\ zc7 a ps q s = zhK a f q s := by
 unfold zc7 at h ⊢
 by_cases h1 : yU a ps q = 0
 ·
  obtain ⟨_, f, hf, _⟩ := jW h1
  simp only [h1, ne_eq, not_true_eq_false, if_false] at h ⊢
  by_cases h2 : s ∈ a.left
  ·
   simp only [h2, not_true_eq_false, if_false, hf] at h ⊢
   split at h
   . cases h
   ·
    rename_i h3
    exact ⟨f, rfl, trivial, trivial, by omega, by rw [if_neg h3]⟩
  . rw [if_pos h2] at h; cases h
 . rw [if_pos h1] at h; exact absurd h h1
theorem zmp {f : Fl} {pub rs rs' : List Int} (h : ∀ s ∈ rs, s ∈ rs') : (zg0 f pub rs).length <= (zg0 f pub rs').length :=
 ziu (ziw (zc2 _)) fun o ho => by
  obtain ⟨s, hs, rfl⟩ := List.mem_map.1 (mem_distO.1 ho)
  exact zg1 (h s hs)
theorem zms {ps : List Fl} {a : Ac} {f : Fl} {q : Qu} (hf : zbq ps q.1 = some f) (hi : xU f a.left) (hA : Agree ps a) : ((zg0 f q.2 a.left).length : Int) <= yi a f q := by
 unfold yi
 split
 . exact Int.le_refl _
 ·
  split
  ·
   rename_i h2
   have : (zg0 f q.2 a.left).length <= ([obN f q.2 (a.left.headD 0)]).length := ziu (ziw (zc2 _)) fun o ho => by
    obtain ⟨s, hs, rfl⟩ := List.mem_map.1 (mem_distO.1 ho)
    cases hl : a.left with
    | nil => rw [hl] at hs; cases hs
    | cons x r => exact List.mem_singleton.2 (hA q h2 f hf s hs x (by rw [hl]; exact zmc ..))
   simp only [List.length_singleton] at this
   omega
  ·
   have := zmp (f := f) (pub := q.2) (rs := a.left) (rs' := zax f) fun s hs => mem_allR.2 (hi s hs)
   omega
theorem zix {α β : Type} [DecidableEq β] (P : β -> α -> Bool) (b : Int) (c : Int) (hc : 0 <= c) (hb : 0 <= b) : ∀ (ol : List β) (L : List α), (∀ t ∈ L, ∃ o ∈ ol, P o t = true) -> (∀ o ∈ ol, ((L.filter (P o)).length : Int) * c <= b) -> (L.length : Int) * c <= ol.length * b
 | [], L, h, _ => by
  cases L with
  | nil => simp
  | cons x r => obtain ⟨o, ho, _⟩ := h x (zmc ..); cases ho
 | o :: r, L, h, h2 => by
  have h3 := zix P b c hc hb r (L.filter fun t => !P o t) (fun t ht => by
   obtain ⟨h4, h5⟩ := List.mem_filter.1 ht
   obtain ⟨o', ho', h6⟩ := h t h4
   rcases List.mem_cons.1 ho' with rfl | ho'
   . rw [h6] at h5; cases h5
   . exact ⟨o', ho', h6⟩) (fun o' ho' => by
   have h7 := h2 o' (zmb _ ho')
   have h8 : ((L.filter fun t => !P o t).filter (P o')).length <= (L.filter (P o')).length := by
    rw [List.filter_filter, show (L.filter fun a => P o' a && !P o a) = (L.filter (P o')).filter (fun a => !P o a) by rw [List.filter_filter]; congr 1; funext a; exact Bool.and_comm _ _]
    exact List.length_filter_le _ _
   have h9 : (((L.filter fun t => !P o t).filter (P o')).length : Int) * c <= ((L.filter (P o')).length : Int) * c := Int.mul_le_mul_of_nonneg_right (by omega) hc
   omega)
  have h10 := h2 o (zmc ..)
  have h11 : (L.filter (P o)).length + (L.filter fun t => !P o t).length = L.length := by
   clear h h2 h3 h10
   induction L with
   | nil => rfl
   | cons x L ih => cases hp : P o x <;> simp [hp] <;> omega
  have h12 : (L.length : Int) * c = ((L.filter (P o)).length : Int) * c + ((L.filter fun t => !P o t).length : Int) * c := by rw [<- Int.add_mul]; congr 1; omega
  rw [h12, List.length_cons]
  have h13 : ((r.length + 1 : Nat) : Int) * b = r.length * b + b := by rw [Int.natCast_add, Int.add_mul]; simp
  omega
def zmy (r : Res) : Int := if r.code = 0 then 100 + r.answer % 65536 else r.code
def goN (t : Nn) (r : Res) : Option Int := t.next[((zmy r % 65536) % t.next.length).toNat]?
def trN (ps : List Fl) (T : List Nn) : Nat -> Ac -> Nat -> Int -> List Int
 | 0, _, _, _ => []
 | n + 1, a, i, s => match T[i]? with
  | none => []
  | some t => let r := zc7 a ps t.q s
   r.code :: r.answer :: r.charge :: (if t.next = [] then [] else match goN t r with
    | none => []
    | some j => if j <= i then [] else trN ps T n (if r.code = 0 then r.ac else a) j.toNat s)
theorem zmh {α β : Type} {g : α -> β} {l : List α} (hn : l.Nodup) (hg : ∀ x ∈ l, ∀ y ∈ l, g x = g y -> x = y) : (l.map g).Nodup := by
 induction l with
 | nil => exact List.Pairwise.nil
 | cons x r ih =>
  rw [List.nodup_cons] at hn
  rw [List.map_cons, List.nodup_cons]
  refine ⟨fun h => ?_, ih hn.2 fun a ha b hb => hg a (zmb _ ha) b (zmb _ hb)⟩
  obtain ⟨y, hy, he⟩ := List.mem_map.1 h
  exact hn.1 (hg y (zmb _ hy) x (zmc ..) he ▸ hy)
theorem ziv {α : Type} {L : List α} {x : α} (hn : L.Nodup) (h : ∀ t ∈ L, t = x) : L.length <= 1 := by
 match L, hn, h with
 | [], _, _ => exact Nat.zero_le _
 | [_], _, _ => exact Nat.le_refl _
 | a :: b :: r, hn, h => exact absurd ((h a (by simp)).trans (h b (by simp)).symm) (fun e => (List.nodup_cons.1 hn).1 (by simp [e]))
theorem zmt {a : Ac} {ps : List Fl} {q : Qu} {s t : Int} (hs : s ∈ a.left) (ht : t ∈ a.left) : (zc7 a ps q s).code = (zc7 a ps q t).code /\ (zc7 a ps q s).charge = (zc7 a ps q t).charge /\ ((zc7 a ps q s).code ≠ 0 -> zc7 a ps q s = zc7 a ps q t) := by
 unfold zc7
 by_cases h : yU a ps q = 0
 ·
  simp only [h, hs, ht, ne_eq, not_true_eq_false, if_false]
  cases zbq ps q.1 with
  | none => exact ⟨rfl, rfl, fun _ => rfl⟩
  | some f =>
   simp only
   split
   . exact ⟨rfl, rfl, fun _ => rfl⟩
   . exact ⟨rfl, rfl, fun h => absurd O h⟩
 ·
  rw [if_pos h, if_pos h]
  exact ⟨rfl, rfl, fun _ => rfl⟩
theorem zmq {l : List Ob} {o p : Ob} (ho : o ∈ l) (hp : p ∈ l) (h : zh5 l o = zh5 l p) : o = p := by
 unfold zh5 at h
 rw [if_pos ho, if_pos hp] at h
 have h1 : ∀ o, o ∈ l -> l[l.findIdx (fun x => decide (x = o))]? = some o := fun o ho => by
  have hlt : l.findIdx (fun x => decide (x = o)) < l.length := List.findIdx_lt_length_of_exists ⟨o, ho, by simp⟩
  rw [zm8 hlt]
  have := List.findIdx_getElem (w := hlt)
  simpa using this
 have h2 := h1 o ho
 rw [show l.findIdx (fun x => decide (x = o)) = l.findIdx (fun x => decide (x = p)) by omega, h1 p hp] at h2
 exact (Option.some.inj h2).symm
theorem zmw (ps : List Fl) (T : List Nn) : ∀ (n : Nat) (a : Ac) (i : Nat) (L : List (List Int)), ValidA a -> Agree ps a -> L.Nodup -> (∀ t ∈ L, ∃ s ∈ a.left, t = trN ps T n a i s) -> (L.length : Int) * a.spent <= a.budget
 | 0, a, i, L, hv, _, hn, h => by
  have h1 := ziv (x := []) hn fun t ht => by obtain ⟨s, _, e⟩ := h t ht; exact e
  have h2 : (L.length : Int) * a.spent <= 1 * a.spent := Int.mul_le_mul_of_nonneg_right (by omega) (by have := hv.s1; omega)
  have := hv.s2
  omega
 | n + 1, a, i, L, hv, hA, hn, h => by
  have hs1 := hv.s1
  have hs2 := hv.s2
  have hone : L.length <= 1 -> (L.length : Int) * a.spent <= a.budget := fun h1 => by
   have h2 : (L.length : Int) * a.spent <= 1 * a.spent := Int.mul_le_mul_of_nonneg_right (by omega) (by omega)
   omega
  cases ht : T[i]? with
  | none => exact hone (ziv (x := []) hn fun t ht' => by obtain ⟨s, _, e⟩ := h t ht'; rw [e, trN, ht])
  | some t =>
   have htr : ∀ s, trN ps T (n + 1) a i s = (zc7 a ps t.q s).code :: (zc7 a ps t.q s).answer :: (zc7 a ps t.q s).charge :: (if t.next = [] then [] else match goN t (zc7 a ps t.q s) with
    | none => []
    | some j => if j <= i then [] else trN ps T n (if (zc7 a ps t.q s).code = 0 then (zc7 a ps t.q s).ac else a) j.toNat s) := fun s => by rw [trN, ht]
   obtain ⟨s0, hs0⟩ : ∃ s, s ∈ a.left := ⟨a.left[0]'hv.l1, List.getElem_mem _⟩
   by_cases hc : (zc7 a ps t.q s0).code = 0
   ·
    obtain ⟨f, hf, hq, _, hp, _⟩ := zmv hc (fun i hg => by
     by_cases hi : i = 0
     ·
      left
      intro e
      obtain ⟨_, f, hf, _⟩ := jW (e.trans hi)
      rw [hg] at hf; cases hf
     ·
      exact .inr hi)
    obtain ⟨_, f', hf', _, _, hin⟩ := jW hq
    rw [hf] at hf'
    cases hf'
    have hr : ∀ s ∈ a.left, zc7 a ps t.q s = zhK a f t.q s := fun s hs => by
     unfold zc7
     rw [if_neg (not_not_intro hq), if_neg (not_not_intro hs), hf]
     simp only
     rw [if_neg (by omega)]
    have hpp := zc8 (q := t.q) hv hin
    have hge := zms hf hin hA
    have hparts := zix (fun (o : Ob) (u : List Int) => decide (u[1]? = some (zh5 (zg0 f t.q.2 (zax f)) o))) a.budget (a.spent * yi a f t.q) (Int.mul_nonneg (by omega) (by omega)) (by have := hv.b1; omega) (zg0 f t.q.2 a.left) L (fun u hu => by
     obtain ⟨s, hs, rfl⟩ := h u hu
     refine ⟨obN f t.q.2 s, zg1 hs, ?_⟩
     rw [htr, hr s hs]
     simp [zhK]) (fun o ho => by
     obtain ⟨so, hso, hoe⟩ := List.mem_map.1 (mem_distO.1 ho)
     have hval : ValidA (zeQ a f t.q (yi a f t.q) o) := hoe ▸ hv.ans hso hin hp
     have hL : ∀ u ∈ L.filter (fun u => decide (u[1]? = some (zh5 (zg0 f t.q.2 (zax f)) o))), ∃ s ∈ a.left, obN f t.q.2 s = o /\ u = trN ps T (n + 1) a i s := fun u hu => by
      obtain ⟨h1, h2⟩ := List.mem_filter.1 hu
      obtain ⟨s, hs, rfl⟩ := h u h1
      refine ⟨s, hs, ?_, rfl⟩
      have h2 := of_decide_eq_true h2
      rw [htr, hr s hs] at h2
      have h3 : zh5 (zg0 f t.q.2 (zax f)) (obN f t.q.2 s) = zh5 (zg0 f t.q.2 (zax f)) o := by simpa [zhK] using h2
      exact zmq (zg1 (mem_allR.2 (hin s hs))) (hoe ▸ zg1 (mem_allR.2 (hin so hso))) h3
     have hnL : (L.filter (fun u => decide (u[1]? = some (zh5 (zg0 f t.q.2 (zax f)) o)))).Nodup := hn.filter _
     generalize L.filter (fun u => decide (u[1]? = some (zh5 (zg0 f t.q.2 (zax f)) o))) = M at hL hnL ⊢
     have hdrop : ∀ s ∈ a.left, obN f t.q.2 s = o -> trN ps T (n + 1) a i s = [0, zh5 (zg0 f t.q.2 (zax f)) o, yi a f t.q] ++ (trN ps T (n + 1) a i s).drop 3 := fun s hs he => by
      rw [htr, hr s hs, <- he]
      simp [zhK]
     have hnM : (M.map (List.drop 3)).Nodup := zmh hnL fun u hu v hv' e => by
      obtain ⟨s, hs, h1, rfl⟩ := hL u hu
      obtain ⟨s', hs', h1', rfl⟩ := hL v hv'
      rw [hdrop s hs h1, hdrop s' hs' h1', e]
     have hrest : ∀ s ∈ a.left, obN f t.q.2 s = o -> (trN ps T (n + 1) a i s).drop 3 = (if t.next = [] then [] else match t.next[(((100 + zh5 (zg0 f t.q.2 (zax f)) o % 65536) % 65536) % t.next.length).toNat]? with
       | none => []
       | some j => if j <= i then [] else trN ps T n (zeQ a f t.q (yi a f t.q) o) j.toNat s) := fun s hs he => by
      rw [htr, hr s hs]
      simp only [List.drop_succ_cons, List.drop_zero, zhK, if_true, he, goN, zmy]
     have hfin : (((M.map (List.drop 3)).length : Nat) : Int) * (zeQ a f t.q (yi a f t.q) o).spent <= (zeQ a f t.q (yi a f t.q) o).budget := by
      have hd : (∃ x, ∀ s ∈ a.left, obN f t.q.2 s = o -> (trN ps T (n + 1) a i s).drop 3 = x) \/ ∃ j : Nat, ∀ s ∈ a.left, obN f t.q.2 s = o -> (trN ps T (n + 1) a i s).drop 3 = trN ps T n (zeQ a f t.q (yi a f t.q) o) j s := by
       by_cases hx : t.next = []
       . exact .inl ⟨[], fun s hs he => by rw [hrest s hs he, if_pos hx]⟩
       ·
        cases hj : t.next[(((100 + zh5 (zg0 f t.q.2 (zax f)) o % 65536) % 65536) % t.next.length).toNat]? with
        | none => exact .inl ⟨[], fun s hs he => by rw [hrest s hs he, if_neg hx, hj]⟩
        | some j =>
         by_cases hji : j <= i
         . exact .inl ⟨[], fun s hs he => by rw [hrest s hs he, if_neg hx, hj]; simp only; rw [if_pos hji]⟩
         . exact .inr ⟨j.toNat, fun s hs he => by rw [hrest s hs he, if_neg hx, hj]; simp only; rw [if_neg hji]⟩
      rcases hd with ⟨x, hx⟩ | ⟨j, hj⟩
      ·
       have h1 := ziv (x := x) hnM fun u hu => by
        obtain ⟨v, hv', rfl⟩ := List.mem_map.1 hu
        obtain ⟨s, hs, he, rfl⟩ := hL v hv'
        exact hx s hs he
       have h2 : (((M.map (List.drop 3)).length : Nat) : Int) * (zeQ a f t.q (yi a f t.q) o).spent <= 1 * (zeQ a f t.q (yi a f t.q) o).spent := Int.mul_le_mul_of_nonneg_right (by omega) (by have := hval.s1; omega)
       have := hval.s2
       omega
      ·
       refine zmw ps T n _ j _ hval (hA.ans hf) hnM fun u hu => ?_
       obtain ⟨v, hv', rfl⟩ := List.mem_map.1 hu
       obtain ⟨s, hs, he, rfl⟩ := hL v hv'
       exact ⟨s, List.mem_filter.2 ⟨hs, decide_eq_true he⟩, hj s hs he⟩
     rw [List.length_map] at hfin
     exact hfin)
    have h1 : ((zg0 f t.q.2 a.left).length : Int) * a.budget <= yi a f t.q * a.budget := Int.mul_le_mul_of_nonneg_right hge (by have := hv.b1; omega)
    have h2 : (L.length : Int) * (a.spent * yi a f t.q) = yi a f t.q * ((L.length : Int) * a.spent) := by
     rw [<- Int.mul_assoc, Int.mul_comm]
    rw [h2] at hparts
    exact Int.le_of_mul_le_mul_left (Int.le_trans hparts h1) (by omega)
   ·
    have hr : ∀ s ∈ a.left, zc7 a ps t.q s = zc7 a ps t.q s0 := fun s hs => ((zmt hs0 hs).2.2 hc).symm
    have hpre : ∀ s ∈ a.left, trN ps T (n + 1) a i s = [(zc7 a ps t.q s0).code, (zc7 a ps t.q s0).answer, (zc7 a ps t.q s0).charge] ++ (trN ps T (n + 1) a i s).drop 3 := fun s hs => by
     rw [htr, hr s hs]; simp
    have hnM : (L.map (List.drop 3)).Nodup := zmh hn fun u hu v hv' e => by
     obtain ⟨s, hs, rfl⟩ := h u hu
     obtain ⟨s', hs', rfl⟩ := h v hv'
     rw [hpre s hs, hpre s' hs', e]
    have hrest : ∀ s ∈ a.left, (trN ps T (n + 1) a i s).drop 3 = (if t.next = [] then [] else match goN t (zc7 a ps t.q s0) with
       | none => []
       | some j => if j <= i then [] else trN ps T n a j.toNat s) := fun s hs => by
     rw [htr, hr s hs]
     simp only [List.drop_succ_cons, List.drop_zero, if_neg hc]
    have hd : (∃ x, ∀ s ∈ a.left, (trN ps T (n + 1) a i s).drop 3 = x) \/ ∃ j : Nat, ∀ s ∈ a.left, (trN ps T (n + 1) a i s).drop 3 = trN ps T n a j s := by
     by_cases hx : t.next = []
     . exact .inl ⟨[], fun s hs => by rw [hrest s hs, if_pos hx]⟩
     ·
      cases hj : goN t (zc7 a ps t.q s0) with
      | none => exact .inl ⟨[], fun s hs => by rw [hrest s hs, if_neg hx, hj]⟩
      | some j =>
       by_cases hji : j <= i
       . exact .inl ⟨[], fun s hs => by rw [hrest s hs, if_neg hx, hj]; simp only; rw [if_pos hji]⟩
       . exact .inr ⟨j.toNat, fun s hs => by rw [hrest s hs, if_neg hx, hj]; simp only; rw [if_neg hji]⟩
    rw [<- List.length_map (List.drop 3)]
    rcases hd with ⟨x, hx⟩ | ⟨j, hj⟩
    ·
     have h1 := ziv (x := x) hnM fun u hu => by
      obtain ⟨v, hv', rfl⟩ := List.mem_map.1 hu
      obtain ⟨s, hs, rfl⟩ := h v hv'
      exact hx s hs
     have h2 : (((L.map (List.drop 3)).length : Nat) : Int) * a.spent <= 1 * a.spent := Int.mul_le_mul_of_nonneg_right (by omega) (by omega)
     omega
    ·
     refine zmw ps T n a j _ hv hA hnM fun u hu => ?_
     obtain ⟨v, hv', rfl⟩ := List.mem_map.1 hu
     obtain ⟨s, hs, rfl⟩ := h v hv'
     exact ⟨s, hs, hj s hs⟩
theorem zmj (a : Ac) (u1 u2 : Value) (D : Nat -> Prop) (W : World) (ha : RAc D W a u1 u2) : Calls Tryz.prog 23 #[.agg #[.int .i64 a.mode, .int .i64 a.budget, .int .i64 a.spent, u1, u2]] W (Ret fun r w' => r = .bool (decide (ValidA a)) /\ Ext W w') := by
 have hl := ha.left
 obtain ⟨al, cl, rfl⟩ := hl.form
 obtain ⟨aq, cq, hq⟩ := ha.asked.form
 subst hq
 have hmx := hl.max
 refine zkG Tryz.func23 O Tryz.ntmps23 O (zkS ?_)
 refine Vs 2 O ?_
 refine V.box 1 O O (fun b1 => ?_)
 refine Vs 5 O ?_
 refine zlj (σ := Unit) [1] [1] [1] O (fun e u => (46, .bool (decide (zhg a \/ a.left.length < 1 \/ 4096 < a.left.length))) :: e) (fun e u => e) (fun u => True) (fun _ => rfl) (fun _ => rfl) ?_ ?_
 ·
  refine Vs 5 O ?_
  refine zkt 8 O (fun k1_ => ?_) (fun k1_ => ?_)
  ·
   refine Vs 5 O ?_
   refine zkt 13 O (fun k2_ => ?_) (fun k2_ => ?_)
   ·
    refine Vs 34 O ?_
    refine ziR (()) (Sub.cons (by first | exact xp (by omega) | exact xq (by omega) | exact xr (by omega)) (zkg O)) (zkh O) (trivial) 0 O O
   ·
    refine Vs 5 O ?_
    refine zkt 18 O (fun k3_ => ?_) (fun k3_ => ?_)
    ·
     refine Vs 29 O ?_
     refine ziR (()) (Sub.cons (by first | exact xp (by omega) | exact xq (by omega) | exact xr (by omega)) (zkg O)) (zkh O) (trivial) 0 O O
    ·
     refine Vs 5 O ?_
     refine zkt 23 O (fun k4_ => ?_) (fun k4_ => ?_)
     ·
      refine Vs 24 O ?_
      refine ziR (()) (Sub.cons (by first | exact xp (by omega) | exact xq (by omega) | exact xr (by omega)) (zkg O)) (zkh O) (trivial) 0 O O
     ·
      refine Vs 5 O ?_
      refine zkt 28 O (fun k5_ => ?_) (fun k5_ => ?_)
      ·
       refine Vs 19 O ?_
       refine ziR (()) (Sub.cons (by first | exact xp (by omega) | exact xq (by omega) | exact xr (by omega)) (zkg O)) (zkh O) (trivial) 0 O O
      ·
       refine Vs 7 O ?_
       refine zkt 35 O (fun k6_ => ?_) (fun k6_ => ?_)
       ·
        refine Vs 12 O ?_
        refine ziR (()) (Sub.cons (by first | exact xp (by omega) | exact xq (by omega) | exact xr (by omega)) (zkg O)) (zkh O) (trivial) 0 O O
       ·
        refine Vs 6 O ?_
        refine zkt 41 O (fun k7_ => ?_) (fun k7_ => ?_)
        ·
         refine Vs 6 O ?_
         refine ziR (()) (Sub.cons (by first | exact xp (by omega) | exact xq (by omega) | exact xr (by omega)) (zkg O)) (zkh O) (trivial) 0 O O
        ·
         refine Vs 6 O ?_
         refine ziR (()) (Sub.cons (by first | exact xp (by omega) | exact xq (by omega) | exact xr (by omega)) (zkg O)) (zkh O) (trivial) 0 O O
  ·
   refine Vs 10 O ?_
   refine zkt 18 O (fun k2_ => ?_) (fun k2_ => ?_)
   ·
    refine Vs 29 O ?_
    refine ziR (()) (Sub.cons (by first | exact xp (by omega) | exact xq (by omega) | exact xr (by omega)) (zkg O)) (zkh O) (trivial) 0 O O
   ·
    refine Vs 5 O ?_
    refine zkt 23 O (fun k3_ => ?_) (fun k3_ => ?_)
    ·
     refine Vs 24 O ?_
     refine ziR (()) (Sub.cons (by first | exact xp (by omega) | exact xq (by omega) | exact xr (by omega)) (zkg O)) (zkh O) (trivial) 0 O O
    ·
     refine Vs 5 O ?_
     refine zkt 28 O (fun k4_ => ?_) (fun k4_ => ?_)
     ·
      refine Vs 19 O ?_
      refine ziR (()) (Sub.cons (by first | exact xp (by omega) | exact xq (by omega) | exact xr (by omega)) (zkg O)) (zkh O) (trivial) 0 O O
     ·
      refine Vs 7 O ?_
      refine zkt 35 O (fun k5_ => ?_) (fun k5_ => ?_)
      ·
       refine Vs 12 O ?_
       refine ziR (()) (Sub.cons (by first | exact xp (by omega) | exact xq (by omega) | exact xr (by omega)) (zkg O)) (zkh O) (trivial) 0 O O
      ·
       refine Vs 6 O ?_
       refine zkt 41 O (fun k6_ => ?_) (fun k6_ => ?_)
       ·
        refine Vs 6 O ?_
        refine ziR (()) (Sub.cons (by first | exact xp (by omega) | exact xq (by omega) | exact xr (by omega)) (zkg O)) (zkh O) (trivial) 0 O O
       ·
        refine Vs 6 O ?_
        refine ziR (()) (Sub.cons (by first | exact xp (by omega) | exact xq (by omega) | exact xr (by omega)) (zkg O)) (zkh O) (trivial) 0 O O
 rintro u _
 refine Vs 1 O ?_
 refine ziB O (fun c0 => ?_) (fun c0 => ?_)
 ·
  rcases c0 with c1 | c2
  ·
   refine Vs 7 O ?_
   refine ziV Tryz.results23 O (fun w hI => ⟨_, rfl, by rw [zhh c1], hI.k0⟩)
  ·
   refine Vs 7 O ?_
   refine ziV Tryz.results23 O (fun w hI => ⟨_, rfl, by rw [zhP c2], hI.k0⟩)
 ·
  have c1 : ¬ zhg a := fun h => c0 (.inl h)
  have c2 : ¬ (a.left.length < 1 \/ 4096 < a.left.length) := fun h => c0 (.inr h)
  refine Vs 12 O ?_
  refine zli (σ := Nat) [1, 48, 49] [1] [1] O (fun e i => (50, .int .i64 i) :: e) (fun e i => e) (fun i => AscT a.left i) (fun i => a.left.length - i) (0) (zkg O) (zkh O) (fun _ => rfl) (fun _ => rfl) (fun _ => rfl) (⟨Nat.zero_le _, by simp, by simp⟩) ?_
  rintro i hA
  have hle := hA.le
  refine Vs 6 O ?_
  refine ziB O (fun hlt => ?_) (fun hlt => ?_)
  ·
   refine Vs 7 O ?_
   obtain ⟨x, he_x, hm_x⟩ := gE_ a.left (i) (by omega)
   obtain ⟨b_x, o_x, c_x, ha_x, _, hc_x, hR_x⟩ := hl.at he_x
   obtain rfl := hR_x
   refine zlf 1000 0 O O hc_x ?_
   refine zkZ 1000 tR31 ts3 O ha_x (by omega) (_) (rfl) O ?_
   refine Vs 10 O ?_
   refine zkt 57 O (fun b1 => ?_) (fun b1 => ?_)
   ·
    refine Vs 31 O ?_
    refine ziV Tryz.results23 O (fun w hI => ⟨_, rfl, by rw [zgC he_x (.inl b1)], hI.k0⟩)
   ·
    refine Vs 4 O ?_
    refine zkt 61 O (fun b2 => ?_) (fun b2 => ?_)
    ·
     refine Vs 27 O ?_
     refine ziV Tryz.results23 O (fun w hI => ⟨_, rfl, by rw [zgC he_x (.inr b2)], hI.k0⟩)
    ·
     refine Vs 3 O ?_
     refine zkt 64 O (fun b3 => ?_) (fun b3 => ?_)
     ·
      obtain ⟨y, he_y, hm_y⟩ := gE_ a.left (i-1) (by omega)
      obtain ⟨b_y, o_y, c_y, ha_y, _, hc_y, hR_y⟩ := hl.at he_y
      obtain rfl := hR_y
      refine zlf 2000 0 O O hc_y ?_
      refine Va 5 O (by omega) ?_
      refine zkZ 2000 tR31 ts3 O ha_y (by omega) (i - 1) (by omega) O ?_
      refine Vs 6 O ?_
      refine ziB O (fun b4 => ?_) (fun b4 => ?_)
      ·
       refine Vs 11 O ?_
       refine ziV Tryz.results23 O (fun w hI => ⟨_, rfl, by rw [zhQ (by omega) he_x he_y b4], hI.k0⟩)
      ·
       refine Va 7 O (by omega) ?_
       refine ziM (i + 1) (zkg O) (zkh O) (hA.next he_x (by omega) fun p _ hp => by rw [he_y] at hp; cases hp; omega) (by first | omega | (dsimp only; omega)) 0 O O
     ·
      refine Va 20 O (by omega) ?_
      refine ziM (i + 1) (zkg O) (zkh O) (hA.next he_x (by omega) fun p h0 _ => absurd h0 (by omega)) (by first | omega | (dsimp only; omega)) 0 O O
  ·
   obtain rfl : i = a.left.length := by omega
   refine Vs 11 O ?_
   refine ziV Tryz.results23 O (fun w hI => ⟨_, rfl, by rw [zf8 c1 c2 hA], hI.k0⟩)
open Go.GL Go.ChangeShapes Go.WideShapes Go.ChangeAt Go.RowKit
section
variable {H : Type} {enc : TypeId × Value -> H} {w : World} {base : Nat} {sp : Nat -> Bool} {held : Bool}
set_option maxRecDepth 100000 in
theorem zmu {r : Reach} {b0 : Nat} {v : Value} {d : DataW H} {ps : List MemPlace} (hval : Value.okWide Tryz.prog w r b0 65 v) (hd : DataW.Trod enc Tryz.prog w base sp held 65 v d ps) :
  ∃ (a b : Int), v = .agg #[.int .i64 a, .int .i64 b] := by
 unfold Value.okWide at hval
 rw [Tryz.underlying65] at hval
 obtain ⟨cs, rfl, hsz, _⟩ := hval
 obtain ⟨k, hn⟩ := hd
 obtain ⟨z, hz⟩ := zmr (w := w) Tryz.underlying65 tu3 zaP (by kernel_rfl) hn
 have hz' : (Value.agg cs).cells.toList = [.int .i64 z.1, .int .i64 z.2] := hz
 simp [Value.cells] at hz'
 exact ⟨z.1, z.2, by rw [<- hz']⟩
end
open Go.GL
structure TrB (b : Ac) (m : Nat) : Prop where
 ll : b.left.length <= 5000
 al : b.asked.length <= m
 ql : ∀ p ∈ b.asked, p.2.length <= 17592186044416
theorem zmm {m b n : Int} (h : zfs m b n = 0) : (m = 0 \/ m = 1) /\ 1 <= b /\ b <= 1048576 /\ 1 <= n /\ n <= 4096 := by
 unfold zfs at h
 split at h
 . cases h
 ·
  rename_i h1
  split at h
  . cases h
  . exact ⟨Decidable.not_not.1 h1, by omega⟩
theorem zmk {m b n : Int} (h : zfs m b n = 0) : zft m b n = ⟨m, b, 1, qm n.toNat, []⟩ := if_pos h
theorem mem_rangeL {n : Nat} {x : Int} : x ∈ qm n ↔ 0 <= x /\ x < (n : Int) := by
 unfold qm
 rw [List.mem_map]
 constructor
 ·
  rintro ⟨i, hi, rfl⟩
  rw [List.mem_range] at hi
  omega
 ·
  intro h
  exact ⟨x.toNat, List.mem_range.2 (by omega), by omega⟩
theorem zmn (n : Nat) : (qm n).Pairwise (· < ·) := by
 unfold qm
 rw [List.pairwise_map]
 exact List.pairwise_lt_range.imp fun h => by omega
structure RunA (ps : List Fl) (a : Ac) (k : Nat) : Prop where
 ok : ValidA a
 ag : Agree ps a
 tr : TrB a k
theorem zmz {m b n : Int} (ps : List Fl) (h : zfs m b n = 0) : RunA ps (zft m b n) 0 := by
 obtain ⟨h1, h2, h3, h4, h5⟩ := zmm h
 rw [zmk h]
 have hl := ze3 n.toNat
 exact ⟨⟨h1, h2, h3, Int.le_refl _, h2, by rw [hl]; omega, by rw [hl]; omega, fun x hx => by have := mem_rangeL.1 hx; omega, zmn _⟩, fun q hq => by (cases hq), ⟨by rw [hl]; omega, Nat.le_refl _, fun q hq => by (cases hq)⟩⟩
def zmx (m : Int) (a : Ac) : Ac := ⟨m, a.budget, a.spent, a.left, a.asked⟩
theorem RAc.md {D : Nat -> Prop} {w : World} {a : Ac} {u1 u2 : Value} (h : RAc D w a u1 u2) (m : Int) : RAc D w (zmx m a) u1 u2 := ⟨h.left, h.asked⟩
theorem RunA.md {ps : List Fl} {a : Ac} {k : Nat} (h : RunA ps a k) {m : Int} (hm : m = 0 \/ m = 1) : ValidA (zmx m a) := ⟨hm, h.ok.b1, h.ok.b2, h.ok.s1, h.ok.s2, h.ok.l1, h.ok.l2, h.ok.rng, h.ok.asc⟩
structure KrIn (ps : List Fl) (T : List Nn) (a : Ac) (i : Nat) (L : List (List Int)) : Prop where
 le : L.length <= i
 nd : L.Nodup
 all : ∀ t ∈ L, ∃ s ∈ a.left, t = trN ps T T.length a 0 s
theorem zmA {ps : List Fl} {T : List Nn} {a : Ac} : KrIn ps T a 0 [] := ⟨Nat.le_refl _, List.Pairwise.nil, fun t ht => by cases ht⟩
theorem KrIn.old {ps : List Fl} {T : List Nn} {a : Ac} {i : Nat} {L : List (List Int)} (h : KrIn ps T a i L) : KrIn ps T a (i + 1) L := ⟨Nat.le_succ_of_le h.le, h.nd, h.all⟩
theorem KrIn.new {ps : List Fl} {T : List Nn} {a : Ac} {i : Nat} {L : List (List Int)} (h : KrIn ps T a i L) {s : Int} (hs : s ∈ a.left) (hn : trN ps T T.length a 0 s ∉ L) : KrIn ps T a (i + 1) (L ++ [trN ps T T.length a 0 s]) := by
 refine ⟨by rw [zmg]; have := h.le; simp only [List.length_singleton]; omega, ?_, fun t ht => ?_⟩
 ·
  rw [List.nodup_append]
  exact ⟨h.nd, List.pairwise_singleton _ _, fun x hx y hy e => hn (by rw [<- List.mem_singleton.1 hy, <- e]; exact hx)⟩
 ·
  rcases List.mem_append.1 ht with ht | ht
  . exact h.all t ht
  . exact ⟨s, hs, List.mem_singleton.1 ht⟩
theorem KrIn.done {ps : List Fl} {T : List Nn} {m b n : Int} {i : Nat} {L : List (List Int)} (hc : zfs m b n = 0) (h : KrIn ps T (zft m b n) i L) : (L.length : Int) <= b := by
 have hr := zmz ps hc
 have h1 := zmw ps T T.length _ 0 L hr.ok hr.ag h.nd h.all
 rw [zmk hc] at h1
 simp only at h1
 omega
theorem zml (m b n : Int) (a : Ac) (u1 u2 : Value) (D : Nat -> Prop) (W : World) (ha : RAc D W a u1 u2) (ht : Tab W) :
  Calls Tryz.prog 7 #[.int .i64 m, .agg #[.int .i64 b, .int .i64 n], .agg #[.int .i64 a.mode, .int .i64 a.budget, .int .i64 a.spent, u1, u2]] W (Ret fun r w' => r = .bool true /\ Ext W w') := by
 obtain ⟨a1, c1, h1⟩ := ha.left.form
 obtain ⟨a2, c2, h2⟩ := ha.asked.form
 subst h1 h2
 refine zkI Tryz.func7 O Tryz.ntmps7 O (zkS ?_)
 refine Vs 2 O ?_
 refine V.box 4 O O (fun b4 => ?_)
 refine V.box 5 O O (fun b5 => ?_)
 refine Vs 6 O ?_
 refine zl7 Tryz.call12 O (fun w hI => ze4 w (Tr1 hI.k0 ht)) ?_
 refine zkx O (fun w hI => zk0 O (by first | exact za | rfl)) ?_
 refine Vs 2 O ?_
 refine V.bool O (fun k0 => ?_) (fun k0 => ?_)
 . cases k0
 ·
  refine Vs 11 O ?_
  refine ziB O (fun l0 => ?_) (fun l0 => ?_)
  ·
   refine Vs 7 O ?_
   refine ziV Tryz.results7 O (fun w hI => ⟨_, rfl, rfl, hI.k0⟩)
  ·
   refine Vs 9 O ?_
   refine zl9 Tryz.call14 O (fun w hI => zhU m b n w) ?_
   rintro rA wA wB hIA hkAB ⟨r1, r2, rfl, hac, hnil⟩ hlow
   obtain ⟨x1, y1, e1⟩ := hac.left.form
   obtain ⟨x2, y2, e2⟩ := hac.asked.form
   subst e1 e2
   refine Vs 3 O ?_
   refine V.alloc 7 tz37 O O (fun b7 => ?_)
   refine Vs 6 O ?_
   refine Vw [4, 5, 7] [] O ?_
   refine Vd [0, 2] 0 (by kernel_rfl) O O O ?_
   refine zl8 1 0 Tryz.call26 O (by kernel_rfl) O O (fun w hI => zan a _ _ D w (Tr1 hI.k1 ha)) ?_
   refine zl8 3 0 Tryz.call23 O (by kernel_rfl) O O (fun w hI => zmj a _ _ D w (Tr1 hI.k1 ha)) ?_
   refine Vd [4] 0 (by kernel_rfl) O O O ?_
   refine zjI (by kernel_rfl) ?_
   refine Vs 1 O ?_
   refine ziB O (fun v0 => ?_) (fun v0 => ?_)
   . exact absurd O v0
   ·
    refine Vs 4 O ?_
    refine zlj (σ := Unit) [0, 4, 7, 8] [4, 7] [4, 7] O (fun e u => (36, .bool (decide (¬ (m = 0 \/ m = 1)))) :: e) (fun e u => e) (fun u => True) (fun _ => rfl) (fun _ => rfl) ?_ ?_
    ·
     refine Vs 4 O ?_
     refine zkt 33 O (fun k1_ => ?_) (fun k1_ => ?_)
     ·
      refine Vs 4 O ?_
      refine ziR (()) (Sub.cons (by first | exact xp (by omega) | exact xq (by omega) | exact xr (by omega)) (zkg O)) (zkh O) (trivial) 0 O O
     ·
      refine Vs 4 O ?_
      refine ziR (()) (Sub.cons (by first | exact xp (by omega) | exact xq (by omega) | exact xr (by omega)) (zkg O)) (zkh O) (trivial) 0 O O
    rintro u _
    refine Vs 1 O ?_
    refine ziB O (fun d1 => ?_) (fun d1 => ?_)
    ·
     have hc : zfs m b n = 1 := if_pos d1
     have he : zft m b n = ac0 := if_neg (by rw [hc]; decide)
     refine Vs 5 O ?_
     refine zkt 39 O (fun k1 => ?_) (fun k1 => ?_)
     ·
      refine Vs 1 O ?_
      refine zln [Value.int IntKind.i64 0, Value.int IntKind.i64 0, Value.int IntKind.i64 0, Value.slice none 0 0, Value.slice none 0 0] [(0, 1), (1, 1), (2, 1), (3, 1), (4, 1)] [] O O (fun _ => by kernel_rfl) ?_
      refine zl7 Tryz.call27 O (fun w hI => zgh (zft m b n) ac0 _ _ _ _ _ _ w (hac.stable (fun _ h => h) (fun b hb hlt => hI.k0.block b hlt (fun hs => by have := hlow b hs; omega))) (show RAc (fun _ => True) _ ac0 _ _ from ⟨SlR.nil, SlR.nil⟩)) ?_
      refine Vs 6 O ?_
      refine ziV Tryz.results7 O (fun w hI => ⟨_, rfl, by rw [decide_eq_true he], hI.k1⟩)
     . exact absurd hc k1
    ·
     refine Vs 4 O ?_
     refine zlj (σ := Unit) [0, 4, 7, 8] [4, 7] [4, 7] O (fun e u => (61, .bool (decide (b < 1 \/ 1048576 < b \/ n < 1 \/ 4096 < n))) :: e) (fun e u => e) (fun u => True) (fun _ => rfl) (fun _ => rfl) ?_ ?_
     ·
      refine Vs 5 O ?_
      refine zkt 47 O (fun k1_ => ?_) (fun k1_ => ?_)
      ·
       refine Vs 15 O ?_
       refine ziR (()) (Sub.cons (by first | exact xp (by omega) | exact xq (by omega) | exact xr (by omega)) (zkg O)) (zkh O) (trivial) 0 O O
      ·
       refine Vs 5 O ?_
       refine zkt 52 O (fun k2_ => ?_) (fun k2_ => ?_)
       ·
        refine Vs 10 O ?_
        refine ziR (()) (Sub.cons (by first | exact xp (by omega) | exact xq (by omega) | exact xr (by omega)) (zkg O)) (zkh O) (trivial) 0 O O
       ·
        refine Vs 5 O ?_
        refine zkt 57 O (fun k3_ => ?_) (fun k3_ => ?_)
        ·
         refine Vs 5 O ?_
         refine ziR (()) (Sub.cons (by first | exact xp (by omega) | exact xq (by omega) | exact xr (by omega)) (zkg O)) (zkh O) (trivial) 0 O O
        ·
         refine Vs 5 O ?_
         refine ziR (()) (Sub.cons (by first | exact xp (by omega) | exact xq (by omega) | exact xr (by omega)) (zkg O)) (zkh O) (trivial) 0 O O
     rintro u _
     refine Vs 1 O ?_
     refine ziB O (fun d2 => ?_) (fun d2 => ?_)
     ·
      have hc : zfs m b n = 3 := by unfold zfs; rw [if_neg d1, if_pos d2]
      have he : zft m b n = ac0 := if_neg (by rw [hc]; decide)
      refine Vs 5 O ?_
      refine zkt 64 O (fun k1 => ?_) (fun k1 => ?_)
      ·
       refine Vs 1 O ?_
       refine zln [Value.int IntKind.i64 0, Value.int IntKind.i64 0, Value.int IntKind.i64 0, Value.slice none 0 0, Value.slice none 0 0] [(0, 1), (1, 1), (2, 1), (3, 1), (4, 1)] [] O O (fun _ => by kernel_rfl) ?_
       refine zl7 Tryz.call27 O (fun w hI => zgh (zft m b n) ac0 _ _ _ _ _ _ w (hac.stable (fun _ h => h) (fun b hb hlt => hI.k0.block b hlt (fun hs => by have := hlow b hs; omega))) (show RAc (fun _ => True) _ ac0 _ _ from ⟨SlR.nil, SlR.nil⟩)) ?_
       refine Vs 6 O ?_
       refine ziV Tryz.results7 O (fun w hI => ⟨_, rfl, by rw [decide_eq_true he], hI.k1⟩)
      . exact absurd hc k1
     ·
      have hc : zfs m b n = 0 := by unfold zfs; rw [if_neg d1, if_neg d2]
      have hok := (zmz (ps := []) hc).ok
      have he := zmk hc
      have f1 : (zft m b n).mode = m := by rw [he]
      have f2 : (zft m b n).budget = b := by rw [he]
      have f3 : (zft m b n).spent = 1 := by rw [he]
      have f4 : (zft m b n).left = qm n.toNat := by rw [he]
      have f5 : (zft m b n).asked.length = 0 := by rw [he]; rfl
      have f6 : ((zft m b n).left.length : Int) = n := by rw [f4, ze3]; omega
      have hml := hac.left.max
      refine Vs 4 O ?_
      refine zlj (σ := Unit) [7] [7] [7] O (fun e u => (102, .bool (decide (zfs m b n ≠ 0))) :: e) (fun e u => e) (fun u => True) (fun _ => rfl) (fun _ => rfl) ?_ ?_
      ·
       refine Vs 4 O ?_
       refine zkt 71 O (fun k1_ => ?_) (fun k1_ => ?_)
       ·
        refine Vs 32 O ?_
        refine ziR (()) (Sub.cons (by first | exact xp (by omega) | exact xq (by omega) | exact xr (by omega)) (zkg O)) (zkh O) (trivial) 0 O O
       ·
        refine Vs 6 O ?_
        refine zkt 77 O (fun k2_ => ?_) (fun k2_ => ?_)
        ·
         refine Vs 26 O ?_
         refine ziR (()) (Sub.cons (by first | exact xp (by omega) | exact xq (by omega) | exact xr (by omega)) (zkg O)) (zkh O) (trivial) 0 O O
        ·
         refine Vs 7 O ?_
         refine zkt 84 O (fun k3_ => ?_) (fun k3_ => ?_)
         ·
          refine Vs 19 O ?_
          refine ziR (()) (Sub.cons (by first | exact xp (by omega) | exact xq (by omega) | exact xr (by omega)) (zkg O)) (zkh O) (trivial) 0 O O
         ·
          refine Vs 5 O ?_
          refine zkt 89 O (fun k4_ => ?_) (fun k4_ => ?_)
          ·
           refine Vs 14 O ?_
           refine ziR (()) (Sub.cons (by first | exact xp (by omega) | exact xq (by omega) | exact xr (by omega)) (zkg O)) (zkh O) (trivial) 0 O O
          ·
           refine Vs 6 O ?_
           refine zkt 95 O (fun k5_ => ?_) (fun k5_ => ?_)
           ·
            refine Vs 8 O ?_
            refine ziR (()) (Sub.cons (by first | exact xp (by omega) | exact xq (by omega) | exact xr (by omega)) (zkg O)) (zkh O) (trivial) 0 O O
           ·
            refine Vs 8 O ?_
            refine ziR (()) (Sub.cons (by first | exact xp (by omega) | exact xq (by omega) | exact xr (by omega)) (zkg O)) (zkh O) (trivial) 0 O O
      rintro u _
      refine Vs 1 O ?_
      refine ziB O (fun d3 => ?_) (fun d3 => ?_)
      . exact absurd hc d3
      ·
       refine Vs 12 O ?_
       refine zli (σ := Nat) [7, 104, 105] [7] [7] O (fun e i => (106, .int .i64 i) :: e) (fun e i => e) (fun i => i <= (zft m b n).left.length) (fun i => (zft m b n).left.length - i) (0) (zkg O) (zkh O) (fun _ => rfl) (fun _ => rfl) (fun _ => rfl) (Nat.zero_le _) ?_
       rintro i hi
       refine Vs 6 O ?_
       refine ziB O (fun hlt => ?_) (fun hlt => ?_)
       ·
        refine Vs 7 O ?_
        obtain ⟨x, he_x⟩ : ∃ z_, (zft m b n).left[i]? = some z_ := ⟨_, zm8 (by omega)⟩
        have hm_x := zm9 he_x
        obtain ⟨b_x, o_x, c_x, ha_x, hd_x, hc_x, hR_x⟩ := hac.left.atD he_x
        obtain rfl := hR_x
        refine zlg 1000 0 O O (fun h_ => by have h1_ := hlow _ h_; have h2_ := hd_x; first | omega | exact h1_ h2_) hc_x ?_
        refine zkZ 1000 tR31 ts3 O ha_x (by omega) (_) (rfl) O ?_
        have hx : x = (i : Int) := by
         have h := he_x
         rw [f4, ze2 (by omega)] at h
         exact (Option.some.inj h).symm
        refine Vs 12 O ?_
        refine ziB O (fun g0 => ?_) (fun g0 => ?_)
        . exact absurd hx g0
        ·
         refine Va 7 O (by omega) ?_
         refine ziM (i + 1) (zkg O) (zkh O) (by omega) (by first | omega | (dsimp only; omega)) 0 O O
       ·
        refine Vs 8 O ?_
        refine zl7 Tryz.call26 O (fun w hI => zan (zft m b n) _ _ _ w (hac.stable (fun _ h => h) (fun b hb hlt => hI.k0.block b hlt (fun hs => by have := hlow b hs; omega)))) ?_
        refine Vs 4 O ?_
        refine ziV Tryz.results7 O (fun w hI => ⟨_, rfl, by rw [decide_eq_true hok], hI.k1⟩)
end Go.Proofs.YtbkhagigkglgoaaGreatDoor
