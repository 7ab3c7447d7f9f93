/-
  Contracts and the mathematics that the proof needs. Nothing here is a claim.
-/
import Derived.Test.YtbkhagigkglgoaaGreatDoorKU5
import Derived.WalkKit
import Derived.Deep.Quiet
import Derived.Deep.LoopGhost
import Derived.Below
import Derived.OrdersHeld
import Derived.KernelRfl
import Derived.WalkSpells
import Derived.ChangeKeysEq
import Derived.Lib.SliceRun
import Derived.Test.YtbkhagigkglgoaaGreatDoorRows
import Derived.ProofKit
import Derived.OpenShut
import Derived.ReadAgain
import Derived.ChangeBears
import Derived.Laws.Strings
import Derived.Test.YtbkhagigkglgoaaGreatDoorProg
import Derived.Maps.RangeRun
import Derived.MapKept
import Derived.Lib.AppendStr
import Derived.Lib.SmallJoins
import Derived.Lib.Builder
import Derived.Lib.UnsafeStr
import Derived.Laws.Externs
import Derived.Lib.ItoaNum
import Derived.Lib.ItoaMem
import Derived.Shelf.Strings.BuilderK
import Derived.Shelf.LaysM
import Derived.Shelf.Strconv.Itoa3
import Derived.Lib.ItoaLen
import Derived.Shelf.SlSortCmp.WholeK
import Derived.Ground.SlsfProg
import Derived.Shelf.SlSortCmp.NoneTotal
import Derived.Handed
import Derived.LaidLaws
import Derived.Test.YtbkhagigkglgoaaGreatDoorTie
import Derived.Test.YtbkhagigkglgoaaGreatDoorCards
namespace Go.GL
abbrev G.sb := @zku
abbrev VD.ap := @zl3
end Go.GL
namespace Go.GL
abbrev znh := @Decidable.not_not
abbrev zni := @if_neg
abbrev znj := @if_pos
abbrev znk := @decide_eq_true
abbrev znl := @decide_eq_false
abbrev znm := @Nat.zero_le
abbrev znn := @not_not_intro
abbrev zno := @List.getElem?_eq_none
end Go.GL
namespace Go.GL
section
variable {α : Type} {f : α -> Value}
theorem zn3 (l : List α) : l.map f = l.flatMap (fun x => [f x]) := by
 induction l with
 | nil => rfl
 | cons x r ih => simp [ih]
end
end Go.GL
namespace Go.Proofs.YtbkhagigkglgoaaGreatDoor
open Go.GL Go.ChangeShapes Go.WideShapes Go.ChangeAt Go.RowKit
set_option maxRecDepth 100000 in
theorem zmz {H : Type} {enc : TypeId × Value -> H} {W : World} {r : Reach} {b0 base : Nat} {sp : Nat -> Bool} {held : Bool} {v : Value} {d : DataW H} {ps : List MemPlace} (hval : Value.okWide Tryz.prog W r b0 31 v) (hd : DataW.Trod enc Tryz.prog W base sp held 31 v d ps) :
  ∃ l, SlR 1 zF (fun _ => True) W v l := by
 obtain ⟨a, len, cap, rfl⟩ := okWide_slice tu31 hval
 obtain ⟨k, hn⟩ := hd
 have hc3 : Tryz.prog.cellsOf 3 = 1 := by kernel_rfl
 obtain ⟨ev, es, hev, hsl⟩ := zbt tu31 hc3 (by decide) (fun n cs y h => zcv tu3 h) hn
 simp [Value.cells] at hev
 subst hev
 exact ⟨es, hsl⟩
section
variable {H : Type} {enc : TypeId × Value -> H} {w : World} {base : Nat} {sp : Nat -> Bool} {held : Bool}
set_option maxRecDepth 100000 in
theorem zmS {r : Reach} {b0 : Nat} {v : Value} {d : DataW H} {ps : List MemPlace} (hval : Value.okWide Tryz.prog w r b0 56 v) (hd : DataW.Trod enc Tryz.prog w base sp held 56 v d ps) :
  ∃ f v1 v2 v3, v = .agg #[v1, v2, v3] /\ RFl (fun _ => True) w f v1 v2 v3 := by
 unfold Value.okWide at hval
 rw [Tryz.underlying56] at hval
 obtain ⟨cs, rfl, hsz, _⟩ := hval
 obtain ⟨k, hn⟩ := hd
 obtain ⟨xs, m, _, _, hl, hx, hat⟩ := DataW.trod_struct Tryz.underlying56 hn
 rw [show Tryz.prog.cellsOf 56 = 3 by kernel_rfl] at hsz
 obtain ⟨l⟩ := cs
 match l, hsz with
 | [c0, c1, c2], _ =>
  obtain ⟨y0, h0⟩ := zq hx hat 0 rfl (c := 1) (by kernel_rfl)
  obtain ⟨y1, h1⟩ := zq hx hat 1 rfl (c := 1) (by kernel_rfl)
  obtain ⟨y2, h2⟩ := zq hx hat 2 rfl (c := 1) (by kernel_rfl)
  obtain ⟨v0, l0, e0, hs0⟩ := zbt tu52 (show Tryz.prog.cellsOf 120 = 5 by kernel_rfl) (by decide) (fun n cs y hy => zgJ n cs y hy) h0
  obtain ⟨v1, l1, e1, hs1⟩ := zbt Tryz.underlying53 (show Tryz.prog.cellsOf 137 = 6 by kernel_rfl) (by decide) (fun n cs y hy => zgK n cs y hy) h1
  obtain ⟨v2, l2, e2, hs2⟩ := zbt tu54 zaQ (by decide) (fun n cs y hy => zgI n cs y hy) h2
  simp [Value.cells] at e0 e1 e2
  subst e0; subst e1; subst e2
  exact ⟨⟨l0, l1, l2⟩, _, _, _, rfl, hs0, hs1, hs2⟩
end
end Go.Proofs.YtbkhagigkglgoaaGreatDoor
namespace Go.GL
open Go.RowKit
def zmR : Hp -> Nat -> Hp
 | [], _ => []
 | (k, e) :: r, j => cond (Nat.beq k j) r ((k, e) :: zmR r j)
section
variable {Bs : ya} {H : Hp} {w w' : World} {k : Nat} {e e' : HE} {T : Nat -> Prop}
theorem VI.offF {F : Nat -> Prop} {p : World -> Prop} (h : VI Bs H w) (k : Nat) (hg : zm H k = some (.dat F p)) : ∀ b, F b -> ¬ HS H b := fun b hb ⟨y, hy, hs⟩ => h.froz _ (zl hg) y hy b hb hs
theorem hdel_sub : ∀ {H : Hp} {k : Nat}, (zmR H k).Sublist H
 | [], _ => List.Sublist.refl _
 | (k', e) :: r, k => by
  simp only [zmR]
  cases Nat.beq k' k with
  | true => exact List.sublist_cons_self ..
  | false => exact hdel_sub.cons_cons _
theorem VI.del (h : VI Bs H w) (k : Nat) : VI Bs (zmR H k) w := h.few (fun _ hx => hdel_sub.subset hx) (h.apart.sublist hdel_sub)
end
section
variable {P : Program} {T : Tab} {Z : Szs} {n : Nat} {Q : Exit -> Act -> World -> Prop} {ks : List Fr} {pos : Pos} {env : Env} {A : Tgs} {H : Hp} {Bs : ya} {ops : Array Oper} {v : Value}
theorem zms : ∀ {H : Hp} {k j : Nat}, Nat.beq k j = false -> zm (zmR H k) j = zm H j
 | [], _, _, _ => rfl
 | (k1, e1) :: r, k, j, h => by
  simp only [zmR]
  cases hb : Nat.beq k1 k with
  | true =>
   have := zmf hb
   subst this
   simp only [zm, h, cond_false, cond_true]
  | false => simp only [zm, cond_false]; rw [zms h]
theorem V.del (k : Nat) (hn : qD H k = none) (h : V P n Q ks pos env A (zmR H k) Bs) : V P n Q ks pos env A H Bs := by
 refine fun hA w hI => h (hA.heap (fun j b o hj => ?_)) w (hI.del k)
 have hkj : Nat.beq k j = false := by
  cases hb : Nat.beq k j with
  | true => rw [<- zmf hb, hn] at hj; cases hj
  | false => rfl
 unfold qD at hj ⊢
 rw [zms hkj]
 exact hj
theorem zmI : ∀ {H : Hp} {k : Nat} {e' : HE}, ∀ y ∈ zmR H k, y ∈ hset H k e'
 | [], _, _, _, h => by cases h
 | (k1, e1) :: r, k, e', y, h => by
  simp only [zmR] at h
  simp only [hset]
  cases hb : Nat.beq k1 k with
  | true => rw [hb] at h; exact zmb _ h
  | false =>
   rw [hb] at h
   rcases List.mem_cons.1 h with rfl | h
   . exact zmc ..
   . exact zmb _ (zmI y h)
theorem zmJ : ∀ {H : Hp} {k : Nat} {e e' : HE}, zm H k = some e -> (k, e') ∈ hset H k e'
 | [], _, _, _, h => by cases h
 | (k1, e1) :: r, k, e, e', h => by
  simp only [zm] at h
  simp only [hset]
  cases hb : Nat.beq k1 k with
  | true => rw [zmf hb]; exact zmc ..
  | false => rw [hb] at h; exact zmb _ (zmJ h)
theorem zng {α : Type} {R : Rel α} [Dt R] (k k2 : Nat) {t : TypeId} {m : Nat} {l : List α} (enc : α -> Value) (hR : ∀ D w x, R D w x [enc x]) (hg : zm H k = some (.row t 1 v m (l.map enc))) (hn : (zm (zmR H k) k2).isNone = true)
  (h : V P n Q ks pos env A ((k2, .dat (fun b => v.ownBlock = some b) (fun w => SlR 1 R (fun b => v.ownBlock = some b) w v l)) :: zmR H k) Bs) : V P n Q ks pos env A H Bs := by
 rw [Option.isNone_iff_eq_none] at hn
 refine fun hA w hI => ?_
 have ho : w.ownsRow 0 t 1 v m (l.map enc) := hI.at k hg
 have he : HE.holds w (.dat (fun b => v.ownBlock = some b) (fun w => SlR 1 R (fun b => v.ownBlock = some b) w v l)) := ⟨zjO enc (fun x _ => hR _ _ x) ho (fun g hg => hg), fun q hq => xi ho hq⟩
 have hl : HE.loc (.dat (fun b => v.ownBlock = some b) (fun w => SlR 1 R (fun b => v.ownBlock = some b) w v l)) := fun w w' T h1 h2 h3 => h1.keep Dt.s h2 (fun q hq _ => h3 q hq)
 have hF := hI.freeze hg he hl (fun _ h => h) (fun _ h => h)
 have hA' : TgOk A env (zmR H k) := hA.heap (fun j b o hj => by
  have hkj : Nat.beq k j = false := by
   cases hb : Nat.beq k j with
   | true => rw [<- zmf hb] at hj; simp [qD, hg] at hj
   | false => rfl
  unfold qD at hj ⊢
  rw [zms hkj]
  exact hj)
 exact h (hA'.new hn) w ((hI.del k).frz k2 he hl (fun _ h => h) (fun b hb x hx => hF.froz _ (zmJ hg) x (zmI x hx) b hb))
end
end Go.GL
namespace Go.Proofs.YtbkhagigkglgoaaGreatDoor
open Go.GL
theorem zmj (a b c : Int) (w : World) : Calls Tryz.prog 173 #[.int .i64 a, .int .i64 b, .int .i64 c] w (Ret fun r w' => r = .int .i64 (xS a b c) /\ Ext w w') := by
 refine zkI Tryz.func173 O Tryz.ntmps173 O (Gs 13 O (ziA O (fun h => ?_) (fun h => ?_)))
 . refine Gs 8 O (ziU Tryz.results173 O ⟨_, rfl, by rw [xS, znj h], Keep.refl _ _⟩)
 ·
  refine Gs 10 O (ziA O (fun h2 => ?_) (fun h2 => ?_))
  . refine Gs 8 O (ziU Tryz.results173 O ⟨_, rfl, by rw [xS, zni h, znj h2], Keep.refl _ _⟩)
  . refine Gs 9 O (ziU Tryz.results173 O ⟨_, rfl, by rw [xS, zni h, zni h2], Keep.refl _ _⟩)
theorem zit (p : Bool) (w : World) : Calls Tryz.prog 101 #[.bool p] w (Ret fun r w' => r = .int .i64 (if p then 1 else 0) /\ Ext w w') := by
 refine zkG Tryz.func101 O Tryz.ntmps101 O (Gs 11 O (G.bool O (fun h => ?_) (fun h => ?_)))
 . refine Gs 7 O (ziU Tryz.results101 O ⟨_, rfl, by rw [h]; rfl, Keep.refl _ _⟩)
 . refine Gs 8 O (ziU Tryz.results101 O ⟨_, rfl, by rw [h]; rfl, Keep.refl _ _⟩)
end Go.Proofs.YtbkhagigkglgoaaGreatDoor
namespace Go.GL
theorem St.plainB_eq (s : St) : s.plainB = ((if s.act = 3 then true else if s.act = 4 then s.els.isEmpty else s.thn.isEmpty && s.els.isEmpty) && zei s.thn && zei s.els) := by cases s; rw [St.plainB]; rfl
theorem zmT {l : List St} (h : ∀ s ∈ l, s.plainB = true) : zei l = true := by
 induction l with
 | nil => rfl
 | cons x r ih => rw [zei, h x (zmc ..), ih (fun s hs => h s (zmb _ hs))]; rfl
end Go.GL
namespace Go.Proofs.YtbkhagigkglgoaaGreatDoor
open Go.GL
theorem zmt {vs : List Vr} {nh : Nat} (l : List St) : ∀ top, zb vs nh l top = 0 -> zei l = true := by
 induction l using zk9 with
 | h l ih =>
 intro top h
 refine zmT (fun s hs => ?_)
 obtain ⟨last, h2⟩ := xl l top h s hs
 obtain ⟨h3, _, _, h4, h5⟩ := xN h2
 rw [s.plainB_eq, (ih s hs).1 _ h4, (ih s hs).2 _ h5, Bool.and_true, Bool.and_true]
 split
 . rfl
 ·
  split
  . rename_i a4; rw [(h3.rep a4).2.2]; rfl
  . rename_i a3 a4; rw [(h3.free a3 a4).1, (h3.free a3 a4).2]; rfl
theorem zmG {f : Fl} (h : zZ f = 0) : zei f.body = true := zmt _ _ (yo h).2.2.2.1
theorem zmk (a b : Int) (w : World) (ha : zfq a) (hb : zfq b) : Calls Tryz.prog 205 #[.int .i64 a, .int .i64 b] w (Ret fun r w' => r = .int .i64 (a.fdiv b) /\ Ext w w') := by
 have hE := Keep.refl (fun _ => False) w
 refine zkH Tryz.func205 O Tryz.ntmps205 O (Gs 12 O (ziA O (fun h0 => ?_) (fun h0 => ?_)))
 ·
  subst h0
  refine Gs 7 O (ziU Tryz.results205 O ⟨_, rfl, by rw [Int.fdiv_zero], hE⟩)
 ·
  have hd := zeB a b h0
  have hq : (a.tdiv b).natAbs <= a.natAbs := Int.natAbs_tdiv_le_natAbs a b
  refine Gs 6 O (zkw O O (R.quo O O h0 (by omega)) (Gs 8 O (zkw O O (R.rem O O h0 (by omega)) (Gs 2 O (zkr 15 O (fun h1 => ?_) (fun h1 => ?_))))))
  ·
   refine Gs 8 O (ziA O (fun h2 => ?_) (fun h2 => ?_))
   . refine Ga 13 O (by omega) (ziU Tryz.results205 O ⟨_, rfl, by rw [hd, znj ⟨h1, h2⟩], hE⟩)
   . refine Gs 9 O (ziU Tryz.results205 O ⟨_, rfl, by rw [hd, zni (fun h => h2 h.2)], hE⟩)
  . refine Gs 18 O (ziU Tryz.results205 O ⟨_, rfl, by rw [hd, zni (fun h => h1 h.1)], hE⟩)
theorem zmA (a b : Int) (w : World) (ha : zfq a) (hb : zfq b) : Calls Tryz.prog 206 #[.int .i64 a, .int .i64 b] w (Ret fun r w' => r = .int .i64 (if b = 0 then 0 else a - b * a.fdiv b) /\ Ext w w') := by
 have hE := Keep.refl (fun _ => False) w
 refine zkH Tryz.func206 O Tryz.ntmps206 O (Gs 12 O (ziA O (fun h0 => ?_) (fun h0 => ?_)))
 . refine Gs 7 O (ziU Tryz.results206 O ⟨_, rfl, by rw [znj h0], hE⟩)
 ·
  have hm := zdL a b h0
  refine Gs 8 O (G.call O Tryz.call205 (zmk a b _ ha hb) ?_)
  rintro _ wz1 ⟨rfl, hz1⟩
  replace hE := Tr1 hz1 hE
  refine Ga 6 O (by omega) (ziU Tryz.results206 O ⟨_, rfl, by rw [zni h0], hE⟩)
theorem zmB (op a b : Int) (w : World) (ha : zfq a) (hb : zfq b) : Calls Tryz.prog 190 #[.int .i64 op, .int .i64 a, .int .i64 b] w (Ret fun r w' => r = .int .i64 (qO op a b) /\ Ext w w') := by
 have hE := Keep.refl (fun _ => False) w
 have hml := za0 ha hb
 refine zkI Tryz.func190 O Tryz.ntmps190 O (Gs 18 O (ziA O (fun hh1 => ?_) (fun hh1 => ?_)))
 . refine Ga 11 O (by omega) (ziU Tryz.results190 O ⟨_, rfl, by simp [qO, hh1], hE⟩)
 ·
  refine Gs 6 O (ziA O (fun hh2 => ?_) (fun hh2 => ?_))
  . refine Ga 11 O (by omega) (ziU Tryz.results190 O ⟨_, rfl, by simp [qO, hh2], hE⟩)
  ·
   refine Gs 6 O (ziA O (fun hh3 => ?_) (fun hh3 => ?_))
   . refine Ga 11 O (by omega) (ziU Tryz.results190 O ⟨_, rfl, by simp [qO, hh3], hE⟩)
   ·
    refine Gs 6 O (ziA O (fun hh4 => ?_) (fun hh4 => ?_))
    ·
     refine Gs 4 O (G.call O Tryz.call205 (zmk a b _ ha hb) ?_)
     rintro _ wz5 ⟨rfl, hz5⟩
     replace hE := Tr1 hz5 hE
     refine Gs 6 O (ziU Tryz.results190 O ⟨_, rfl, by simp [qO, hh4], hE⟩)
    ·
     refine Gs 6 O (ziA O (fun hh6 => ?_) (fun hh6 => ?_))
     ·
      refine Gs 4 O (G.call O Tryz.call206 (zmA a b _ ha hb) ?_)
      rintro _ wz7 ⟨rfl, hz7⟩
      replace hE := Tr1 hz7 hE
      refine Gs 6 O (ziU Tryz.results190 O ⟨_, rfl, by simp [qO, hh6], hE⟩)
     ·
      refine Gs 6 O (ziA O (fun hh8 => ?_) (fun hh8 => ?_))
      ·
       refine Gs 5 O (G.call O Tryz.call101 (zit _ _) ?_)
       rintro _ wz9 ⟨rfl, hz9⟩
       replace hE := Tr1 hz9 hE
       refine Gs 6 O (ziU Tryz.results190 O ⟨_, rfl, by simp [qO, yW, hh8], hE⟩)
      ·
       refine Gs 6 O (ziA O (fun hh10 => ?_) (fun hh10 => ?_))
       ·
        refine Gs 5 O (G.call O Tryz.call101 (zit _ _) ?_)
        rintro _ wz11 ⟨rfl, hz11⟩
        replace hE := Tr1 hz11 hE
        refine Gs 6 O (ziU Tryz.results190 O ⟨_, rfl, by simp [qO, yW, hh10], hE⟩)
       ·
        refine Gs 6 O (ziA O (fun hh12 => ?_) (fun hh12 => ?_))
        ·
         refine Gs 5 O (G.call O Tryz.call101 (zit _ _) ?_)
         rintro _ wz13 ⟨rfl, hz13⟩
         replace hE := Tr1 hz13 hE
         refine Gs 6 O (ziU Tryz.results190 O ⟨_, rfl, by simp [qO, yW, hh12], hE⟩)
        ·
         refine Gs 6 O (ziA O (fun hh14 => ?_) (fun hh14 => ?_))
         ·
          refine Gs 5 O (G.call O Tryz.call101 (zit _ _) ?_)
          rintro _ wz15 ⟨rfl, hz15⟩
          replace hE := Tr1 hz15 hE
          refine Gs 6 O (ziU Tryz.results190 O ⟨_, rfl, by simp [qO, yW, hh14], hE⟩)
         ·
          refine Gs 6 O (ziA O (fun hh16 => ?_) (fun hh16 => ?_))
          ·
           refine Gs 5 O (G.call O Tryz.call101 (zit _ _) ?_)
           rintro _ wz17 ⟨rfl, hz17⟩
           replace hE := Tr1 hz17 hE
           refine Gs 6 O (ziU Tryz.results190 O ⟨_, rfl, by simp [qO, yW, hh16], hE⟩)
          ·
           refine Gs 6 O (ziA O (fun hh18 => ?_) (fun hh18 => ?_))
           ·
            refine Gs 5 O (G.call O Tryz.call101 (zit _ _) ?_)
            rintro _ wz19 ⟨rfl, hz19⟩
            replace hE := Tr1 hz19 hE
            refine Gs 6 O (ziU Tryz.results190 O ⟨_, rfl, by simp [qO, yW, hh18], hE⟩)
           ·
            refine Gs 6 O (ziA O (fun hh20 => ?_) (fun hh20 => ?_))
            ·
             refine Gs 5 O (zkr 73 O (fun hh21 => ?_) (fun hh21 => ?_))
             ·
              refine Gs 3 O (G.call O Tryz.call101 (zit _ _) ?_)
              rintro _ wz22 ⟨rfl, hz22⟩
              replace hE := Tr1 hz22 hE
              refine Gs 6 O (ziU Tryz.results190 O ⟨_, rfl, by simp [qO, yW, hh20, hh21], hE⟩)
             ·
              refine Gs 3 O (G.call O Tryz.call101 (zit _ _) ?_)
              rintro _ wz23 ⟨rfl, hz23⟩
              replace hE := Tr1 hz23 hE
              refine Gs 6 O (ziU Tryz.results190 O ⟨_, rfl, by simp [qO, yW, hh20, hh21], hE⟩)
            ·
             refine Gs 6 O (ziA O (fun hh24 => ?_) (fun hh24 => ?_))
             ·
              refine Gs 5 O (zkr 82 O (fun hh25 => ?_) (fun hh25 => ?_))
              ·
               refine Gs 3 O (G.call O Tryz.call101 (zit _ _) ?_)
               rintro _ wz26 ⟨rfl, hz26⟩
               replace hE := Tr1 hz26 hE
               refine Gs 6 O (ziU Tryz.results190 O ⟨_, rfl, by simp [qO, yW, hh24, hh25], hE⟩)
              ·
               refine Gs 3 O (G.call O Tryz.call101 (zit _ _) ?_)
               rintro _ wz27 ⟨rfl, hz27⟩
               replace hE := Tr1 hz27 hE
               refine Gs 6 O (ziU Tryz.results190 O ⟨_, rfl, by simp [qO, yW, hh24, hh25], hE⟩)
             ·
              refine Gs 6 O (ziA O (fun hh28 => ?_) (fun hh28 => ?_))
              ·
               refine Gs 4 O (G.call O tc113 (zu a b _) ?_)
               rintro _ wz29 ⟨rfl, hz29⟩
               replace hE := Tr1 hz29 hE
               refine Gs 6 O (ziU Tryz.results190 O ⟨_, rfl, by simp [qO, hh28], hE⟩)
              ·
               refine Gs 7 O (G.call O tc112 (zT a b _) ?_)
               rintro _ wz30 ⟨rfl, hz30⟩
               replace hE := Tr1 hz30 hE
               refine Gs 4 O (ziU Tryz.results190 O ⟨_, rfl, by simp [qO, hh1, hh2, hh3, hh4, hh6, hh8, hh10, hh12, hh14, hh16, hh18, hh20, hh24, hh28], hE⟩)
theorem zmu (l : List Int) (time : Int) (v : Value) (D : Nat -> Prop) (w : World) (hl : SlR 1 zF D w v l) : Calls Tryz.prog 172 #[v, .int .i64 time] w (Ret fun r w' => r = .int .i64 (qj l time) /\ Ext w w') := by
 have hmx := hl.max
 obtain ⟨al, cl, rfl⟩ := hl.form
 refine zkH Tryz.func172 O Tryz.ntmps172 O (Gs 19 O (G.loop (σ := Nat × Int × Bool) (fun ⟨i, b, fd⟩ => [(0, .slice al l.length cl), (1, .int .i64 time), (5, .int .i64 b), (6, .bool fd), (7, .int .i64 i)]) (fun ⟨i, b, fd⟩ => fun w' => i <= l.length /\ (b, fd) = (l.take i).foldl (yt time) (time, false) /\ Ext w w') (fun ⟨i, b, fd⟩ => l.length - i) ((0, time, false)) (zkg O) (⟨znm _, rfl, Keep.refl _ _⟩) ?_))
 rintro ⟨i, b, fd⟩ w1 ⟨hi, hs, hL1⟩
 show G _ _ _ _ _ [(0, .slice al l.length cl), (1, .int .i64 time), (5, .int .i64 b), (6, .bool fd), (7, .int .i64 i)] _
 replace hl := Tr1 hL1 hl
 refine Gs 9 O (ziA O (fun hlt => ?_) (fun hge => ?_))
 ·
  obtain ⟨x, he_x⟩ : ∃ x, l[i]? = some x := ⟨_, zm8 (by omega)⟩
  obtain ⟨bx, ox, cx, hax, _, hcx, rfl⟩ := hl.at he_x
  have hst := zdM (yt time) (time, false) he_x
  rw [<- hs, show yt time (b, fd) x = if time <= x /\ (fd = false \/ x < b) then (x, true) else (b, fd) from rfl] at hst
  refine Gs 8 O (zkw O O (zjj tR31 ts3 O O hax (by omega)) (zkA O tg3 (hcx 0 _ O) (Gs 3 O (zkr 21 O (fun h1 => ?_) (fun h1 => ?_)))))
  ·
   refine Gs 1 O (zkw O O (zk0 O (by first | exact za | rfl)) (Gs 1 O (zku 24 O (fun h2 => ?_) (fun h2 => ?_))))
   ·
    have h2' : fd = false := by simpa using h2
    refine Gs 14 O (zkw O O (zjj tR31 ts3 O O hax (by omega)) (zkA O tg3 (hcx 0 _ O) (Ga 10 O (by omega) (ziL ((i + 1, x, true)) (Sub.cons O (Sub.cons O (Sub.cons O (Sub.cons (by first | rfl | (show some (Value.bool true) = some (Value.bool _); simp [*])) (zkg O))))) (⟨by omega, by rw [hst, znj ⟨h1, .inl h2'⟩], hL1⟩) (by first | omega | (dsimp only; omega))))))
   ·
    have h2' : fd = true := by simpa using h2
    refine Gs 2 O (zkw O O (zjj tR31 ts3 O O hax (by omega)) (zkA O tg3 (hcx 0 _ O) (Gs 6 O (ziA O (fun h3 => ?_) (fun h3 => ?_)))))
    . refine Gs 3 O (zkw O O (zjj tR31 ts3 O O hax (by omega)) (zkA O tg3 (hcx 0 _ O) (Ga 10 O (by omega) (ziL ((i + 1, x, true)) (Sub.cons O (Sub.cons O (Sub.cons O (Sub.cons (by first | rfl | (show some (Value.bool true) = some (Value.bool _); simp [*])) (zkg O))))) (⟨by omega, by rw [hst, znj ⟨h1, .inr h3⟩], hL1⟩) (by first | omega | (dsimp only; omega))))))
    . refine Ga 8 O (by omega) (ziL ((i + 1, b, fd)) (zkg O) (⟨by omega, by rw [hst, zni (fun h => h.2.elim (fun h4 => by rw [h2'] at h4; cases h4) h3)], hL1⟩) (by first | omega | (dsimp only; omega)))
  . refine Ga 22 O (by omega) (ziL ((i + 1, b, fd)) (zkg O) (⟨by omega, by rw [hst, zni (fun h => h1 h.1)], hL1⟩) (by first | omega | (dsimp only; omega)))
 ·
  have : i = l.length := by omega
  subst this
  rw [zmd] at hs
  refine Gs 12 O (ziU Tryz.results172 O ⟨_, rfl, by rw [qj, <- hs], hL1⟩)
def zna (vals : List Int) (k : Tm) : Prop := ∀ (cs : List Value) (D Dv : Nat -> Prop) (w : World) (vv : Value), SlR 1 zF Dv w vv vals -> RTm D w k cs -> Calls Tryz.prog 171 #[vv, .agg cs.toArray] w (Ret fun r w' => r = .int .i64 (xV vals k) /\ Ext w w')
theorem ziu {vs : List Vr} {inp : Bool} (hv : ∀ v ∈ vs, yn (v.low, v.high)) {vals : List Int} (hV : InV vs vals) (t : Tm) : zx vs inp t = true -> (rng vs t).isSome = true -> zna vals t := by
 induction t using zk7 with
 | h t ih =>
 intro hf hr cs D Dv w vv hvv ht
 obtain ⟨ok, hkf⟩ := tmOk hv hV hf hr
 have ihk : ∀ k ∈ t.kids, zna vals k := fun k hk => ih k hk (hkf k hk).1 (hkf k hk).2
 obtain ⟨kv, rfl, hks⟩ := ht.get
 obtain ⟨a3, c3, rfl⟩ := hks.form
 obtain ⟨av, cv, rfl⟩ := hvv.form
 have hve := zex vals t
 have hops := ok.ops
 have hE := Keep.refl (fun _ => False) w
 refine zkH Tryz.func171 O Tryz.ntmps171 O (Gs 2 O (zjs O O (M.box O O) ?_))
 rintro _ w_b3 ⟨b3, rfl, hg_b3, hs_b3, hB_b3, hk_b3⟩
 have hge_b3 : _ <= b3 := zme hE.size (Nat.le_of_eq hg_b3.symm)
 obtain ⟨hE, hks, hvv⟩ := Tr3 hk_b3 hE hks hvv
 refine Gs 7 O (zkA O tg129 (hB_b3.cells 0 _ O) (Gs 9 O ?_))
 have zm : ∀ i : Nat, i < t.kids.length -> ∃ k, t.kids[i]? = some k /\ lki (zfJ vals t.kids) i = xV vals k /\ zfq (xV vals k) /\ ∃ b o c v, a3 = some ⟨b, o, none⟩ /\ Cells w_b3 b (o + i * 3) c /\ c = [.int .i64 k.op, .int .i64 k.n, v] /\ SlR 3 RTm D w_b3 v k.kids := fun i hi => by
  obtain ⟨k, hk⟩ : ∃ k, t.kids[i]? = some k := ⟨_, zm8 hi⟩
  obtain ⟨b, o, c, h1, _, h2, h3⟩ := hks.at hk
  obtain ⟨v, h4, h5⟩ := h3.get
  exact ⟨k, hk, zdk hk, ok.kid k (zm9 hk), b, o, c, v, h1, h2, h4, h5⟩
 have hX := Keep.refl (fun _ => False) w_b3
 refine ziA O (fun c0 => ?_) (fun c0 => ?_)
 . refine Gs 3 O (zkA O tg3 (hB_b3.cells 1 _ O) (Gs 6 O (ziU Tryz.results171 O ⟨_, rfl, by rw [hve, jE, znj c0], hE⟩)))
 ·
  refine Gs 6 O (ziA O (fun c24 => ?_) (fun c24 => ?_))
  ·
   have hn := ok.var c24
   have hln := hV.len
   obtain ⟨bx, ox, cx, hax, _, hcx, rfl⟩ := hvv.at (zgw (l := vals) (i := t.n.toNat) (by omega))
   refine Gs 4 O (zkA O tg3 (hB_b3.cells 1 _ O) (zkw O O (zjj tR31 ts3 O O hax (by omega)) (zkA O tg3 (hcx 0 _ O) (Gs 6 O (ziU Tryz.results171 O ⟨_, rfl, by rw [hve, jE, zni c0, znj c24], hE⟩)))))
  ·
   refine Gs 6 O (ziA O (fun c6 => ?_) (fun c6 => ?_))
   ·
    have h1 := ok.k1 (.inl c6)
    obtain ⟨k0, hk0, hl0, hi0, b0, o0, _, v0, ha0, hc0, rfl, hs0⟩ := zm 0 (by omega)
    refine Gs 4 O (zkA O tg130 (hB_b3.cells 2 _ O) (zkw O O (zjj tR130 ts132 O O ha0 (by omega)) (zkC O tg132 ts132 (hX.cells hc0 (fun h => h)) O (G.call O Tryz.call171 (ihk k0 (zm9 hk0) _ D Dv _ _ hvv (RTm.put (hs0.ext zo hX))) ?_))))
    rintro _ wz1 ⟨rfl, hz1⟩
    obtain ⟨hE, hks, hvv, hB_b3, hX⟩ := Tr5 hz1 hE hks hvv hB_b3 hX
    refine Ga 7 O (by omega) (ziU Tryz.results171 O ⟨_, rfl, by rw [hve, jE, zni c0, zni c24, znj c6, hl0], hE⟩)
   ·
    refine Gs 6 O (ziA O (fun c7 => ?_) (fun c7 => ?_))
    ·
     have h1 := ok.k1 (.inr c7)
     obtain ⟨k0, hk0, hl0, hi0, b0, o0, _, v0, ha0, hc0, rfl, hs0⟩ := zm 0 (by omega)
     refine Gs 4 O (zkA O tg130 (hB_b3.cells 2 _ O) (zkw O O (zjj tR130 ts132 O O ha0 (by omega)) (zkC O tg132 ts132 (hX.cells hc0 (fun h => h)) O (G.call O Tryz.call171 (ihk k0 (zm9 hk0) _ D Dv _ _ hvv (RTm.put (hs0.ext zo hX))) ?_))))
     rintro _ wz2 ⟨rfl, hz2⟩
     obtain ⟨hE, hks, hvv, hB_b3, hX⟩ := Tr5 hz2 hE hks hvv hB_b3 hX
     refine Gs 1 O (G.call O Tryz.call101 (zit _ _) ?_)
     rintro _ wz3 ⟨rfl, hz3⟩
     obtain ⟨hE, hks, hvv, hB_b3, hX⟩ := Tr5 hz3 hE hks hvv hB_b3 hX
     refine Gs 6 O (ziU Tryz.results171 O ⟨_, rfl, by rw [hve, jE, zni c0, zni c24, zni c6, znj c7, hl0]; rfl, hE⟩)
    ·
     refine Gs 6 O (ziA O (fun c23 => ?_) (fun c23 => ?_))
     ·
      have h1 := ok.k3 c23
      obtain ⟨k0, hk0, hl0, hi0, b0, o0, _, v0, ha0, hc0, rfl, hs0⟩ := zm 0 (by omega)
      obtain ⟨k1, hk1, hl1, hi1, b1, o1, _, v1, ha1, hc1, rfl, hs1⟩ := zm 1 (by omega)
      obtain ⟨k2, hk2, hl2, hi2, b2, o2, _, v2, ha2, hc2, rfl, hs2⟩ := zm 2 (by omega)
      refine Gs 5 O (zkA O tg130 (hB_b3.cells 2 _ O) (zkw O O (zjj tR130 ts132 O O ha0 (by omega)) (zkC O tg132 ts132 (hX.cells hc0 (fun h => h)) O (G.call O Tryz.call171 (ihk k0 (zm9 hk0) _ D Dv _ _ hvv (RTm.put (hs0.ext zo hX))) ?_))))
      rintro _ wz4 ⟨rfl, hz4⟩
      obtain ⟨hE, hks, hvv, hB_b3, hX⟩ := Tr5 hz4 hE hks hvv hB_b3 hX
      refine Gs 3 O (ziA O (fun z => ?_) (fun z => ?_))
      ·
       refine Gs 4 O (zkA O tg130 (hB_b3.cells 2 _ O) (zkw O O (zjj tR130 ts132 O O ha1 (by omega)) (zkC O tg132 ts132 (hX.cells hc1 (fun h => h)) O (G.call O Tryz.call171 (ihk k1 (zm9 hk1) _ D Dv _ _ hvv (RTm.put (hs1.ext zo hX))) ?_))))
       rintro _ wz5 ⟨rfl, hz5⟩
       obtain ⟨hE, hks, hvv, hB_b3, hX⟩ := Tr5 hz5 hE hks hvv hB_b3 hX
       refine Gs 7 O (ziU Tryz.results171 O ⟨_, rfl, by rw [hve, jE, zni c0, zni c24, zni c6, zni c7, znj c23, hl0, znj z, hl1], hE⟩)
      ·
       refine Gs 6 O (zkA O tg130 (hB_b3.cells 2 _ O) (zkw O O (zjj tR130 ts132 O O ha2 (by omega)) (zkC O tg132 ts132 (hX.cells hc2 (fun h => h)) O (G.call O Tryz.call171 (ihk k2 (zm9 hk2) _ D Dv _ _ hvv (RTm.put (hs2.ext zo hX))) ?_))))
       rintro _ wz6 ⟨rfl, hz6⟩
       obtain ⟨hE, hks, hvv, hB_b3, hX⟩ := Tr5 hz6 hE hks hvv hB_b3 hX
       refine Gs 6 O (ziU Tryz.results171 O ⟨_, rfl, by rw [hve, jE, zni c0, zni c24, zni c6, zni c7, znj c23, hl0, zni z, hl2], hE⟩)
     ·
      refine Gs 6 O (ziA O (fun c25 => ?_) (fun c25 => ?_))
      ·
       have h1 := ok.k25 c25
       obtain ⟨k0, hk0, hl0, hi0, b0, o0, _, v0, ha0, hc0, rfl, hs0⟩ := zm 0 (by omega)
       have hcl := qi (xV vals k0) (show (0 : Int) <= (t.kids.length : Int) - 2 by omega)
       obtain ⟨kj, hkj, hlj, hij, bj, oj, _, vj, haj, hcj, rfl, hsj⟩ := zm (1 + xS (xV vals k0) 0 ((t.kids.length : Int) - 2)).toNat (by omega)
       refine Gs 1 O (Dw (fun q => Ext w_b3 q) [] (fun wd7 hD _ => ?_))
       refine Ds [0, 1] (by kernel_rfl) O (WD.take 2 O (by kernel_rfl) O O O hD (fun w1 hw1 => R.load tg130 O ((hw1.blk hB_b3 (fun h => h)).cells 2 _ O)) (Ds [3, 4] (by kernel_rfl) O (WD.take 5 O (by kernel_rfl) O O O hD (fun w1 hw1 => R.load tg130 O ((hw1.blk hB_b3 (fun h => h)).cells 2 _ O)) (zjL 6 O (by kernel_rfl) O O O (fun w1 => zjj tR130 ts132 O O ha0 (by omega)) (WD.take 7 O (by kernel_rfl) O O O hD (fun w1 hw1 => zjl tg132 ts132 O (by rfl) ((hX.ext hw1).cells hc0 (fun h => h))) ?_)))))
       refine Ds [9] (by kernel_rfl) O (WD.take 10 O (by kernel_rfl) O O O hD (fun w1 hw1 => R.load tg130 O ((hw1.blk hB_b3 (fun h => h)).cells 2 _ O)) (Da [11, 12] (by kernel_rfl) O (by omega) (WD.call 8 O (by kernel_rfl) O O O (F.call (vs := [_, _]) Tryz.call171 O) (ihk k0 (zm9 hk0) _ D Dv _ _ (hvv.ext zc hD) (RTm.put (hs0.ext zo (hX.ext hD)))) ?_)))
       rintro _ wz8 ⟨rfl, hz8⟩
       replace hD := hD.ext hz8
       refine ⟨fun _ => hD, ?_⟩
       refine WD.call 13 O (by kernel_rfl) O O O (F.call (vs := [_, _, _]) Tryz.call173 O) (zmj _ _ _ _) ?_
       rintro _ wz9 ⟨rfl, hz9⟩
       replace hD := hD.ext hz9
       refine ⟨fun _ => hD, ?_⟩
       refine Da [14] (by kernel_rfl) O (by omega) (zjL 15 O (by kernel_rfl) O O O (fun w1 => zjj tR130 ts132 O O haj (by omega)) (WD.take 16 O (by kernel_rfl) O O O hD (fun w1 hw1 => zjl tg132 ts132 O (by rfl) ((hX.ext hw1).cells hcj (fun h => h))) (WD.call 17 O (by kernel_rfl) O O O (F.call (vs := [_, _]) Tryz.call171 O) (ihk kj (zm9 hkj) _ D Dv _ _ (hvv.ext zc hD) (RTm.put (hsj.ext zo (hX.ext hD)))) ?_)))
       rintro _ wz10 ⟨rfl, hz10⟩
       replace hD := hD.ext hz10
       refine ⟨fun _ => hD, ?_⟩
       refine Ds [18] (by kernel_rfl) O (zjH (by kernel_rfl) ?_ _)
       obtain ⟨hE, hks, hvv, hB_b3, hX⟩ := Tr5 hD hE hks hvv hB_b3 hX
       refine Gs 4 O (ziU Tryz.results171 O ⟨_, rfl, by rw [hve, jE, zni c0, zni c24, zni c6, zni c7, zni c23, znj c25, hl0, zdj, hlj], hE⟩)
      ·
       have h1 := ok.k2 (by omega)
       obtain ⟨k0, hk0, hl0, hi0, b0, o0, _, v0, ha0, hc0, rfl, hs0⟩ := zm 0 (by omega)
       obtain ⟨k1, hk1, hl1, hi1, b1, o1, _, v1, ha1, hc1, rfl, hs1⟩ := zm 1 (by omega)
       refine Gs 4 O (Dw (fun q => Ext w_b3 q) [] (fun wd11 hD _ => ?_))
       refine Ds [0] (by kernel_rfl) O (WD.take 1 O (by kernel_rfl) O O O hD (fun w1 hw1 => R.load tg129 O ((hw1.blk hB_b3 (fun h => h)).cells 0 _ O)) (Ds [2, 3] (by kernel_rfl) O (WD.take 4 O (by kernel_rfl) O O O hD (fun w1 hw1 => R.load tg130 O ((hw1.blk hB_b3 (fun h => h)).cells 2 _ O)) (zjL 5 O (by kernel_rfl) O O O (fun w1 => zjj tR130 ts132 O O ha0 (by omega)) (WD.take 6 O (by kernel_rfl) O O O hD (fun w1 hw1 => zjl tg132 ts132 O (by rfl) ((hX.ext hw1).cells hc0 (fun h => h))) ?_)))))
       refine Ds [8, 9] (by kernel_rfl) O (WD.take 10 O (by kernel_rfl) O O O hD (fun w1 hw1 => R.load tg130 O ((hw1.blk hB_b3 (fun h => h)).cells 2 _ O)) (zjL 11 O (by kernel_rfl) O O O (fun w1 => zjj tR130 ts132 O O ha1 (by omega)) (WD.take 12 O (by kernel_rfl) O O O hD (fun w1 hw1 => zjl tg132 ts132 O (by rfl) ((hX.ext hw1).cells hc1 (fun h => h))) (WD.call 7 O (by kernel_rfl) O O O (F.call (vs := [_, _]) Tryz.call171 O) (ihk k0 (zm9 hk0) _ D Dv _ _ (hvv.ext zc hD) (RTm.put (hs0.ext zo (hX.ext hD)))) ?_))))
       rintro _ wz12 ⟨rfl, hz12⟩
       replace hD := hD.ext hz12
       refine ⟨fun _ => hD, ?_⟩
       refine WD.call 13 O (by kernel_rfl) O O O (F.call (vs := [_, _]) Tryz.call171 O) (ihk k1 (zm9 hk1) _ D Dv _ _ (hvv.ext zc hD) (RTm.put (hs1.ext zo (hX.ext hD)))) ?_
       rintro _ wz13 ⟨rfl, hz13⟩
       replace hD := hD.ext hz13
       refine ⟨fun _ => hD, ?_⟩
       refine WD.call 14 O (by kernel_rfl) O O O (F.call (vs := [_, _, _]) Tryz.call190 O) (zmB _ _ _ _ hi0 hi1) ?_
       rintro _ wz14 ⟨rfl, hz14⟩
       replace hD := hD.ext hz14
       refine ⟨fun _ => hD, ?_⟩
       refine Ds [15] (by kernel_rfl) O (zjH (by kernel_rfl) ?_ _)
       obtain ⟨hE, hks, hvv, hB_b3, hX⟩ := Tr5 hD hE hks hvv hB_b3 hX
       refine Gs 2 O (ziU Tryz.results171 O ⟨_, rfl, by rw [hve, jE, zni c0, zni c24, zni c6, zni c7, zni c23, zni c25, hl0, hl1], hE⟩)
section
variable {f : Fl} (V : Valid f)
include V
theorem Valid.plain : zei f.body = true := zmG V.ok
end
open Go.GL
theorem znb (l : List Int) (v : Value) (D : Nat -> Prop) (w : World) (i : Nat) (h : SlR 1 zF D w v l) :
  Calls Tryz.prog 168 #[v, .int .i64 i] w (Ret fun r w' => r = .tuple #[.int .i64 (l[i]?.getD 0), .bool (decide (i < l.length))] /\ Ext w w') := by
 obtain ⟨av, cv, rfl⟩ := h.form
 refine zkH Tryz.func168 O Tryz.ntmps168 O (zkS ?_)
 refine Vs 15 O ?_
 refine ziB O (fun hge => ?_) (fun hge => ?_)
 ·
  refine Vs 8 O ?_
  refine ziY Tryz.results168 O O (fun w hI => ⟨_, rfl, by rw [znl (by omega), zno (by omega)]; rfl, hI.k0⟩)
 ·
  refine Vs 6 O ?_
  obtain ⟨x, he_x, hm_x⟩ := gE_ l (i) (by omega)
  obtain ⟨b_x, o_x, c_x, ha_x, _, hc_x, hR_x⟩ := h.at he_x
  obtain rfl := hR_x
  refine zlf 1000 0 O O hc_x ?_
  refine zkZ 1000 tR31 ts3 O ha_x (by omega) (_) (rfl) O ?_
  refine Vs 6 O ?_
  refine ziY Tryz.results168 O O (fun w hI => ⟨_, rfl, by rw [znk (by omega), he_x]; rfl, hI.k0⟩)
theorem zmH (vs : List Vr) (r : Ins) (vv s1 s2 s3 : Value) (Dv D1 D2 D3 : Nat -> Prop) (w : World) (hvs : SlR 5 RVr Dv w vv vs) (hlen : vs.length <= 1000000) (hkv : ∀ v ∈ vs, 0 <= v.kind /\ v.kind <= 3) (hi1 : SlR 1 zF D1 w s1 r.secret) (hi2 : SlR 1 zF D2 w s2 r.pub) (hi3 : SlR 1 zF D3 w s3 r.random) :
  Calls Tryz.prog 140 #[vv, .agg #[s1, s2, s3]] w (Ret fun rr w' => (∃ u, rr = .tuple #[u, .int .i64 (zM vs r)] /\ (zM vs r ≠ 0 -> u = .slice none 0 0) /\ (zM vs r = 0 -> w'.ownsRow 0 3 1 u (xm vs r).length ((xm vs r).map zi) /\ ∀ g, u.ownBlock = some g -> w.heap.size <= g)) /\ Ext w w') := by
 obtain ⟨av, cv, rfl⟩ := hvs.form
 obtain ⟨a1, c1, rfl⟩ := hi1.form
 obtain ⟨a2, c2, rfl⟩ := hi2.form
 obtain ⟨a3, c3, rfl⟩ := hi3.form
 refine zkH Tryz.func140 O Tryz.ntmps140 O (zkS ?_)
 refine Vs 2 O ?_
 refine V.box 3 O O (fun b3 => ?_)
 refine Vs 13 O ?_
 refine V.bs0 15 tR31 ts3 O (fun b15 => ?_)
 refine Vs 15 O ?_
 refine zli (σ := Nat × StS × Value × Bool) [0, 3] [3] [3] O (fun e ⟨i, s, u, b⟩ => (6, .int .i64 s.a) :: (7, .int .i64 s.b) :: (8, .int .i64 s.c) :: (9, u) :: (10, .bool b) :: (11, .int .i64 i) :: e) (fun e ⟨i, s, u, b⟩ => (15, .row 3 1 u s.vals.length (s.vals.map zi)) :: e) (fun ⟨i, s, u, b⟩ => i <= vs.length /\ (vs.take i).foldl (zy r) (some ⟨[], 0, 0, 0⟩) = some s /\ b = ((vs.take i).zip s.vals).all inB) (fun ⟨i, s, u, b⟩ => vs.length - i) ((0, ⟨[], 0, 0, 0⟩, .slice (some ⟨b15, 0, none⟩) 0 0, true)) (zkg O) (zkh O) (fun _ => rfl) (fun _ => rfl) (fun _ => rfl) (⟨znm _, rfl, rfl⟩) ?_
 rintro ⟨i, s, u, b⟩ ⟨hi, hs, hb⟩
 show V _ _ _ _ _ ((6, .int .i64 s.a) :: (7, .int .i64 s.b) :: (8, .int .i64 s.c) :: (9, u) :: (10, .bool b) :: (11, .int .i64 i) :: _) _ ((15, .row 3 1 u s.vals.length (s.vals.map zi)) :: _) _
 obtain ⟨hv1, ha, hb1, hc⟩ := zaF i s hi hs
 refine Vs 9 O ?_
 refine ziB O (fun hlt => ?_) (fun hlt => ?_)
 ·
  refine Vs 8 O ?_
  obtain ⟨x, he_x, hm_x⟩ := gE_ vs (i) (by omega)
  obtain ⟨b_x, o_x, c_x, ha_x, _, hc_x, hR_x⟩ := hvs.at he_x
  obtain rfl := hR_x
  refine zlf 1000 0 O O hc_x ?_
  refine zkZ 1000 tR52 ts120 O ha_x (by omega) (_) (rfl) O ?_
  have hst := zad he_x hs
  refine Vs 1 O ?_
  refine V.alloc 12 tz120 O O (fun b12 => ?_)
  refine Vs 18 O ?_
  have hkx := hkv x hm_x
  refine zlj (σ := Bool × Int × Nat × Nat × Nat) [0, 3, 9, 10, 11, 12] [3, 12, 15] [3, 12] O (fun e ⟨ok, n, a', b', c'⟩ => (13, .int .i64 n) :: (14, .bool ok) :: (6, .int .i64 a') :: (7, .int .i64 b') :: (8, .int .i64 c') :: e) (fun e ⟨ok, n, a', b', c'⟩ => e) (fun ⟨ok, n, a', b', c'⟩ => (vs.take (i + 1)).foldl (zy r) (some ⟨[], 0, 0, 0⟩) = if ok then some ⟨s.vals ++ [n], a', b', c'⟩ else none) (fun _ => rfl) (fun _ => rfl) ?_ ?_
  ·
   refine Vs 7 O ?_
   refine ziB O (fun k1 => ?_) (fun k1 => ?_)
   ·
    refine Vs 5 O ?_
    refine zl7 Tryz.call168 O (fun w hI => znb r.secret _ D1 w s.a (Tr1 hI.k0 hi1)) ?_
    rw [zni (by omega), show xW r x.kind = r.secret by unfold xW; rw [znj k1], show zac s x.kind = s.a by unfold zac; rw [znj k1]] at hst
    have hq : (vs.take (i + 1)).foldl (zy r) (some ⟨[], 0, 0, 0⟩) = if decide (s.a < r.secret.length) then some ⟨s.vals ++ [r.secret[s.a]?.getD 0], s.a + 1, s.b, s.c⟩ else none := by
     rw [hst]
     by_cases hl : s.a < r.secret.length
     . rw [znj (znk hl), zm8 hl]; simp [kh, k1]
     . rw [zni (by simp [hl]), zno (by omega)]; rfl
    refine Va 13 O (by omega) ?_
    refine ziR (⟨_, _, s.a + 1, s.b, s.c⟩) (zkg O) (zkh O) (hq) 0 O O
   ·
    refine Vs 6 O ?_
    refine ziB O (fun k2 => ?_) (fun k2 => ?_)
    ·
     refine Vs 5 O ?_
     refine zl7 Tryz.call168 O (fun w hI => znb r.pub _ D2 w s.b (Tr1 hI.k0 hi2)) ?_
     rw [zni (by omega), show xW r x.kind = r.pub by unfold xW; rw [zni k1, znj k2], show zac s x.kind = s.b by unfold zac; rw [zni k1, znj k2]] at hst
     have hq : (vs.take (i + 1)).foldl (zy r) (some ⟨[], 0, 0, 0⟩) = if decide (s.b < r.pub.length) then some ⟨s.vals ++ [r.pub[s.b]?.getD 0], s.a, s.b + 1, s.c⟩ else none := by
      rw [hst]
      by_cases hl : s.b < r.pub.length
      . rw [znj (znk hl), zm8 hl]; simp [kh, k2]
      . rw [zni (by simp [hl]), zno (by omega)]; rfl
     refine Va 13 O (by omega) ?_
     refine ziR (⟨_, _, s.a, s.b + 1, s.c⟩) (zkg O) (zkh O) (hq) 0 O O
    ·
     refine Vs 6 O ?_
     refine ziB O (fun k3 => ?_) (fun k3 => ?_)
     ·
      refine Vs 5 O ?_
      refine zl7 Tryz.call168 O (fun w hI => znb r.random _ D3 w s.c (Tr1 hI.k0 hi3)) ?_
      rw [zni (by omega), show xW r x.kind = r.random by unfold xW; rw [zni k1, zni k2], show zac s x.kind = s.c by unfold zac; rw [zni k1, zni k2]] at hst
      have hq : (vs.take (i + 1)).foldl (zy r) (some ⟨[], 0, 0, 0⟩) = if decide (s.c < r.random.length) then some ⟨s.vals ++ [r.random[s.c]?.getD 0], s.a, s.b, s.c + 1⟩ else none := by
       rw [hst]
       by_cases hl : s.c < r.random.length
       . rw [znj (znk hl), zm8 hl]; simp [kh, k1, k2]
       . rw [zni (by simp [hl]), zno (by omega)]; rfl
      refine Va 13 O (by omega) ?_
      refine ziR (⟨_, _, s.a, s.b, s.c + 1⟩) (zkg O) (zkh O) (hq) 0 O O
     ·
      rw [znj (by omega)] at hst
      refine Vs 2 O ?_
      refine ziR (⟨true, x.init, s.a, s.b, s.c⟩) (zkg O) (zkh O) (by rw [hst]; rfl) 0 O O
  rintro ⟨ok, n, a', b', c'⟩ hq
  show V _ _ _ _ _ ((13, .int .i64 n) :: (14, .bool ok) :: (6, .int .i64 a') :: (7, .int .i64 b') :: (8, .int .i64 c') :: _) _ (_) _
  dsimp only at hq
  refine Vs 5 O ?_
  refine zkx O (fun w hI => zk0 O (by first | exact za | rfl)) ?_
  refine Vs 2 O ?_
  refine V.bool O (fun hok => ?_) (fun hok => ?_)
  ·
   have hok' : ok = false := by simpa using hok
   have hN : zM vs r = 1 := by unfold zM; rw [zcI (by rw [hq, hok']; rfl)]
   refine Vs 13 O ?_
   refine ziY Tryz.results140 O O (fun w hI => ⟨_, rfl, ⟨_, by rw [hN], fun _ => rfl, fun h => by omega⟩, hI.k0⟩)
  ·
   have hok' : ok = true := by simpa using hok
   rw [hok', znj rfl] at hq
   have hz : ∀ c, c = inB (x, n) -> (b && c) = ((vs.take (i + 1)).zip (s.vals ++ [n])).all inB := by
    intro c hc
    rw [zg he_x, List.zip_append (by rw [hv1, List.length_take]; omega), List.all_append, <- hb, hc]
    simp
   refine Vs 10 O ?_
   refine zkt 69 O (fun g1 => ?_) (fun g1 => ?_)
   ·
    refine Vs 15 O ?_
    refine zll 77 [(0, _)] tR31 ts3 tz3 (by decide) O O (by kernel_rfl) (fun b77 => ?_)
    refine V.ap 15 77 tu31 Tryz.el3 O (by decide) O O (by omega) (by omega) (fun u15 => ?_)
    refine Va 9 O (by omega) ?_
    refine zlh 15 O (e' := .row 3 1 u15 (s.vals ++ [n]).length ((s.vals ++ [n]).map zi)) (by simp [zi]) ?_
    refine ziM (⟨i + 1, ⟨s.vals ++ [n], a', b', c'⟩, u15, false⟩) (zkg O) (zkh O) (⟨by omega, hq, by rw [<- hz false (by unfold inB; rw [znl (p := x.low <= n) (by omega)]; rfl), Bool.and_false]⟩) (by first | omega | (dsimp only; omega)) 0 O O
   ·
    refine Vs 7 O ?_
    refine ziB O (fun t1 => ?_) (fun t1 => ?_)
    ·
     refine Vs 7 O ?_
     refine zll 1077 [(0, _)] tR31 ts3 tz3 (by decide) O O (by kernel_rfl) (fun b1077 => ?_)
     refine V.ap 15 1077 tu31 Tryz.el3 O (by decide) O O (by omega) (by omega) (fun u15 => ?_)
     refine Va 9 O (by omega) ?_
     refine zlh 15 O (e' := .row 3 1 u15 (s.vals ++ [n]).length ((s.vals ++ [n]).map zi)) (by simp [zi]) ?_
     refine ziM (⟨i + 1, ⟨s.vals ++ [n], a', b', c'⟩, u15, false⟩) (zkg O) (zkh O) (⟨by omega, hq, by rw [<- hz false (by unfold inB; rw [znl (p := n <= x.high) (by omega), Bool.and_false]), Bool.and_false]⟩) (by first | omega | (dsimp only; omega)) 0 O O
    ·
     refine Vs 5 O ?_
     refine zll 2077 [(0, _)] tR31 ts3 tz3 (by decide) O O (by kernel_rfl) (fun b2077 => ?_)
     refine V.ap 15 2077 tu31 Tryz.el3 O (by decide) O O (by omega) (by omega) (fun u15 => ?_)
     refine Va 9 O (by omega) ?_
     refine zlh 15 O (e' := .row 3 1 u15 (s.vals ++ [n]).length ((s.vals ++ [n]).map zi)) (by simp [zi]) ?_
     refine ziM (⟨i + 1, ⟨s.vals ++ [n], a', b', c'⟩, u15, b⟩) (zkg O) (zkh O) (⟨by omega, hq, by rw [<- hz true (by unfold inB; rw [znk (p := x.low <= n) (by omega), znk (p := n <= x.high) (by omega)]; rfl), Bool.and_true]⟩) (by first | omega | (dsimp only; omega)) 0 O O
 ·
  have hii : i = vs.length := by omega
  rw [hii, zmd] at hs hb
  have hS : jT vs r = some s := hs
  have hC : zM vs r = ku vs r s := by unfold zM; rw [hS]
  have hV : xm vs r = s.vals := by unfold xm; rw [hS]
  rw [hC, hV]
  refine Vs 14 O ?_
  refine zkt 84 O (fun e1 => ?_) (fun e1 => ?_)
  ·
   have hF : ku vs r s = 1 := by unfold ku; rw [znj (.inl (by omega))]
   rw [hF]
   refine Vs 24 O ?_
   refine ziY Tryz.results140 O O (fun w hI => ⟨_, rfl, ⟨_, rfl, fun _ => rfl, fun h => by omega⟩, hI.k0⟩)
  ·
   refine Vs 7 O ?_
   refine zkt 91 O (fun e2 => ?_) (fun e2 => ?_)
   ·
    have hF : ku vs r s = 1 := by unfold ku; rw [znj (.inr (.inl (by omega)))]
    rw [hF]
    refine Vs 17 O ?_
    refine ziY Tryz.results140 O O (fun w hI => ⟨_, rfl, ⟨_, rfl, fun _ => rfl, fun h => by omega⟩, hI.k0⟩)
   ·
    refine Vs 8 O ?_
    refine ziB O (fun e3 => ?_) (fun e3 => ?_)
    ·
     have hF : ku vs r s = 1 := by unfold ku; rw [znj (.inr (.inr (by omega)))]
     rw [hF]
     refine Vs 8 O ?_
     refine ziY Tryz.results140 O O (fun w hI => ⟨_, rfl, ⟨_, rfl, fun _ => rfl, fun h => by omega⟩, hI.k0⟩)
    ·
     have hF : ku vs r s = if b = true then 0 else 3 := by unfold ku; rw [zni (by omega), hb]
     rw [hF]
     refine Vs 6 O ?_
     refine zkx O (fun w hI => zk0 O (by first | exact za | rfl)) ?_
     refine Vs 2 O ?_
     refine V.bool O (fun hb3 => ?_) (fun hb3 => ?_)
     ·
      have hb' : b = false := by simpa using hb3
      rw [hb', zni (by decide)]
      refine Vs 8 O ?_
      refine ziY Tryz.results140 O O (fun w hI => ⟨_, rfl, ⟨_, rfl, fun _ => rfl, fun h => by omega⟩, hI.k0⟩)
     ·
      have hb' : b = true := by simpa using hb3
      rw [hb', znj rfl]
      refine Vs 10 O ?_
      refine ziY Tryz.results140 O O (fun w hI => ⟨_, rfl, ⟨_, rfl, fun h => absurd O h, fun _ => ⟨hI.at 15 rfl, hI.own 15 0 O rfl⟩⟩, hI.k0⟩)
theorem zmq (l : List Int) : l.flatMap (fun x => [zi x]) = l.map zi := (zn3 l).symm
theorem zmC (vs : List Vr) (vals : List Int) (n i : Int) (v1 v2 v3 sv : Value) (Dv D : Nat -> Prop) (w : World) (hvs : SlR 5 RVr Dv w v1 vs) (hs : SlR 1 zF D w sv vals) (hlen : vals.length = vs.length) (hmx : vs.length <= 1000000) (hi : 0 <= i /\ i < vs.length) :
  Calls Tryz.prog 170 #[.agg #[v1, v2, v3], sv, .int .i64 i, .int .i64 n] w (Ret fun rr w' => (w'.ownsRow 0 3 1 rr vals.length ((zaw vs vals i n).map zi) /\ ∀ g, rr.ownBlock = some g -> w.heap.size <= g) /\ Ext w w') := by
 obtain ⟨av, cv, rfl⟩ := hvs.form
 obtain ⟨asl, csl, rfl⟩ := hs.form
 obtain ⟨i, rfl⟩ : ∃ j : Nat, i = j := ⟨i.toNat, by omega⟩
 refine zkJ Tryz.func170 O Tryz.ntmps170 O (zkS ?_)
 refine Vs 2 O ?_
 refine V.box 4 O O (fun b4 => ?_)
 refine Vs 5 O ?_
 refine V.bs0 10 tR31 ts3 O (fun b10 => ?_)
 refine Vs 1 O ?_
 refine V.apS 10 (fun x => [zi x]) (fun _ => rfl) (by simp [Value.oneCell']) zfO tu31 Tryz.el3 O (by decide) O (fun w hI => ⟨_, Tr1 hI.k0 hs⟩) (by omega) (by omega) (fun u10 => ?_)
 refine zlh 10 O (e' := .row 3 1 u10 vals.length (vals.map zi)) (by rw [zmq, Nat.zero_add]; rfl) ?_
 refine zl4 10 O (by omega) ?_
 rintro b c rfl hcap_10
 refine Vs 4 O ?_
 obtain ⟨x, he_x, hm_x⟩ := gE_ vs (i) (by omega)
 obtain ⟨b_x, o_x, c_x, ha_x, _, hc_x, hR_x⟩ := hvs.at he_x
 obtain rfl := hR_x
 refine zlf 1000 0 O O hc_x ?_
 refine Vw [4, 1000] [] O ?_
 refine Vd [0, 1, 2, 3, 4, 5, 9, 10, 11] 0 (by kernel_rfl) O O O ?_
 refine zl0 6 1000 tR52 ts120 O (by kernel_rfl) O ha_x (by omega) (_) (rfl) O ?_
 refine Vd [7, 8] 0 (by kernel_rfl) O O O ?_
 refine zl0 12 1000 tR52 ts120 O (by kernel_rfl) O ha_x (by omega) (_) (rfl) O ?_
 refine Vd [13, 14] 0 (by kernel_rfl) O O O ?_
 refine zl8 15 0 Tryz.call173 O (by kernel_rfl) O O (fun w hI => zmj n x.low x.high w) ?_
 refine Vb [16] 0 (by kernel_rfl) O O O (by omega) ?_
 refine zl6 17 10 0 (i) ts3 O (by kernel_rfl) O O (by omega) (by simp; omega) ?_
 refine zjI (by kernel_rfl) ?_
 refine Vs 8 O ?_
 have hx : zaw vs vals i n = vals.set i (xS n x.low x.high) := by unfold zaw; rw [Int.toNat_natCast, he_x]
 refine zlh 10 O (e' := .row 3 1 (.slice (some ⟨b, 0, none⟩) vals.length c) vals.length ((zaw vs vals i n).map zi)) (by rw [hx, List.map_set]) ?_
 refine ziV Tryz.results170 O (fun w hI => ⟨_, rfl, ⟨hI.at 10 rfl, hI.own 10 0 O rfl⟩, hI.k0⟩)
theorem zmv (f : Fl) (vals : List Int) (v1 v2 v3 sv : Value) (D Ds : Nat -> Prop) (w : World) (hf : RFl D w f v1 v2 v3) (hs : SlR 1 zF Ds w sv vals) (hg : ∀ v ∈ f.vars, yn (v.low, v.high)) (hV : InV f.vars vals) (hh : ∀ h ∈ f.hatches, zx f.vars false h.term = true /\ (rng f.vars h.term).isSome = true) (hmx : f.hatches.length <= 1000000) :
  Calls Tryz.prog 142 #[.agg #[v1, v2, v3], sv] w (Ret fun rr w' => (w'.ownsRow 0 3 1 rr f.hatches.length ((zfN vals f.hatches).map zi) /\ ∀ g, rr.ownBlock = some g -> w.heap.size <= g) /\ Ext w w') := by
 obtain ⟨hf1, hf2, hf3⟩ := hf
 obtain ⟨ah, ch, rfl⟩ := hf2.form
 refine zkH Tryz.func142 O Tryz.ntmps142 O (zkS ?_)
 refine Vs 2 O ?_
 refine V.box 2 O O (fun b2 => ?_)
 refine Vs 5 O ?_
 refine V.bs0 8 tR31 ts3 O (fun b8 => ?_)
 refine Vs 10 O ?_
 refine zli (σ := Nat × Value) [1, 2] [2] [2] O (fun e ⟨i, u⟩ => (5, u) :: (6, .int .i64 i) :: e) (fun e ⟨i, u⟩ => (8, .row 3 1 u i ((zfN vals (f.hatches.take i)).map zi)) :: e) (fun ⟨i, u⟩ => i <= f.hatches.length) (fun ⟨i, u⟩ => f.hatches.length - i) ((0, .slice (some ⟨b8, 0, none⟩) 0 0)) (zkg O) (zkh O) (fun _ => rfl) (fun _ => rfl) (fun _ => rfl) (znm _) ?_
 rintro ⟨i, u⟩ hi
 show V _ _ _ _ _ ((5, u) :: (6, .int .i64 i) :: _) _ ((8, .row 3 1 u i ((zfN vals (f.hatches.take i)).map zi)) :: _) _
 refine Vs 10 O ?_
 refine ziB O (fun hlt => ?_) (fun hlt => ?_)
 ·
  refine Vs 9 O ?_
  obtain ⟨x, he_x, hm_x⟩ := gE_ f.hatches (i) (by omega)
  obtain ⟨b_x, o_x, c_x, ha_x, _, hc_x, hR_x⟩ := hf2.at he_x
  obtain ⟨v1_x, rfl, hk_x⟩ := hR_x
  obtain ⟨a1_x, n1_x, rfl⟩ := hk_x.form
  refine zlf 1000 0 O O hc_x ?_
  refine zkZ 1000 tR53 ts137 O ha_x (by omega) (_) (rfl) O ?_
  obtain ⟨t1, t2⟩ := hh x hm_x
  refine Vs 1 O ?_
  refine V.alloc 7 tz137 O O (fun b7 => ?_)
  refine Vs 3 O ?_
  refine Vw [2, 1000, 7] [] O ?_
  refine Vd [0, 1, 2, 3, 5, 6, 7, 8] 0 (by kernel_rfl) O O O ?_
  refine zl8 4 0 Tryz.call171 O (by kernel_rfl) O O (fun w hI => ziu hg hV x.term t1 t2 _ D Ds w _ (Tr1 hI.k0 hs) (RTm.put (Tr1 hI.k0 hk_x))) ?_
  refine zl8 9 0 Tryz.call173 O (by kernel_rfl) O O (fun w hI => zmj _ x.low x.high w) ?_
  refine zlm 10 31 0 [(0, _)] tR31 ts3 tz3 (by decide) O (by kernel_rfl) O O (by kernel_rfl) (fun b31 => ?_)
  refine zl3 11 8 31 0 tu31 Tryz.el3 O (by decide) O (by kernel_rfl) O O O (by omega) (by omega) (fun u8 => ?_)
  refine Vd [12] 0 (by kernel_rfl) O O O ?_
  refine zjI (by kernel_rfl) ?_
  refine Va 7 O (by omega) ?_
  refine zlh 8 O (e' := .row 3 1 u8 (i + 1) ((zfN vals (f.hatches.take (i + 1))).map zi)) (by rw [zeI he_x, List.map_append]; rfl) ?_
  refine ziM ((i + 1, u8)) (zkg O) (zkh O) (Nat.succ_le_of_lt (by omega)) (by first | omega | (dsimp only; omega)) 0 O O
 ·
  have hii : i = f.hatches.length := by omega
  subst hii
  refine Vs 12 O ?_
  refine ziV Tryz.results142 O (fun w hI => ⟨_, rfl, ⟨by have h := hI.at 8 rfl; rwa [zmd] at h, hI.own 8 0 O rfl⟩, hI.k0⟩)
theorem zmK (vs : List Vr) (vals : List Int) (i n : Int) : (zaw vs vals i n).length = vals.length := by
 unfold zaw; split
 . rw [List.length_set]
 . rfl
abbrev sgV (σ : Sg) (a1 : Option Addr) (c1 : Nat) (a2 : Option Addr) (c2 : Nat) : Value := .agg #[.slice a1 σ.vals.length c1, .slice a2 σ.outs.length c2, .int .i64 σ.time]
abbrev SlI (D : Nat -> Prop) (w : World) (a : Option Addr) (c : Nat) (l : List Int) : Prop := SlR 1 zF D w (.slice a l.length c) l
def znf (D : Nat -> Prop) (w w' : World) (σ : Sg) (r : Value) : Prop := ∃ a1 c1 a2 c2, r = sgV σ a1 c1 a2 c2 /\ SlI (fun b => D b \/ w.heap.size <= b) w' a1 c1 σ.vals /\ SlI (fun b => D b \/ w.heap.size <= b) w' a2 c2 σ.outs
def zmU (f : Fl) (hs : List Int) (l : List St) : Prop := ∀ (N : Nat) (σ : Sg), SgB f N σ -> N + nbL l <= 100000 -> ∀ (D Df Dh : Nat -> Prop) (w : World) (v1 v2 v3 hv lv : Value) (a1 : Option Addr) (c1 : Nat) (a2 : Option Addr) (c2 : Nat), (∀ b, D b -> b < w.heap.size) -> RFl Df w f v1 v2 v3 -> SlR 1 zF Dh w hv hs -> SlR 10 RSt Df w lv l -> SlI D w a1 c1 σ.vals -> SlI D w a2 c2 σ.outs ->
 Calls Tryz.prog 141 #[.agg #[v1, v2, v3], hv, lv, sgV σ a1 c1 a2 c2] w (Ret fun r w' => znf D w w' (exL f hs l σ) r /\ Ext w w')
theorem zmV (f : Fl) (hs : List Int) (hg : ∀ v ∈ f.vars, yn (v.low, v.high)) (x : St) (ho : StepOk f x) (hn : 0 <= x.n) (hp : PreOk f x.thn) (ih : zmU f hs x.thn) (N : Nat) (σ : Sg) (hB : SgB f N σ) (hN : N + x.n.toNat * (1 + nbL x.thn) <= 100000) (D Df Dh : Nat -> Prop) (w : World) (v1 v2 v3 hv : Value) (a1 : Option Addr) (c1 : Nat) (a2 : Option Addr) (c2 : Nat) (_ : ∀ b, D b -> b < w.heap.size) (hf : RFl Df w f v1 v2 v3) (hh : SlR 1 zF Dh w hv hs) (ax : Option Addr) (nx : Nat) (bx : Option Addr) (mx : Nat) (ex : Option Addr) (ox : Nat) (fx : Option Addr) (px : Nat)
  (hk : SlR 3 RTm Df w (.slice ax x.term.kids.length nx) x.term.kids) (ht : SlR 10 RSt Df w (.slice bx x.thn.length mx) x.thn) (hs1 : SlI D w a1 c1 σ.vals) (hs2 : SlI D w a2 c2 σ.outs) :
  Calls Tryz.prog 169 #[.agg #[v1, v2, v3], hv, .agg #[.int .i64 x.act, .int .i64 x.cost, .int .i64 x.var, .int .i64 x.n, .int .i64 x.term.op, .int .i64 x.term.n, .slice ax x.term.kids.length nx, .slice bx x.thn.length mx, .slice ex x.els.length ox, .slice fx x.bounds.length px], sgV σ a1 c1 a2 c2] w
   (Ret fun r w' => znf D w w' (xP (exL f hs x.thn) x.cost x.term x.n.toNat σ) r /\ Ext w w') := by
 refine zkJ Tryz.func169 O Tryz.ntmps169 O (zkS ?_)
 refine Vs 2 O ?_
 refine V.box 4 O O (fun b4 => ?_)
 refine V.box 6 O O (fun b6 => ?_)
 refine V.box 7 O O (fun b7 => ?_)
 refine V.alloc 8 Tryz.zeroValue160 O O (fun b8 => ?_)
 refine Vs 9 O ?_
 refine V.dat 900 0 O O O (hs1) (fun _ _ _ h => h) ?_
 refine V.dat 901 0 O O O (hs2) (fun _ _ _ h => h) ?_
 refine zli (σ := Nat × Sg × Option Addr × Nat × Option Addr × Nat × (Nat -> Prop) × (Nat -> Prop)) [1, 4, 6, 7, 8] [4, 6, 8] [4, 6, 7, 8] O (fun e ⟨k, s, p1, q1, p2, q2, F1, F2⟩ => (9, .int .i64 k) :: e) (fun e ⟨k, s, p1, q1, p2, q2, F1, F2⟩ => (7, .own b7 [.slice p1 s.vals.length q1, .slice p2 s.outs.length q2, .int .i64 s.time] 160) :: (900, .dat F1 (fun w => SlI F1 w p1 q1 s.vals)) :: (901, .dat F2 (fun w => SlI F2 w p2 q2 s.outs)) :: e) (fun ⟨k, s, p1, q1, p2, q2, F1, F2⟩ => k <= x.n.toNat /\ xP (exL f hs x.thn) x.cost x.term x.n.toNat σ = xP (exL f hs x.thn) x.cost x.term (x.n.toNat - k) s /\ SgB f (N + k * (1 + nbL x.thn)) s /\ (∀ b, F1 b -> D b \/ w.heap.size <= b) /\ (∀ b, F2 b -> D b \/ w.heap.size <= b)) (fun ⟨k, s, p1, q1, p2, q2, F1, F2⟩ => x.n.toNat - k) ((0, σ, a1, c1, a2, c2, fun b => D b /\ b < w.heap.size, fun b => D b /\ b < w.heap.size)) (zkg O) (zkh O) (fun _ => rfl) (fun _ => rfl) (fun _ => rfl) (⟨znm _, rfl, by simpa using hB, fun b h => .inl h.1, fun b h => .inl h.1⟩) ?_
 rintro ⟨k, s, p1, q1, p2, q2, F1, F2⟩ ⟨hk1, hall, hsB, hF1, hF2⟩
 show V _ _ _ _ _ ((9, .int .i64 k) :: _) _ ((7, .own b7 [.slice p1 s.vals.length q1, .slice p2 s.outs.length q2, .int .i64 s.time] 160) :: (900, .dat F1 (fun w => SlI F1 w p1 q1 s.vals)) :: (901, .dat F2 (fun w => SlI F2 w p2 q2 s.outs)) :: _) _
 have hcost := ho.cost
 have ht0 := hsB.t0
 have ht1 := hsB.t1
 refine Vs 9 O ?_
 refine ziB O (fun hlt => ?_) (fun hlt => ?_)
 ·
  obtain ⟨m, hm⟩ : ∃ m, x.n.toNat - k = m + 1 := ⟨x.n.toNat - k - 1, by omega⟩
  have hm' : x.n.toNat - (k + 1) = m := by omega
  have hkn : (k + 1) * (1 + nbL x.thn) <= x.n.toNat * (1 + nbL x.thn) := Nat.mul_le_mul_right _ (by omega)
  rw [Nat.succ_mul] at hkn
  have hkb : k <= k * (1 + nbL x.thn) := Nat.le_mul_of_pos_right _ (by omega)
  rw [hm, xP] at hall
  have hs1' := hsB.cost ho
  refine Va 22 O (by omega) ?_
  refine zl7 Tryz.call171 O (fun w hI => ziu hg hsB.inv x.term ho.formed ho.ranged _ Df F1 w _ (hI.at 900 O).1 (RTm.put (Tr1 hI.k0 hk))) ?_
  refine Vs 3 O ?_
  refine ziB O (fun z => ?_) (fun z => ?_)
  ·
   rw [znj z] at hall
   rw [hall]
   refine Vs 13 O ?_
   refine zj3 Tryz.results169 Tryz.isAgg160 Tryz.sizeOf160 O O O (fun w hI => ⟨_, rfl, ⟨_, _, _, _, rfl, (hI.at 900 O).1.wide zc hF1, (hI.at 901 O).1.wide zc hF2⟩, hI.k0⟩)
  ·
   rw [zni z] at hall
   refine Vs 8 O ?_
   refine zl9 Tryz.call141 O (fun w hI => ih _ { s with time := s.time + x.cost } hs1' (by omega) (fun b => F1 b \/ F2 b) Df Dh w v1 v2 v3 hv _ p1 q1 p2 q2 (fun b hb => hb.elim ((hI.at 900 O).2 b) ((hI.at 901 O).2 b)) (Tr1 hI.k0 hf) (Tr1 hI.k0 hh) (Tr1 hI.k0 ht) ((hI.at 900 O).1.wide zc (fun _ h => .inl h)) ((hI.at 901 O).1.wide zc (fun _ h => .inr h))) ?_
   rintro r w1 w2 hI1 hk12 ⟨p1', q1', p2', q2', rfl, hr1, hr2⟩ hlow
   have hoff : ∀ b, ((F1 b \/ F2 b) \/ w1.heap.size <= b) -> b < w2.heap.size -> ¬ HS _ b := fun b hb _ => hb.elim (fun h => h.elim (hI1.offF 900 rfl b) (hI1.offF 901 rfl b)) (fun h hs => by have := hlow b hs; omega)
   have hsz : w.heap.size <= w1.heap.size := hI1.k0.size
   refine Va 9 O (by omega) ?_
   refine V.del 900 O ?_
   refine V.dat 900 0 O O O (hr1) (hoff) ?_
   refine V.del 901 O ?_
   refine V.dat 901 0 O O O (hr2) (hoff) ?_
   have hFF : ∀ b, ((F1 b \/ F2 b) \/ w1.heap.size <= b) /\ b < w2.heap.size -> D b \/ w.heap.size <= b := fun b hb => hb.1.elim (fun h => h.elim (hF1 b) (hF2 b)) (fun h => .inr (by omega))
   refine ziM (⟨k + 1, _, p1', q1', p2', q2', _, _⟩) (zkg O) (zkh O) (⟨by omega, by rw [hm']; exact hall, (zaf hg x.thn hp _ _ hs1').mono (by rw [Nat.succ_mul]; omega), hFF, hFF⟩) (by first | omega | (dsimp only; omega)) 1 O O
 ·
  have hkk : k = x.n.toNat := by omega
  rw [hkk, Nat.sub_self, xP] at hall
  rw [hall]
  refine Vs 12 O ?_
  refine zj3 Tryz.results169 Tryz.isAgg160 Tryz.sizeOf160 O O O (fun w hI => ⟨_, rfl, ⟨_, _, _, _, rfl, (hI.at 900 O).1.wide zc hF1, (hI.at 901 O).1.wide zc hF2⟩, hI.k0⟩)
theorem zn4 (f : Fl) (hs : List Int) (hg : ∀ v ∈ f.vars, yn (v.low, v.high)) (hlen : hs.length = f.hatches.length) (hvl : f.vars.length <= 1000) (l : List St) : PreOk f l -> zmU f hs l := by
 induction l using zk9 with
 | h l ih =>
 intro hp N σ hB hN D Df Dh w v1 v2 v3 hv lv a1 c1 a2 c2 hD hf hh hl hs1 hs2
 obtain ⟨al, cl, rfl⟩ := hl.form
 obtain ⟨ahv, chv, rfl⟩ := hh.form
 have hlm := hl.max
 refine zkJ Tryz.func141 O Tryz.ntmps141 O (zkS ?_)
 refine Vs 2 O ?_
 refine V.box 4 O O (fun b4 => ?_)
 refine V.box 7 O O (fun b7 => ?_)
 refine V.alloc 8 Tryz.zeroValue160 O O (fun b8 => ?_)
 refine Vs 9 O ?_
 refine V.dat 900 0 O O O (hs1) (fun _ _ _ h => h) ?_
 refine V.dat 901 0 O O O (hs2) (fun _ _ _ h => h) ?_
 refine zli (σ := Nat × Sg × Option Addr × Nat × Option Addr × Nat × (Nat -> Prop) × (Nat -> Prop)) [1, 2, 4, 7, 8] [4, 8] [4, 7, 8] O (fun e ⟨i, s, p1, q1, p2, q2, F1, F2⟩ => (9, .int .i64 i) :: e) (fun e ⟨i, s, p1, q1, p2, q2, F1, F2⟩ => (7, .own b7 [.slice p1 s.vals.length q1, .slice p2 s.outs.length q2, .int .i64 s.time] 160) :: (900, .dat F1 (fun w => SlI F1 w p1 q1 s.vals)) :: (901, .dat F2 (fun w => SlI F2 w p2 q2 s.outs)) :: e) (fun ⟨i, s, p1, q1, p2, q2, F1, F2⟩ => i <= l.length /\ s = exL f hs (l.take i) σ /\ SgB f (N + nbL (l.take i)) s /\ (∀ b, F1 b -> D b \/ w.heap.size <= b) /\ (∀ b, F2 b -> D b \/ w.heap.size <= b)) (fun ⟨i, s, p1, q1, p2, q2, F1, F2⟩ => l.length - i) ((0, σ, a1, c1, a2, c2, fun b => D b /\ b < w.heap.size, fun b => D b /\ b < w.heap.size)) (zkg O) (zkh O) (fun _ => rfl) (fun _ => rfl) (fun _ => rfl) (⟨znm _, rfl, by simpa [nbL] using hB, fun b h => .inl h.1, fun b h => .inl h.1⟩) ?_
 rintro ⟨i, s, p1, q1, p2, q2, F1, F2⟩ ⟨hi, hall, hsB, hF1, hF2⟩
 show V _ _ _ _ _ ((9, .int .i64 i) :: _) _ ((7, .own b7 [.slice p1 s.vals.length q1, .slice p2 s.outs.length q2, .int .i64 s.time] 160) :: (900, .dat F1 (fun w => SlI F1 w p1 q1 s.vals)) :: (901, .dat F2 (fun w => SlI F2 w p2 q2 s.outs)) :: _) _
 have ht0 := hsB.t0
 have ht1 := hsB.t1
 have hol := hsB.ol
 refine Vs 9 O ?_
 refine ziB O (fun hlt => ?_) (fun hlt => ?_)
 ·
  refine Vs 8 O ?_
  obtain ⟨x, he_x, hm_x⟩ := gE_ l (i) (by omega)
  obtain ⟨b_x, o_x, c_x, ha_x, _, hc_x, hR_x⟩ := hl.at he_x
  obtain ⟨v1_x, v2_x, v3_x, v4_x, rfl, hk_x, ht_x, hs_x, hb_x⟩ := hR_x.get
  obtain ⟨a1_x, n1_x, rfl⟩ := hk_x.form
  obtain ⟨a2_x, n2_x, rfl⟩ := ht_x.form
  obtain ⟨a3_x, n3_x, rfl⟩ := hs_x.form
  obtain ⟨a4_x, n4_x, rfl⟩ := hb_x.form
  refine zlf 1000 0 O O hc_x ?_
  refine zkZ 1000 tR54 ts134 O ha_x (by omega) (_) (rfl) O ?_
  obtain ⟨⟨ho, hse, hn4⟩, hp1, hp2⟩ := hp.kids hm_x
  obtain ⟨i1, i2⟩ := ih x hm_x
  have hcost := ho.cost
  have hnx : nbL (l.take (i + 1)) = nbL (l.take i) + nbS x := by rw [zg he_x, jG]; rfl
  have hnl : nbL (l.take (i + 1)) <= nbL l := zfP l (i + 1)
  have hnx1 := zh0 x
  have hex : exL f hs (l.take (i + 1)) σ = exS f hs x s := by rw [zg he_x, zaG, <- hall]; rfl
  have hnS := zdl x
  have hinv : SgB f (N + nbL (l.take (i + 1))) (exS f hs x s) := by
   rw [<- hex]
   exact zaf hg _ (fun s hs => hp s (by rw [<- List.take_append_drop (i + 1) l, qM]; simp [hs])) N σ hB
  have hs1' := hsB.cost ho
  have hi1 : i + 1 <= l.length := by omega
  refine Vs 1 O ?_
  refine V.alloc 10 tz134 O O (fun b10 => ?_)
  refine Vs 11 O ?_
  refine ziB O (fun a4 => ?_) (fun a4 => ?_)
  ·
   rw [zni (by omega), znj a4] at hnS
   have hx : exS f hs x s = xP (exL f hs x.thn) x.cost x.term x.n.toNat s := by rw [jn, zni (by omega), znj a4]
   refine Vs 6 O ?_
   refine zl9 Tryz.call169 O (fun w hI => zmV f hs hg x ho (hn4 a4) hp1 (i1 hp1) _ s hsB (by omega) (fun b => F1 b \/ F2 b) Df Dh w v1 v2 v3 _ p1 q1 p2 q2 (fun b hb => hb.elim ((hI.at 900 O).2 b) ((hI.at 901 O).2 b)) (Tr1 hI.k0 hf) (Tr1 hI.k0 hh) _ _ _ _ _ _ _ _ (Tr1 hI.k0 hk_x) (Tr1 hI.k0 ht_x) ((hI.at 900 O).1.wide zc (fun _ h => .inl h)) ((hI.at 901 O).1.wide zc (fun _ h => .inr h))) ?_
   rintro r w1 w2 hI1 hk12 ⟨p1', q1', p2', q2', rfl, hr1, hr2⟩ hlow
   have hoff : ∀ b, ((F1 b \/ F2 b) \/ w1.heap.size <= b) -> b < w2.heap.size -> ¬ HS _ b := fun b hb _ => hb.elim (fun h => h.elim (hI1.offF 900 rfl b) (hI1.offF 901 rfl b)) (fun h hs => by have := hlow b hs; omega)
   have hsz : w.heap.size <= w1.heap.size := hI1.k0.size
   have hFF : ∀ b, ((F1 b \/ F2 b) \/ w1.heap.size <= b) /\ b < w2.heap.size -> D b \/ w.heap.size <= b := fun b hb => hb.1.elim (fun h => h.elim (hF1 b) (hF2 b)) (fun h => .inr (by omega))
   refine Va 12 O (by omega) ?_
   refine V.del 900 O ?_
   refine V.dat 900 0 O O O (hr1) (hoff) ?_
   refine V.del 901 O ?_
   refine V.dat 901 0 O O O (hr2) (hoff) ?_
   refine ziM (⟨i + 1, _, p1', q1', p2', q2', _, _⟩) (zkg O) (zkh O) (⟨hi1, by rw [hex, hx], by rw [<- hx]; exact hinv, hFF, hFF⟩) (by first | omega | (dsimp only; omega)) 1 O O
  ·
   refine Va 26 O (by omega) ?_
   refine ziB O (fun a0 => ?_) (fun a0 => ?_)
   ·
    have hx : exS f hs x s = { s with vals := zaw f.vars s.vals x.var (xV s.vals x.term), time := s.time + x.cost } := by rw [jn, zni (by omega), zni a4]; unfold qP; rw [znj a0]
    have hvar := ho.var (.inl a0)
    refine Vw [4, 8, 7, 1000, 10] [12] O ?_
    refine Vd [0, 1, 2, 3, 4, 5, 6, 7, 8] 0 (by kernel_rfl) O O O ?_
    refine zl8 9 0 Tryz.call171 O (by kernel_rfl) O O (fun w hI => ziu hg hsB.inv x.term ho.formed ho.ranged _ Df F1 w _ (hI.at 900 O).1 (RTm.put (Tr1 hI.k0 hk_x))) ?_
    refine zla 10 0 Tryz.call170 O (by kernel_rfl) O O (fun w hI => zmC f.vars s.vals _ x.var v1 v2 v3 _ Df F1 w (Tr1 hI.k0 hf.vars) (hI.at 900 O).1 hsB.inv.len (by omega) hvar) ?_
    rintro r w1 w2 hI1 hk12 ⟨hr1, hr2⟩ hlow
    rw [<- zmK f.vars s.vals x.var (xV s.vals x.term)] at hr1
    obtain ⟨ar, cr, rfl⟩ := zaN hr1
    have hsz : w.heap.size <= w1.heap.size := hI1.k0.size
    refine Vd [11] 1 (by kernel_rfl) O O O ?_
    refine Vl 12 O (by kernel_rfl) O ?_
    refine zjJ (by kernel_rfl) ?_
    refine Va 8 O (by omega) ?_
    refine V.del 900 O ?_
    refine V.dat 900 0 O O O (zjO (R := zF) (D := fun b => w1.heap.size <= b) zi (fun _ _ => rfl) hr1 hr2) (fun b hb _ hs => by have := hlow b hs; omega) ?_
    refine ziM (⟨i + 1, { s with vals := zaw f.vars s.vals x.var (xV s.vals x.term), time := s.time + x.cost }, ar, cr, p2, q2, _, F2⟩) (zkg O) (zkh O) (⟨hi1, by rw [hex, hx], by rw [<- hx]; exact hinv, fun b hb => .inr (by omega), hF2⟩) (by first | omega | (dsimp only; omega)) 1 O O
   ·
    refine Vs 6 O ?_
    refine ziB O (fun a1 => ?_) (fun a1 => ?_)
    ·
     have hx : exS f hs x s = { s with outs := s.outs ++ [xV s.vals x.term], time := s.time + x.cost } := by rw [jn, zni (by omega), zni a4]; unfold qP; rw [zni a0, znj a1]
     refine Vw [4, 8, 7, 1000, 10] [12] O ?_
     refine Vd [1, 2, 4, 5, 6, 7] 0 (by kernel_rfl) O O O ?_
     refine VD.bs0 0 53 0 tR31 ts3 O (by kernel_rfl) O (fun b53 => ?_)
     refine VD.apS 3 53 0 (fun x => [zi x]) (fun _ => rfl) (by simp [Value.oneCell']) zfO tu31 Tryz.el3 O (by decide) O (by kernel_rfl) O O (fun w hI => ⟨_, (hI.at 901 O).1⟩) (by omega) (by omega) (fun u53 => ?_)
     refine zl8 8 0 Tryz.call171 O (by kernel_rfl) O O (fun w hI => ziu hg hsB.inv x.term ho.formed ho.ranged _ Df F1 w _ (hI.at 900 O).1 (RTm.put (Tr1 hI.k0 hk_x))) ?_
     refine zlm 9 62 0 [(0, _)] tR31 ts3 tz3 (by decide) O (by kernel_rfl) O O (by kernel_rfl) (fun b62 => ?_)
     refine zl3 10 53 62 0 tu31 Tryz.el3 O (by decide) O (by kernel_rfl) O O O (by omega) (by omega) (fun u53 => ?_)
     refine Vd [11] 0 (by kernel_rfl) O O O ?_
     refine zl5 53 O (by omega) ?_
     rintro bo co rfl hcap_53
     refine Vl 12 O (by kernel_rfl) O ?_
     refine zjJ (by kernel_rfl) ?_
     refine Va 8 O (by omega) ?_
     refine zlh 7 O (e' := .own b7 [.slice p1 s.vals.length q1, .slice (some ⟨bo, 0, none⟩) (s.outs ++ [xV s.vals x.term]).length co, .int .i64 (s.time + x.cost)] 160) (by rw [zmg, Nat.zero_add]; rfl) ?_
     refine zlh 53 O (e' := .row 3 1 (.slice (some ⟨bo, 0, none⟩) (s.outs ++ [xV s.vals x.term]).length co) (s.outs ++ [xV s.vals x.term]).length ((s.outs ++ [xV s.vals x.term]).map zi)) (by rw [zmg, Nat.zero_add, zmq, List.map_append]; rfl) ?_
     refine zkT (p := w.heap.size <= bo) (fun w hI => hI.own 53 0 O O bo O) (fun hbo => ?_)
     refine V.del 901 O ?_
     refine zng 53 901 (R := zF) zi (fun _ _ _ => rfl) O O ?_
     refine ziM (⟨i + 1, { s with outs := s.outs ++ [xV s.vals x.term], time := s.time + x.cost }, p1, q1, some ⟨bo, 0, none⟩, co, F1, _⟩) (zkg O) (zkh O) (⟨hi1, by rw [hex, hx], by rw [<- hx]; exact hinv, hF1, fun b hb => .inr (by have hb : some bo = some b := hb; cases hb; exact hbo)⟩) (by first | omega | (dsimp only; omega)) 0 O O
    ·
     refine Vs 6 O ?_
     refine ziB O (fun a5 => ?_) (fun a5 => ?_)
     ·
      have hx : exS f hs x s = { s with vals := zaw f.vars s.vals x.var (lki hs x.n.toNat), time := s.time + x.cost } := by rw [jn, zni (by omega), zni a4]; unfold qP; rw [zni a0, zni a1, znj a5]
      have hvar := ho.var (.inr a5)
      have hnum := ho.num a5
      obtain ⟨y, he_y, hm_y⟩ := gE_ hs (x.n.toNat) (by omega)
      obtain ⟨b_y, o_y, c_y, ha_y, _, hc_y, hR_y⟩ := hh.at he_y
      obtain rfl := hR_y
      refine zlf 2000 0 O O hc_y ?_
      have hy : lki hs x.n.toNat = y := zgv he_y
      rw [hy] at hx
      refine Vw [4, 8, 7, 1000, 10, 2000] [12] O ?_
      refine Vd [0, 1, 2, 3, 4, 5, 6, 7] 0 (by kernel_rfl) O O O ?_
      refine zl0 8 2000 tR31 ts3 O (by kernel_rfl) O ha_y (by omega) (x.n.toNat) (by omega) O ?_
      refine Vd [9] 0 (by kernel_rfl) O O O ?_
      refine zla 10 0 Tryz.call170 O (by kernel_rfl) O O (fun w hI => zmC f.vars s.vals y x.var v1 v2 v3 _ Df F1 w (Tr1 hI.k0 hf.vars) (hI.at 900 O).1 hsB.inv.len (by omega) hvar) ?_
      rintro r w1 w2 hI1 hk12 ⟨hr1, hr2⟩ hlow
      rw [<- zmK f.vars s.vals x.var y] at hr1
      obtain ⟨ar, cr, rfl⟩ := zaN hr1
      have hsz : w.heap.size <= w1.heap.size := hI1.k0.size
      refine Vd [11] 1 (by kernel_rfl) O O O ?_
      refine Vl 12 O (by kernel_rfl) O ?_
      refine zjJ (by kernel_rfl) ?_
      refine Va 8 O (by omega) ?_
      refine V.del 900 O ?_
      refine V.dat 900 0 O O O (zjO (R := zF) (D := fun b => w1.heap.size <= b) zi (fun _ _ => rfl) hr1 hr2) (fun b hb _ hs => by have := hlow b hs; omega) ?_
      refine ziM (⟨i + 1, { s with vals := zaw f.vars s.vals x.var y, time := s.time + x.cost }, ar, cr, p2, q2, _, F2⟩) (zkg O) (zkh O) (⟨hi1, by rw [hex, hx], by rw [<- hx]; exact hinv, fun b hb => .inr (by omega), hF2⟩) (by first | omega | (dsimp only; omega)) 1 O O
     ·
      refine Vs 6 O ?_
      refine ziB O (fun a3 => ?_) (fun a3 => ?_)
      ·
       have hx := jn f hs x s
       rw [znj a3] at hx
       rw [znj a3] at hnS
       refine Vs 6 O ?_
       refine zl7 Tryz.call171 O (fun w hI => ziu hg hsB.inv x.term ho.formed ho.ranged _ Df F1 w _ (hI.at 900 O).1 (RTm.put (Tr1 hI.k0 hk_x))) ?_
       refine Vs 3 O ?_
       refine ziB O (fun z => ?_) (fun z => ?_)
       ·
        rw [znj z] at hx
        refine Vs 6 O ?_
        refine zl9 Tryz.call141 O (fun w hI => i1 hp1 _ { s with time := s.time + x.cost } hs1' (by omega) (fun b => F1 b \/ F2 b) Df Dh w v1 v2 v3 _ _ p1 q1 p2 q2 (fun b hb => hb.elim ((hI.at 900 O).2 b) ((hI.at 901 O).2 b)) (Tr1 hI.k0 hf) (Tr1 hI.k0 hh) (Tr1 hI.k0 ht_x) ((hI.at 900 O).1.wide zc (fun _ h => .inl h)) ((hI.at 901 O).1.wide zc (fun _ h => .inr h))) ?_
        rintro r w1 w2 hI1 hk12 ⟨p1', q1', p2', q2', rfl, hr1, hr2⟩ hlow
        have hoff : ∀ b, ((F1 b \/ F2 b) \/ w1.heap.size <= b) -> b < w2.heap.size -> ¬ HS _ b := fun b hb _ => hb.elim (fun h => h.elim (hI1.offF 900 rfl b) (hI1.offF 901 rfl b)) (fun h hs => by have := hlow b hs; omega)
        have hsz : w.heap.size <= w1.heap.size := hI1.k0.size
        have hFF : ∀ b, ((F1 b \/ F2 b) \/ w1.heap.size <= b) /\ b < w2.heap.size -> D b \/ w.heap.size <= b := fun b hb => hb.1.elim (fun h => h.elim (hF1 b) (hF2 b)) (fun h => .inr (by omega))
        refine Va 10 O (by omega) ?_
        refine V.del 900 O ?_
        refine V.dat 900 0 O O O (hr1) (hoff) ?_
        refine V.del 901 O ?_
        refine V.dat 901 0 O O O (hr2) (hoff) ?_
        refine ziM (⟨i + 1, _, p1', q1', p2', q2', _, _⟩) (zkg O) (zkh O) (⟨hi1, by rw [hex, hx], by rw [<- hx]; exact hinv, hFF, hFF⟩) (by first | omega | (dsimp only; omega)) 1 O O
       ·
        rw [zni z] at hx
        refine Vs 6 O ?_
        refine zl9 Tryz.call141 O (fun w hI => i2 hp2 _ { s with time := s.time + x.cost } hs1' (by omega) (fun b => F1 b \/ F2 b) Df Dh w v1 v2 v3 _ _ p1 q1 p2 q2 (fun b hb => hb.elim ((hI.at 900 O).2 b) ((hI.at 901 O).2 b)) (Tr1 hI.k0 hf) (Tr1 hI.k0 hh) (Tr1 hI.k0 hs_x) ((hI.at 900 O).1.wide zc (fun _ h => .inl h)) ((hI.at 901 O).1.wide zc (fun _ h => .inr h))) ?_
        rintro r w1 w2 hI1 hk12 ⟨p1', q1', p2', q2', rfl, hr1, hr2⟩ hlow
        have hoff : ∀ b, ((F1 b \/ F2 b) \/ w1.heap.size <= b) -> b < w2.heap.size -> ¬ HS _ b := fun b hb _ => hb.elim (fun h => h.elim (hI1.offF 900 rfl b) (hI1.offF 901 rfl b)) (fun h hs => by have := hlow b hs; omega)
        have hsz : w.heap.size <= w1.heap.size := hI1.k0.size
        have hFF : ∀ b, ((F1 b \/ F2 b) \/ w1.heap.size <= b) /\ b < w2.heap.size -> D b \/ w.heap.size <= b := fun b hb => hb.1.elim (fun h => h.elim (hF1 b) (hF2 b)) (fun h => .inr (by omega))
        refine Va 10 O (by omega) ?_
        refine V.del 900 O ?_
        refine V.dat 900 0 O O O (hr1) (hoff) ?_
        refine V.del 901 O ?_
        refine V.dat 901 0 O O O (hr2) (hoff) ?_
        refine ziM (⟨i + 1, _, p1', q1', p2', q2', _, _⟩) (zkg O) (zkh O) (⟨hi1, by rw [hex, hx], by rw [<- hx]; exact hinv, hFF, hFF⟩) (by first | omega | (dsimp only; omega)) 1 O O
      ·
       refine Vs 6 O ?_
       refine ziB O (fun a6 => ?_) (fun a6 => ?_)
       ·
        have hx : exS f hs x s = { s with time := qj x.bounds (s.time + x.cost) } := by rw [jn, zni (by omega), zni a4]; unfold qP; rw [zni a0, zni a1, zni a5, znj a6]
        refine Vs 5 O ?_
        refine zl7 Tryz.call172 O (fun w hI => zmu x.bounds (s.time + x.cost) _ Df w (Tr1 hI.k0 hb_x)) ?_
        refine Va 11 O (by omega) ?_
        refine ziM (⟨i + 1, { s with time := qj x.bounds (s.time + x.cost) }, p1, q1, p2, q2, F1, F2⟩) (zkg O) (zkh O) (⟨hi1, by rw [hex, hx], by rw [<- hx]; exact hinv, hF1, hF2⟩) (by first | omega | (dsimp only; omega)) 0 O O
       ·
        have hx : exS f hs x s = { s with time := s.time + x.cost } := by rw [jn, zni (by omega), zni a4]; unfold qP; rw [zni a0, zni a1, zni a5, zni a6]
        refine Va 9 O (by omega) ?_
        refine ziM (⟨i + 1, { s with time := s.time + x.cost }, p1, q1, p2, q2, F1, F2⟩) (zkg O) (zkh O) (⟨hi1, by rw [hex, hx], by rw [<- hx]; exact hinv, hF1, hF2⟩) (by first | omega | (dsimp only; omega)) 0 O O
 ·
  have hii : i = l.length := by omega
  subst hii
  rw [zmd] at hall
  subst hall
  refine Vs 12 O ?_
  refine zj3 Tryz.results141 Tryz.isAgg160 Tryz.sizeOf160 O O O (fun w hI => ⟨_, rfl, ⟨_, _, _, _, rfl, (hI.at 900 O).1.wide zc hF1, (hI.at 901 O).1.wide zc hF2⟩, hI.k0⟩)
theorem znc (f : Fl) (r : Ins) (v1 v2 v3 s1 s2 s3 : Value) (D D1 D2 D3 : Nat -> Prop) (W : World) (hf : RFl D W f v1 v2 v3) (hi1 : SlR 1 zF D1 W s1 r.secret) (hi2 : SlR 1 zF D2 W s2 r.pub) (hi3 : SlR 1 zF D3 W s3 r.random) (hsz : zj f.body + zB f.hatches <= 1024) (hbk : zr f.body <= 1000000) :
  Calls Tryz.prog 102 #[.agg #[v1, v2, v3], .agg #[s1, s2, s3]] W (Ret fun rr w' => (∃ st, rr = .tuple #[st, .int .i64 (zP f r)] /\ (zP f r ≠ 0 -> st = .agg #[.slice none 0 0, .slice none 0 0, .int .i64 0]) /\ (zP f r = 0 -> ∃ a1 c1 a2 c2, st = sgV (qk f r) a1 c1 a2 c2 /\ SlI (fun b => W.heap.size <= b) w' a1 c1 (qk f r).vals /\ SlI (fun b => W.heap.size <= b) w' a2 c2 (qk f r).outs)) /\ Ext W w') := by
 refine zkH Tryz.func102 O Tryz.ntmps102 O (zkS ?_)
 refine Vs 2 O ?_
 refine V.box 2 O O (fun b2 => ?_)
 refine V.box 3 O O (fun b3 => ?_)
 refine V.alloc 4 Tryz.zeroValue160 O O (fun b4 => ?_)
 refine Vs 6 O ?_
 refine zl7 Tryz.call42 O (fun w hI => zab f v1 v2 v3 D w (Tr1 hI.k0 hf) hsz hbk) ?_
 refine Vs 10 O ?_
 refine ziB O (fun c0 => ?_) (fun c0 => ?_)
 ·
  have hc : zP f r = zZ f := znj c0
  refine Vs 2 O ?_
  refine zln [Value.slice none 0 0, Value.slice none 0 0, Value.int IntKind.i64 0] [(0, 1), (1, 1), (2, 1)] [] O O (fun _ => by kernel_rfl) ?_
  refine Vs 7 O ?_
  refine zj6 Tryz.results102 Tryz.isAgg160 Tryz.sizeOf160 O O O O (fun w hI => ⟨_, rfl, ⟨_, by rw [hc], fun _ => rfl, fun h => absurd (hc ▸ h) c0⟩, hI.k0⟩)
 ·
  have c0' : zZ f = 0 := by omega
  have vd : Valid f := ⟨c0', hsz, hbk⟩
  have hc : zP f r = zM f.vars r := zni c0
  have hl := vd.lens
  have hnb := vd.nb
  rw [hc]
  refine Vs 7 O ?_
  refine zl9 Tryz.call140 O (fun w hI => zmH f.vars r v1 s1 s2 s3 D D1 D2 D3 w (Tr1 hI.k0 hf.vars) (by omega) vd.kinds (Tr1 hI.k0 hi1) (Tr1 hI.k0 hi2) (Tr1 hI.k0 hi3)) ?_
  rintro rr w1 w2 hI1 hk12 ⟨u, rfl, hu1, hu2⟩ hlow
  refine Vs 14 O ?_
  refine ziB O (fun e0 => ?_) (fun e0 => ?_)
  ·
   refine Vs 2 O ?_
   refine zln [Value.slice none 0 0, Value.slice none 0 0, Value.int IntKind.i64 0] [(0, 1), (1, 1), (2, 1)] [] O O (fun _ => by kernel_rfl) ?_
   refine Vs 7 O ?_
   refine zj6 Tryz.results102 Tryz.isAgg160 Tryz.sizeOf160 O O O O (fun w hI => ⟨_, rfl, ⟨_, rfl, fun _ => rfl, fun h => absurd h e0⟩, hI.k1⟩)
  ·
   have e0' : zM f.vars r = 0 := by omega
   obtain ⟨hrow, hfr⟩ := hu2 e0'
   obtain ⟨au, cu, rfl⟩ := zaN hrow
   have hsz1 : W.heap.size <= w1.heap.size := hI1.k0.size
   refine Vs 3 O ?_
   refine V.dat 900 0 O O O (zjO (R := zF) (D := fun b => w1.heap.size <= b) zi (fun _ _ => rfl) hrow hfr) (fun b hb _ hs => by have := hlow b hs; omega) ?_
   refine Vw [2, 3, 4] [9] O ?_
   refine Vd [0, 1, 2, 4, 5, 6] 0 (by kernel_rfl) O O O ?_
   refine zlo 7 [Value.slice none 0 0, Value.slice none 0 0, Value.int IntKind.i64 0] [(0, 1), (1, 1), (2, 1)] [(0, _)] O (by kernel_rfl) O O (fun _ => by kernel_rfl) ?_
   refine zla 3 0 Tryz.call142 O (by kernel_rfl) O O (fun w hI => zmv f (xm f.vars r) v1 v2 v3 _ D _ w (Tr1 hI.k1 hf) (hI.at 900 O).1 vd.good (zbX e0') (fun h hh => ⟨(vd.hatch h hh).1, (vd.hatch h hh).2.1⟩) (by omega)) ?_
   rintro hv w3 w4 hI3 hk34 ⟨hh1, hh2⟩ hlow2
   refine zla 8 1 Tryz.call141 O (by kernel_rfl) O O (fun w hI => zn4 f (jp f r) vd.good (by simp [zfN]) (by omega) f.body (zba vd) 0 (jq f r) (zag e0') (by omega) (fun b => w1.heap.size <= b /\ b < w2.heap.size) D (fun b => w3.heap.size <= b) w v1 v2 v3 hv _ au cu none 0 (fun b hb => by have : w2.heap.size <= w.heap.size := hI.k1.size; omega) (Tr1 hI.k2 hf) (zjO (R := zF) zi (fun _ _ => rfl) (zN hh1 hI.k0 (fun g hg hs => by have := hlow2 g hs; have := hh2 g hg; omega)) hh2) (Tr1 hI.k2 hf.body) (hI.at 900 O).1 SlR.nil) ?_
   rintro rs w5 w6 hI5 hk56 ⟨a1, c1, a2, c2, rfl, hr1, hr2⟩ hlow3
   refine Vl 9 O (by kernel_rfl) O ?_
   refine Vx [10] (by kernel_rfl) O ?_
   refine zjJ (by kernel_rfl) ?_
   refine Vs 2 O ?_
   have hsz5 : w1.heap.size <= w5.heap.size := by have h1 := hk12.size; have h2 : w2.heap.size <= w5.heap.size := hI5.k1.size; omega
   have hoff : ∀ b, ((w1.heap.size <= b /\ b < w2.heap.size) \/ w5.heap.size <= b) -> b < w6.heap.size -> ¬ HS _ b := fun b hb _ => hb.elim (hI5.offF 900 rfl b) (fun h hs => by have := hlow3 b hs; omega)
   refine V.dat 901 0 O O O (hr1) (hoff) ?_
   refine V.dat 902 0 O O O (hr2) (hoff) ?_
   have hFF : ∀ b, ((w1.heap.size <= b /\ b < w2.heap.size) \/ w5.heap.size <= b) /\ b < w6.heap.size -> W.heap.size <= b := fun b hb => by omega
   refine zj6 Tryz.results102 Tryz.isAgg160 Tryz.sizeOf160 O O O O (fun w hI => ⟨_, rfl, ⟨_, by rw [e0']; rfl, fun h => absurd e0' h, fun _ => ⟨_, _, _, _, rfl, (hI.at 901 O).1.wide zc hFF, (hI.at 902 O).1.wide zc hFF⟩⟩, hI.k3⟩)
theorem zmW (f : Fl) (r : Ins) (v1 v2 v3 s1 s2 s3 : Value) (D D1 D2 D3 : Nat -> Prop) (W : World) (hf : RFl D W f v1 v2 v3) (hi1 : SlR 1 zF D1 W s1 r.secret) (hi2 : SlR 1 zF D2 W s2 r.pub) (hi3 : SlR 1 zF D3 W s3 r.random) (hsz : zj f.body + zB f.hatches <= 1024) (hbk : zr f.body <= 1000000) :
  Calls Tryz.prog 75 #[.agg #[v1, v2, v3], .agg #[s1, s2, s3]] W (Ret fun rr w' => (∃ ov t, rr = .tuple #[.agg #[ov, .int .i64 t], .int .i64 (zP f r)] /\ (zP f r ≠ 0 -> ov = .slice none 0 0 /\ t = 0) /\ (zP f r = 0 -> t = (qk f r).time /\ SlR 1 zF (fun b => W.heap.size <= b) w' ov (qk f r).outs)) /\ Ext W w') := by
 refine zkH Tryz.func75 O Tryz.ntmps75 O (zkS ?_)
 refine Vs 2 O ?_
 refine V.box 2 O O (fun b2 => ?_)
 refine V.box 3 O O (fun b3 => ?_)
 refine V.alloc 4 tz60 O O (fun b4 => ?_)
 refine Vs 7 O ?_
 refine zl9 Tryz.call102 O (fun w hI => znc f r v1 v2 v3 s1 s2 s3 D D1 D2 D3 w (Tr1 hI.k0 hf) (Tr1 hI.k0 hi1) (Tr1 hI.k0 hi2) (Tr1 hI.k0 hi3) hsz hbk) ?_
 rintro rr w1 w2 hI1 hk12 ⟨st, rfl, hu1, hu2⟩ hlow
 have hsz1 : W.heap.size <= w1.heap.size := hI1.k0.size
 by_cases c0 : zP f r = 0
 ·
  obtain ⟨a1, c1, a2, c2, rfl, hr1, hr2⟩ := hu2 c0
  rw [c0] at *
  refine Vs 3 O ?_
  refine V.alloc 6 Tryz.zeroValue160 O O (fun b6 => ?_)
  refine Vs 11 O ?_
  refine ziB O (fun e => ?_) (fun e => ?_)
  . exact absurd O e
  ·
   refine V.dat 901 0 O O O (hr2) (fun b hb _ hs => by have := hlow b hs; omega) ?_
   refine Vs 8 O ?_
   refine zln [Value.slice none 0 0, Value.int IntKind.i64 0] [(0, 1), (1, 1)] [(0, _), (1, _)] O O (fun _ => by kernel_rfl) ?_
   refine Vs 5 O ?_
   refine zj6 Tryz.results75 tg60 ts60 O O O O (fun w hI => ⟨_, rfl, ⟨_, _, rfl, fun h => absurd O h, fun _ => ⟨rfl, (hI.at 901 O).1.wide zc (fun b hb => by omega)⟩⟩, hI.k1⟩)
 ·
  obtain rfl := hu1 c0
  refine Vs 3 O ?_
  refine V.alloc 1006 Tryz.zeroValue160 O O (fun b1006 => ?_)
  refine Vs 11 O ?_
  refine ziB O (fun e => ?_) (fun e => ?_)
  ·
   refine Vs 2 O ?_
   refine zln [Value.slice none 0 0, Value.int IntKind.i64 0] [(0, 1), (1, 1)] [] O O (fun _ => by kernel_rfl) ?_
   refine Vs 7 O ?_
   refine zj6 Tryz.results75 tg60 ts60 O O O O (fun w hI => ⟨_, rfl, ⟨_, _, rfl, fun _ => ⟨rfl, rfl⟩, fun h => absurd h c0⟩, hI.k1⟩)
  . omega
def zmL (a b : Int) : Int := if a < b then -1 else if b < a then 1 else 0
theorem zmw : ∀ (i : Nat) (xs ys : List Int), xs.take i = ys.take i -> i <= xs.length -> i <= ys.length -> jr xs ys = jr (xs.drop i) (ys.drop i)
 | 0, _, _, _, _, _ => rfl
 | i + 1, [], _, _, h, _ => by simp at h
 | i + 1, _ :: _, [], _, _, h => by simp at h
 | i + 1, x :: xs, y :: ys, h, h1, h2 => by
  simp only [List.take_succ_cons, List.cons.injEq] at h
  obtain ⟨rfl, h⟩ := h
  simp only [List.length_cons] at h1 h2
  simp only [List.drop_succ_cons]
  rw [<- zmw i xs ys h (by omega) (by omega)]
  simp [jr]
theorem zml (a b : Int) (W : World) : Calls Tryz.prog 73 #[.int .i64 a, .int .i64 b] W (Ret fun r w' => r = .int .i64 (zmL a b) /\ Ext W w') := by
 refine zkH Tryz.func73 O Tryz.ntmps73 O (zkS ?_)
 refine Vs 13 O ?_
 refine ziB O (fun h1 => ?_) (fun h1 => ?_)
 ·
  refine Vs 7 O ?_
  refine ziV Tryz.results73 O (fun w hI => ⟨_, rfl, by unfold zmL; rw [znj h1], hI.k0⟩)
 ·
  refine Vs 7 O ?_
  refine zl7 Tryz.call101 O (fun w hI => zit (decide (b < a)) w) ?_
  refine Vs 4 O ?_
  refine ziV Tryz.results73 O (fun w hI => ⟨_, rfl, by unfold zmL; rw [zni h1]; by_cases h : b < a <;> simp [h], hI.k0⟩)
theorem zn5 {xs ys X Y : List Int} {t t' p q : Int} (h : jr xs ys = jr (p :: X) (q :: Y)) (hn : p ≠ q) : yu (xs, t) (ys, t') = zmL p q := by
 have e : jr (p :: X) (q :: Y) = zmL p q := by
  unfold zmL
  simp only [jr]
  split
  . rfl
  ·
   split
   . rfl
   . omega
 have n : zmL p q ≠ 0 := by
  unfold zmL
  split
  . decide
  ·
   split
   . decide
   . omega
 unfold yu
 dsimp only
 rw [h, e, znj n]
theorem zmD {xs ys : List Int} {t t' : Int} {i : Nat} (h : jr xs ys = jr (xs.drop i) (ys.drop i)) (h1 : i <= xs.length) (h2 : i <= ys.length) (hi : xs.length <= i \/ ys.length <= i) (hn : (xs.length : Int) ≠ ys.length) : yu (xs, t) (ys, t') = zmL xs.length ys.length := by
 rcases hi with hi | hi
 ·
  obtain ⟨y, hy⟩ : ∃ y, ys[i]? = some y := ⟨_, zm8 (by omega)⟩
  rw [List.drop_of_length_le hi, qx hy] at h
  unfold yu zmL
  dsimp only
  rw [h, znj (show (xs.length : Int) < ys.length by omega)]
  rfl
 ·
  obtain ⟨x, hx⟩ : ∃ x, xs[i]? = some x := ⟨_, zm8 (by omega)⟩
  rw [List.drop_of_length_le hi, qx hx] at h
  unfold yu zmL
  dsimp only
  rw [h, zni (show ¬ (xs.length : Int) < ys.length by omega), znj (show (ys.length : Int) < xs.length by omega)]
  rfl
theorem zn6 {xs ys : List Int} {t t' : Int} {i : Nat} (h : jr xs ys = jr (xs.drop i) (ys.drop i)) (hi : xs.length <= i) (hj : ys.length <= i) : yu (xs, t) (ys, t') = zmL t t' := by
 rw [List.drop_of_length_le hi, List.drop_of_length_le hj] at h
 unfold yu zmL
 dsimp only
 rw [h]
 rfl
theorem ziv (x y : List Int × Int) (u v : Value) (D D' : Nat -> Prop) (W : World) (hx : SlR 1 zF D W u x.1) (hy : SlR 1 zF D' W v y.1) :
  Calls Tryz.prog 39 #[.agg #[u, .int .i64 x.2], .agg #[v, .int .i64 y.2]] W (Ret fun r w' => r = .int .i64 (yu x y) /\ Ext W w') := by
 obtain ⟨xs, t⟩ := x
 obtain ⟨ys, t'⟩ := y
 dsimp only at hx hy
 obtain ⟨ax, cx, rfl⟩ := hx.form
 obtain ⟨ay, cy, rfl⟩ := hy.form
 have hmx := hx.max
 have hmy := hy.max
 refine zkH Tryz.func39 O Tryz.ntmps39 O (zkS ?_)
 refine Vs 2 O ?_
 refine V.box 2 O O (fun b2 => ?_)
 refine V.box 3 O O (fun b3 => ?_)
 refine Vs 10 O ?_
 refine zli (σ := Nat) [2, 3] [2, 3] [2, 3] O (fun e i => (5, .int .i64 i) :: e) (fun e i => e) (fun i => (i <= xs.length /\ i <= ys.length) /\ xs.take i = ys.take i) (fun i => xs.length - i) (0) (zkg O) (zkh O) (fun _ => rfl) (fun _ => rfl) (fun _ => rfl) (⟨⟨znm _, znm _⟩, rfl⟩) ?_
 rintro i ⟨⟨hi, hj⟩, he⟩
 refine Vs 9 O ?_
 refine zkt 11 O (fun b1 => ?_) (fun b1 => ?_)
 ·
  refine Vs 8 O ?_
  refine ziB O (fun b2 => ?_) (fun b2 => ?_)
  ·
   refine Vs 5 O ?_
   obtain ⟨p, he_p, hm_p⟩ := gE_ xs (i) (by omega)
   obtain ⟨b_p, o_p, c_p, ha_p, _, hc_p, hR_p⟩ := hx.at he_p
   obtain rfl := hR_p
   refine zlf 1000 0 O O hc_p ?_
   obtain ⟨q, he_q, hm_q⟩ := gE_ ys (i) (by omega)
   obtain ⟨b_q, o_q, c_q, ha_q, _, hc_q, hR_q⟩ := hy.at he_q
   obtain rfl := hR_q
   refine zlf 2000 0 O O hc_q ?_
   have hdx := qx he_p
   have hdy := qx he_q
   have hcc := zmw i xs ys he hi hj
   rw [hdx, hdy] at hcc
   refine Vq (by kernel_rfl) ?_
   refine Vs 3 O ?_
   refine zl1 1000 tR31 ts3 O ha_p (by omega) (_) (rfl) O ?_
   refine Vs 4 O ?_
   refine zl1 2000 tR31 ts3 O ha_q (by omega) (_) (rfl) O ?_
   refine Vs 4 O ?_
   refine ziB O (fun b3 => ?_) (fun b3 => ?_)
   ·
    refine Vs 1 O ?_
    refine Vw [2, 3, 1000, 2000] [] O ?_
    refine Vd [0, 1, 2, 5, 6, 7] 0 (by kernel_rfl) O O O ?_
    refine zl0 3 1000 tR31 ts3 O (by kernel_rfl) O ha_p (by omega) (_) (rfl) O ?_
    refine Vd [4] 0 (by kernel_rfl) O O O ?_
    refine zl0 8 2000 tR31 ts3 O (by kernel_rfl) O ha_q (by omega) (_) (rfl) O ?_
    refine Vd [9] 0 (by kernel_rfl) O O O ?_
    refine zl8 10 0 Tryz.call73 O (by kernel_rfl) O O (fun w hI => zml p q w) ?_
    refine Vd [11] 0 (by kernel_rfl) O O O ?_
    refine zjI (by kernel_rfl) ?_
    refine Vs 7 O ?_
    refine ziV Tryz.results39 O (fun w hI => ⟨_, rfl, by rw [zn5 hcc b3], hI.k0⟩)
   ·
    refine Va 8 O (by omega) ?_
    refine ziM (i + 1) (zkg O) (zkh O) (⟨⟨by omega, by omega⟩, by rw [List.take_add_one, List.take_add_one, he, he_p, he_q, znh.1 b3]⟩) (by first | omega | (dsimp only; omega)) 0 O O
  ·
   have hcc := zmw i xs ys he hi hj
   refine Vs 17 O ?_
   refine ziB O (fun b3 => ?_) (fun b3 => ?_)
   ·
    refine Vs 8 O ?_
    refine zl7 Tryz.call73 O (fun w hI => zml xs.length ys.length w) ?_
    refine Vs 5 O ?_
    refine ziV Tryz.results39 O (fun w hI => ⟨_, rfl, by rw [zmD hcc hi hj (by omega) b3], hI.k0⟩)
   . exact absurd (by omega) b3
 ·
  have hcc := zmw i xs ys he hi hj
  refine Vs 26 O ?_
  refine ziB O (fun b3 => ?_) (fun b3 => ?_)
  ·
   refine Vs 8 O ?_
   refine zl7 Tryz.call73 O (fun w hI => zml xs.length ys.length w) ?_
   refine Vs 5 O ?_
   refine ziV Tryz.results39 O (fun w hI => ⟨_, rfl, by rw [zmD hcc hi hj (by omega) b3], hI.k0⟩)
  ·
   refine Vs 8 O ?_
   refine zl7 Tryz.call73 O (fun w hI => zml t t' w) ?_
   refine Vs 4 O ?_
   refine ziV Tryz.results39 O (fun w hI => ⟨_, rfl, by rw [zn6 hcc (by omega) (by omega)], hI.k0⟩)
def zmh : List Vr -> Int
 | [] => 1
 | v :: vs => (v.high - v.low + 1) * zmh vs
theorem zmi : ∀ {vs : List Vr}, (∀ v ∈ vs, 1 <= v.high - v.low + 1) -> 1 <= zmh vs
 | [], _ => Int.le_refl _
 | v :: vs, h => by
  have h1 := h v (zmc ..)
  have h2 := zmi (vs := vs) fun x hx => h x (zmb _ hx)
  have : (1 : Int) * 1 <= (v.high - v.low + 1) * zmh vs := Int.mul_le_mul h1 h2 (by omega) (by omega)
  exact this
theorem zmm {k : Int} : ∀ (vs : List Vr) (n m : Int), (∀ v ∈ vs, v.kind = k) -> yf k vs n = some m -> m = n * zmh vs
 | [], n, m, _, h => by simp only [yf, Option.some.injEq] at h; rw [<- h, zmh, Int.mul_one]
 | v :: vs, n, m, hk, h => by
  simp only [yf] at h
  rw [znj (hk v (zmc ..))] at h
  split at h
  . cases h
  . rw [zmm vs _ m (fun x hx => hk x (zmb _ hx)) h, zmh, Int.mul_assoc]
theorem zmM {k : Int} {vs : List Vr} {m : Int} (h : zp k vs = some m) : m = zmh (ze k vs) := by
 unfold zp at h
 rw [<- yZ] at h
 rw [zmm (ze k vs) _ _ (fun v hv => of_decide_eq_true (List.mem_filter.1 hv).2) h, Int.one_mul]
theorem zmn : ∀ {vs : List Vr} {r : Int}, 0 <= r -> (∀ v ∈ vs, 1 <= v.high - v.low + 1) -> (yy vs r).2 = r / zmh vs
 | [], r, _, _ => by simp [yy, zmh]
 | v :: vs, r, h0, h => by
  have h1 := h v (zmc ..)
  have hp := zmi (vs := vs) fun x hx => h x (zmb _ hx)
  rw [yy]
  simp only
  rw [zmn h0 fun x hx => h x (zmb _ hx), Int.tdiv_eq_ediv_of_nonneg (Int.ediv_nonneg h0 (by omega)), Int.ediv_ediv, zni (by omega), zmh, Int.mul_comm (v.high - v.low + 1), Int.sub_zero]
theorem zmr {r : Int} (h0 : 0 <= r) : ∀ {vs : List Vr} {i : Nat} {x : Vr}, (∀ v ∈ vs, 1 <= v.high - v.low + 1) -> vs[i]? = some x -> (yy vs r).1[i]? = some (x.low + (r / zmh (vs.drop (i + 1))).tmod (x.high - x.low + 1))
 | [], _, _, _, hx => by simp at hx
 | v :: vs, 0, x, h, hx => by
  simp only [List.getElem?_cons_zero, Option.some.injEq] at hx
  subst hx
  simp only [yy, List.getElem?_cons_zero, List.drop_succ_cons, List.drop_zero]
  rw [zmn h0 fun x hx => h x (zmb _ hx)]
 | v :: vs, i + 1, x, h, hx => by
  simp only [List.getElem?_cons_succ] at hx
  simp only [yy, List.getElem?_cons_succ, List.drop_succ_cons]
  exact zmr h0 (fun x hx => h x (zmb _ hx)) hx
theorem zix (vs : List Vr) (k : Int) (vv : Value) (D : Nat -> Prop) (W : World) (hk : 0 <= k /\ k <= 3) (hg : ∀ v ∈ vs, yn (v.low, v.high)) (hlen : vs.length <= 1000000) (hvs : SlR 5 RVr D W vv vs) :
  Calls Tryz.prog 66 #[vv, .int .i64 k] W (Ret fun r w' => r = .tuple #[.int .i64 ((zp k vs).getD 0), .int .i64 (if (zp k vs).isSome then 0 else 4)] /\ Ext W w') := by
 have hgo : ∀ v ∈ ze k vs, yn (v.low, v.high) := fun v hv => hg v (List.mem_filter.1 hv).1
 have hsp : yf k (ze k vs) 1 = zp k vs := yZ k vs 1
 have hall : ∀ v ∈ ze k vs, v.kind = k := fun v hv => by simpa using (List.mem_filter.1 hv).2
 have hol := zme (xe k vs) hlen
 refine zkH Tryz.func66 O Tryz.ntmps66 O (zkS ?_)
 refine Vs 8 O ?_
 refine zlj (σ := Unit) [0, 1] [] [] O (fun e u => (23, .bool (decide (¬ (0 <= k /\ k <= 3)))) :: e) (fun e u => e) (fun u => True) (fun _ => rfl) (fun _ => rfl) ?_ ?_
 ·
  refine Vs 4 O ?_
  refine zkt 12 O (fun k1_ => ?_) (fun k1_ => ?_)
  ·
   refine Vs 4 O ?_
   refine zkt 16 O (fun k2_ => ?_) (fun k2_ => ?_)
   ·
    refine Vs 4 O ?_
    refine zkt 20 O (fun k3_ => ?_) (fun k3_ => ?_)
    ·
     refine Vs 4 O ?_
     refine ziR (()) (Sub.cons (by first | exact xp (by omega) | exact xq (by omega) | exact xr (by omega)) (zkg O)) (zkh O) (trivial) 0 O O
    ·
     refine Vs 4 O ?_
     refine ziR (()) (Sub.cons (by first | exact xp (by omega) | exact xq (by omega) | exact xr (by omega)) (zkg O)) (zkh O) (trivial) 0 O O
   ·
    refine Vs 8 O ?_
    refine ziR (()) (Sub.cons (by first | exact xp (by omega) | exact xq (by omega) | exact xr (by omega)) (zkg O)) (zkh O) (trivial) 0 O O
  ·
   refine Vs 12 O ?_
   refine ziR (()) (Sub.cons (by first | exact xp (by omega) | exact xq (by omega) | exact xr (by omega)) (zkg O)) (zkh O) (trivial) 0 O O
 rintro u _
 refine Vs 1 O ?_
 refine ziB O (fun h0 => ?_) (fun h0 => ?_)
 . exact absurd hk h0
 ·
  refine Vs 6 O ?_
  refine zl9 Tryz.call72 O (fun w hI => zfZ vs k vv D w (Tr1 hI.k0 hvs) hlen) ?_
  rintro l w1 w2 hI1 hk12 hos hlow
  obtain ⟨al, cl, rfl⟩ := hos.form
  have hml := hos.max
  refine Vs 10 O ?_
  refine zli (σ := Nat) [6] [] [] O (fun e i => (7, .int .i64 i) :: e) (fun e i => e) (fun i => i <= (ze k vs).length) (fun i => (ze k vs).length - i) (0) (zkg O) (zkh O) (fun _ => rfl) (fun _ => rfl) (fun _ => rfl) (znm _) ?_
  rintro i hi
  refine Vs 9 O ?_
  refine ziB O (fun hlt => ?_) (fun hlt => ?_)
  ·
   refine Vs 5 O ?_
   obtain ⟨x, he_x, hm_x⟩ := gE_ (ze k vs) (i) (by omega)
   obtain ⟨b_x, o_x, c_x, ha_x, hd_x, hc_x, hR_x⟩ := hos.atD he_x
   obtain rfl := hR_x
   refine zlg 1000 0 O O (fun h_ => by have h1_ := hlow _ h_; have h2_ := hd_x; first | omega | exact h1_ h2_) hc_x ?_
   have hgx := hgo x hm_x
   unfold yn at hgx
   dsimp only at hgx
   refine Vq (by kernel_rfl) ?_
   refine Vs 2 O ?_
   refine zl1 1000 tR52 ts120 O ha_x (by omega) (_) (rfl) O ?_
   refine Vs 4 O ?_
   refine zl1 1000 tR52 ts120 O ha_x (by omega) (_) (rfl) O ?_
   refine Vs 4 O ?_
   refine zkt 44 O (fun b1 => ?_) (fun b1 => ?_)
   . exact absurd b1 (by omega)
   ·
    refine Vs 2 O ?_
    refine zl1 1000 tR52 ts120 O ha_x (by omega) (_) (rfl) O ?_
    refine Vs 5 O ?_
    refine zkt 52 O (fun b2 => ?_) (fun b2 => ?_)
    . exact absurd b2 (by omega)
    ·
     refine Vs 2 O ?_
     refine zl1 1000 tR52 ts120 O ha_x (by omega) (_) (rfl) O ?_
     refine Vs 6 O ?_
     refine ziB O (fun b3 => ?_) (fun b3 => ?_)
     . exact absurd b3 (by omega)
     ·
      refine Va 8 O (by omega) ?_
      refine ziM (i + 1) (zkg O) (zkh O) (by omega) (by first | omega | (dsimp only; omega)) 0 O O
  ·
   refine Vs 17 O ?_
   refine zli (σ := Nat × Int) [6] [] [] O (fun e ⟨j, n⟩ => (8, .int .i64 n) :: (9, .int .i64 j) :: e) (fun e ⟨j, n⟩ => e) (fun ⟨j, n⟩ => j <= (ze k vs).length /\ yf k ((ze k vs).take j) 1 = some n) (fun ⟨j, n⟩ => (ze k vs).length - j) ((0, 1)) (zkg O) (zkh O) (fun _ => rfl) (fun _ => rfl) (fun _ => rfl) (⟨znm _, rfl⟩) ?_
   rintro ⟨j, n⟩ ⟨hj, hs⟩
   show V _ _ _ _ _ ((8, .int .i64 n) :: (9, .int .i64 j) :: _) _ (_) _
   have hn := yq k ((ze k vs).take j) 1 n (fun v hv => hgo v (List.mem_of_mem_take hv)) (by omega) (by omega) hs
   refine Vs 9 O ?_
   refine ziB O (fun hlt2 => ?_) (fun hlt2 => ?_)
   ·
    refine Vs 5 O ?_
    obtain ⟨x, he_x, hm_x⟩ := gE_ (ze k vs) (j) (by omega)
    obtain ⟨b_x, o_x, c_x, ha_x, hd_x, hc_x, hR_x⟩ := hos.atD he_x
    obtain rfl := hR_x
    refine zlg 2000 0 O O (fun h_ => by have h1_ := hlow _ h_; have h2_ := hd_x; first | omega | exact h1_ h2_) hc_x ?_
    have hgx := hgo x hm_x
    unfold yn at hgx
    dsimp only at hgx
    have hp := zeq (n := n) (s := x.high - x.low + 1) hn.1 hn.2 (by omega) (by omega)
    have hst : yf k ((ze k vs).take (j + 1)) 1 = if 4096 < n * (x.high - x.low + 1) then none else some (n * (x.high - x.low + 1)) := by
     rw [zg he_x, zU, hs]; simp [yf, hall x hm_x]
    refine Vq (by kernel_rfl) ?_
    refine Vs 3 O ?_
    refine zl1 2000 tR52 ts120 O ha_x (by omega) (_) (rfl) O ?_
    refine Vs 4 O ?_
    refine zl1 2000 tR52 ts120 O ha_x (by omega) (_) (rfl) O ?_
    refine Va 14 O (by omega) ?_
    refine ziB O (fun hb => ?_) (fun hb => ?_)
    ·
     rw [znj hb] at hst
     have hnone : zp k vs = none := by
      rw [<- hsp, <- List.take_append_drop (j + 1) (ze k vs), zU, hst]; rfl
     refine Vs 12 O ?_
     refine ziY tr66 O O (fun w hI => ⟨_, rfl, by rw [hnone]; rfl, hI.k1⟩)
    ·
     rw [zni hb] at hst
     refine Va 8 O (by omega) ?_
     refine ziM ((j + 1, n * (x.high - x.low + 1))) (zkg O) (zkh O) (⟨by omega, hst⟩) (by first | omega | (dsimp only; omega)) 0 O O
   ·
    have : j = (ze k vs).length := by omega
    subst this
    rw [zmd, hsp] at hs
    refine Vs 13 O ?_
    refine ziY tr66 O O (fun w hI => ⟨_, rfl, by rw [hs]; rfl, hI.k1⟩)
theorem zmN (vs : List Vr) (k : Int) (r : List Int) (vv rv : Value) (D D' : Nat -> Prop) (W : World) (hk : 0 <= k /\ k <= 3) (hg : ∀ v ∈ vs, yn (v.low, v.high)) (hlen : vs.length <= 1000000) (hvs : SlR 5 RVr D W vv vs) (hr : SlR 1 zF D' W rv r) :
  Calls Tryz.prog 38 #[vv, .int .i64 k, rv] W (Ret fun rr w' => rr = .tuple #[.int .i64 (xT k vs r).1, .int .i64 (xT k vs r).2] /\ Ext W w') := by
 obtain ⟨ar, cr, rfl⟩ := hr.form
 have hmr := hr.max
 refine zkI Tryz.func38 O Tryz.ntmps38 O (zkS ?_)
 refine Vs 10 O ?_
 refine zl7 Tryz.call66 O (fun w hI => zix vs k vv D w hk hg hlen (Tr1 hI.k0 hvs)) ?_
 refine Vs 14 O ?_
 refine ziB O (fun c0 => ?_) (fun c0 => ?_)
 ·
  have hc : ¬ (zp k vs).isSome = true := fun h => c0 (znj h)
  refine Vs 9 O ?_
  refine ziY Tryz.results38 O O (fun w hI => ⟨_, rfl, by unfold xT; rw [zni hc, zni hc], hI.k0⟩)
 ·
  have hc : (zp k vs).isSome = true := by
   cases h : (zp k vs).isSome with
   | true => rfl
   | false => rw [h] at c0; exact absurd (by decide) c0
  refine Vs 6 O ?_
  refine zl9 Tryz.call72 O (fun w hI => zfZ vs k vv D w (Tr1 hI.k0 hvs) hlen) ?_
  rintro l w1 w2 hI1 hk12 hos hlow
  obtain ⟨al, cl, rfl⟩ := hos.form
  have hml := hos.max
  refine Vs 13 O ?_
  refine ziB O (fun c1 => ?_) (fun c1 => ?_)
  ·
   refine Vs 8 O ?_
   refine ziY Tryz.results38 O O (fun w hI => ⟨_, rfl, by unfold xT; rw [znj hc, zni (by omega)], hI.k1⟩)
  ·
   have hel : r.length = (ze k vs).length := by omega
   refine Vs 14 O ?_
   refine zli (σ := Nat × Int) [2, 10] [] [] O (fun e ⟨i, n⟩ => (11, .int .i64 n) :: (12, .int .i64 i) :: e) (fun e ⟨i, n⟩ => e) (fun ⟨i, n⟩ => i <= (ze k vs).length /\ zcN ((ze k vs).drop i) (r.drop i) n = zcN (ze k vs) r 0 /\ ∃ m, yf k ((ze k vs).take i) 1 = some m /\ 0 <= n /\ n < m) (fun ⟨i, n⟩ => (ze k vs).length - i) ((0, 0)) (zkg O) (zkh O) (fun _ => rfl) (fun _ => rfl) (fun _ => rfl) (⟨znm _, rfl, 1, rfl, by omega, by omega⟩) ?_
   rintro ⟨i, n⟩ ⟨hi, hrk, m, hm, hn0, hn1⟩
   show V _ _ _ _ _ ((11, .int .i64 n) :: (12, .int .i64 i) :: _) _ (_) _
   refine Vs 9 O ?_
   refine ziB O (fun hlt => ?_) (fun hlt => ?_)
   ·
    refine Vs 6 O ?_
    obtain ⟨x, he_x, hm_x⟩ := gE_ (ze k vs) (i) (by omega)
    obtain ⟨b_x, o_x, c_x, ha_x, hd_x, hc_x, hR_x⟩ := hos.atD he_x
    obtain rfl := hR_x
    refine zlg 1000 0 O O (fun h_ => by have h1_ := hlow _ h_; have h2_ := hd_x; first | omega | exact h1_ h2_) hc_x ?_
    obtain ⟨y, he_y, hm_y⟩ := gE_ r (i) (by omega)
    obtain ⟨b_y, o_y, c_y, ha_y, _, hc_y, hR_y⟩ := hr.at he_y
    obtain rfl := hR_y
    refine zlf 2000 1 O O hc_y ?_
    have hgx := hg x (xC hm_x)
    unfold yn at hgx
    dsimp only at hgx
    have hdx := qx he_x
    have hdy := qx he_y
    refine Vq (by kernel_rfl) ?_
    refine Vs 2 O ?_
    refine zl1 2000 tR31 ts3 O ha_y (by omega) (_) (rfl) O ?_
    refine Vs 3 O ?_
    refine zl1 1000 tR52 ts120 O ha_x (by omega) (_) (rfl) O ?_
    refine Vs 4 O ?_
    refine zkt 46 O (fun b1 => ?_) (fun b1 => ?_)
    ·
     refine Vs 27 O ?_
     refine ziY Tryz.results38 O O (fun w hI => ⟨_, rfl, by unfold xT; rw [znj hc, znj hel, <- hrk, hdx, hdy]; unfold zcN; rw [znj (by omega)], hI.k1⟩)
    ·
     refine Vs 2 O ?_
     refine zl1 2000 tR31 ts3 O ha_y (by omega) (_) (rfl) O ?_
     refine Vs 3 O ?_
     refine zl1 1000 tR52 ts120 O ha_x (by omega) (_) (rfl) O ?_
     refine Vs 6 O ?_
     refine ziB O (fun d1 => ?_) (fun d1 => ?_)
     ·
      refine Vs 13 O ?_
      refine ziY Tryz.results38 O O (fun w hI => ⟨_, rfl, by unfold xT; rw [znj hc, znj hel, <- hrk, hdx, hdy]; unfold zcN; rw [znj (by omega)], hI.k1⟩)
     ·
      obtain ⟨m', hm'⟩ := zdR hc (i + 1)
      have hp := yq k ((ze k vs).take (i + 1)) 1 m' (fun v hv => hg v (xC (List.mem_of_mem_take hv))) (by omega) (by omega) hm'
      have hst := hm'
      rw [zg he_x, zU, hm] at hst
      have hkx : x.kind = k := of_decide_eq_true (List.mem_filter.1 hm_x).2
      have hmm : m * (x.high - x.low + 1) = m' := by
       simp only [Option.bind, yf] at hst
       rw [znj hkx] at hst
       split at hst
       . cases hst
       . exact Option.some.inj hst
      have hrs := zeN (s := x.high - x.low + 1) (x := y) (l := x.low) hn0 hn1 (by omega) (by omega) (by omega)
      refine Vs 2 O ?_
      refine Vq (by kernel_rfl) ?_
      refine Vs 3 O ?_
      refine zl1 1000 tR52 ts120 O ha_x (by omega) (_) (rfl) O ?_
      refine Vs 4 O ?_
      refine zl1 1000 tR52 ts120 O ha_x (by omega) (_) (rfl) O ?_
      refine Va 7 O (by omega) ?_
      refine zl1 2000 tR31 ts3 O ha_y (by omega) (_) (rfl) O ?_
      refine Va 4 O (by omega) ?_
      refine zl1 1000 tR52 ts120 O ha_x (by omega) (_) (rfl) O ?_
      refine Va 12 O (by omega) ?_
      refine ziM ((i + 1, n * (x.high - x.low + 1) + y - x.low)) (zkg O) (zkh O) (⟨by omega, by rw [<- hrk, hdx, hdy]; conv => rhs; unfold zcN; rw [zni (by omega)], m', hm', by omega, by omega⟩) (by first | omega | (dsimp only; omega)) 0 O O
   ·
    have : i = (ze k vs).length := by omega
    subst this
    rw [List.drop_length, <- hel, List.drop_length] at hrk
    refine Vs 13 O ?_
    refine ziY Tryz.results38 O O (fun w hI => ⟨_, rfl, by unfold xT; rw [znj hc, znj hel, <- hrk]; rfl, hI.k1⟩)
theorem ziw (vs : List Vr) (k r : Int) (vv : Value) (D : Nat -> Prop) (W : World) (hk : 0 <= k /\ k <= 3) (hg : ∀ v ∈ vs, yn (v.low, v.high)) (hlen : vs.length <= 1000000) (hvs : SlR 5 RVr D W vv vs) :
  Calls Tryz.prog 71 #[vv, .int .i64 k, .int .i64 r] W (Ret fun rr w' => (∃ u, rr = .tuple #[u, .int .i64 (yH k vs r)] /\ (yH k vs r ≠ 0 -> u = .slice none 0 0) /\ (yH k vs r = 0 -> SlR 1 zF (fun b => W.heap.size <= b) w' u (yy (ze k vs) r).1)) /\ Ext W w') := by
 have hgo : ∀ v ∈ ze k vs, yn (v.low, v.high) := fun v hv => hg v (List.mem_filter.1 hv).1
 have hgs : ∀ v ∈ ze k vs, 1 <= v.high - v.low + 1 := fun v hv => by have := hgo v hv; unfold yn at this; dsimp only at this; omega
 have hol := zme (xe k vs) hlen
 have hul := qS (ze k vs) r
 refine zkI Tryz.func71 O Tryz.ntmps71 O (zkS ?_)
 refine Vs 10 O ?_
 refine zl7 Tryz.call66 O (fun w hI => zix vs k vv D w hk hg hlen (Tr1 hI.k0 hvs)) ?_
 refine Vs 14 O ?_
 refine ziB O (fun c0 => ?_) (fun c0 => ?_)
 ·
  have hc : ¬ (zp k vs).isSome = true := fun h => c0 (znj h)
  have hC : yH k vs r = 4 := by unfold yH; rw [zni hc]
  refine Vs 9 O ?_
  refine ziY Tryz.results71 O O (fun w hI => ⟨_, rfl, ⟨_, by rw [hC, zni hc], fun _ => rfl, fun h => by rw [hC] at h; cases h⟩, hI.k0⟩)
 ·
  have hc : (zp k vs).isSome = true := by
   cases h : (zp k vs).isSome with
   | true => rfl
   | false => rw [h] at c0; exact absurd (by decide) c0
  have hN := zfW hg hc
  obtain ⟨m, hm⟩ := Option.isSome_iff_exists.1 hc
  have hmp := zmM hm
  have hU : yH k vs r = if r < 0 \/ m <= r then 3 else 0 := by unfold yH; rw [znj hc, hm]; rfl
  rw [hm] at hN
  simp only [Option.getD_some] at hN
  rw [hm]
  simp only [Option.getD_some]
  refine Vs 8 O ?_
  refine zkt 25 O (fun r0 => ?_) (fun r0 => ?_)
  ·
   have hC : yH k vs r = 3 := by rw [hU, znj (.inl r0)]
   refine Vs 15 O ?_
   refine ziY Tryz.results71 O O (fun w hI => ⟨_, rfl, ⟨_, by rw [hC], fun _ => rfl, fun h => by rw [hC] at h; cases h⟩, hI.k0⟩)
  ·
   refine Vs 6 O ?_
   refine ziB O (fun r1 => ?_) (fun r1 => ?_)
   ·
    have hC : yH k vs r = 3 := by rw [hU, znj (.inr r1)]
    refine Vs 8 O ?_
    refine ziY Tryz.results71 O O (fun w hI => ⟨_, rfl, ⟨_, by rw [hC], fun _ => rfl, fun h => by rw [hC] at h; cases h⟩, hI.k0⟩)
   ·
    have hC : yH k vs r = 0 := by rw [hU, zni (by omega)]
    refine Vs 6 O ?_
    refine zl9 Tryz.call72 O (fun w hI => zfZ vs k vv D w (Tr1 hI.k0 hvs) hlen) ?_
    rintro l w1 w2 hI1 hk12 hos hlow
    obtain ⟨al, cl, rfl⟩ := hos.form
    have hml := hos.max
    refine Vs 5 O ?_
    refine V.bs0 33 tR31 ts3 O (fun b33 => ?_)
    refine Vs 10 O ?_
    refine zli (σ := Nat × Int × Value) [2, 10] [] [] O (fun e ⟨i, n, v⟩ => (12, .int .i64 i) :: (8, .int .i64 n) :: (11, v) :: e) (fun e ⟨i, n, v⟩ => (33, .row 3 1 v i (((yy (ze k vs) r).1.take i).map zi)) :: e) (fun ⟨i, n, v⟩ => i <= (ze k vs).length /\ n = zmh ((ze k vs).drop i) /\ n <= 4096) (fun ⟨i, n, v⟩ => (ze k vs).length - i) ((0, m, .slice (some ⟨b33, 0, none⟩) 0 0)) (zkg O) (zkh O) (fun _ => rfl) (fun _ => rfl) (fun _ => rfl) (⟨znm _, hmp, hN⟩) ?_
    rintro ⟨i, n, v⟩ ⟨hi, hn, hn4⟩
    show V _ _ _ _ _ ((12, .int .i64 i) :: (8, .int .i64 n) :: (11, v) :: _) _ ((33, .row 3 1 v i (((yy (ze k vs) r).1.take i).map zi)) :: _) _
    refine Vs 9 O ?_
    refine ziB O (fun hlt => ?_) (fun hlt => ?_)
    ·
     refine Vs 5 O ?_
     obtain ⟨x, he_x, hm_x⟩ := gE_ (ze k vs) (i) (by omega)
     obtain ⟨b_x, o_x, c_x, ha_x, hd_x, hc_x, hR_x⟩ := hos.atD he_x
     obtain rfl := hR_x
     refine zlg 1000 0 O O (fun h_ => by have h1_ := hlow _ h_; have h2_ := hd_x; first | omega | exact h1_ h2_) hc_x ?_
     have hgx := hgo x hm_x
     unfold yn at hgx
     dsimp only at hgx
     have hdx := qx he_x
     have hp1 := zmi (vs := (ze k vs).drop (i + 1)) fun y hy => hgs y (List.mem_of_mem_drop hy)
     have hn' : n.tdiv (x.high - x.low + 1) = zmh ((ze k vs).drop (i + 1)) := by
      rw [hn, hdx, zmh, Int.mul_tdiv_cancel_left _ (by omega)]
     have hn1 : 1 <= n := by rw [hn]; exact zmi fun y hy => hgs y (List.mem_of_mem_drop hy)
     have hle := Int.tdiv_le_self (x.high - x.low + 1) (show 0 <= n by omega)
     have hq0 := Int.tdiv_nonneg (show 0 <= r by omega) (show 0 <= n.tdiv (x.high - x.low + 1) by omega)
     have hq1 := Int.tdiv_le_self (n.tdiv (x.high - x.low + 1)) (show 0 <= r by omega)
     have hr0 := Int.tmod_nonneg (x.high - x.low + 1) hq0
     have hr1 := Int.tmod_lt_of_pos (r.tdiv (n.tdiv (x.high - x.low + 1))) (show 0 < x.high - x.low + 1 by omega)
     have zm := zmr (r := r) (by omega) hgs he_x
     rw [<- Int.tdiv_eq_ediv_of_nonneg (by omega), <- hn'] at zm
     refine Vq (by kernel_rfl) ?_
     refine Vs 2 O ?_
     refine zl1 1000 tR52 ts120 O ha_x (by omega) (_) (rfl) O ?_
     refine Vs 4 O ?_
     refine zl1 1000 tR52 ts120 O ha_x (by omega) (_) (rfl) O ?_
     refine Va 11 O (by omega) ?_
     refine zkx O (fun w hI => R.quo O O (by omega) (by omega)) ?_
     refine Vs 3 O ?_
     refine Vw [1000] [] O ?_
     refine Vd [0, 1, 2, 6, 7, 9] 0 (by kernel_rfl) O O O ?_
     refine zl0 3 1000 tR52 ts120 O (by kernel_rfl) O ha_x (by omega) (_) (rfl) O ?_
     refine Vd [4, 5] 0 (by kernel_rfl) O O O ?_
     refine zlp 8 O (by kernel_rfl) O (fun w => R.quo O O (by omega) (by omega)) ?_
     refine zlp 10 O (by kernel_rfl) O (fun w => R.rem O O (by omega) (by omega)) ?_
     refine Vb [11] 0 (by kernel_rfl) O O O (by omega) ?_
     refine zlm 12 67 0 [(0, _)] tR31 ts3 tz3 (by decide) O (by kernel_rfl) O O (by kernel_rfl) (fun b67 => ?_)
     refine zl3 13 33 67 0 tu31 Tryz.el3 O (by decide) O (by kernel_rfl) O O O (by omega) (by omega) (fun u33 => ?_)
     refine Vd [14] 0 (by kernel_rfl) O O O ?_
     refine zjI (by kernel_rfl) ?_
     refine Vs 2 O ?_
     refine zlh 33 O (e' := .row 3 1 u33 (i + 1) (((yy (ze k vs) r).1.take (i + 1)).map zi)) (by rw [List.take_add_one, zm, List.map_append]; rfl) ?_
     refine Va 5 O (by omega) ?_
     refine ziM (⟨i + 1, n.tdiv (x.high - x.low + 1), u33⟩) (zkg O) (zkh O) (⟨by omega, hn', by omega⟩) (by first | omega | (dsimp only; omega)) 0 O O
    ·
     have : i = (ze k vs).length := by omega
     subst this
     refine zlh 33 O (e' := .row 3 1 v (yy (ze k vs) r).1.length ((yy (ze k vs) r).1.map zi)) (by rw [<- hul, zmd]) ?_
     refine Vs 13 O ?_
     refine ziY Tryz.results71 O O (fun w hI => ⟨_, rfl, ⟨_, by rw [hC], fun h => absurd hC h, fun _ => zjO zi (fun _ _ => rfl) (hI.at 33 O) (fun b hb => hI.own 33 1 O O b hb)⟩, hI.k1⟩)
def zn2 (vs : List Vr) (s p r : Int) : Int := if yH 1 vs s ≠ 0 then yH 1 vs s else if yH 2 vs p ≠ 0 then yH 2 vs p else yH 3 vs r
theorem zmE (vs : List Vr) (s p r : Int) (vv : Value) (D : Nat -> Prop) (W : World) (hg : ∀ v ∈ vs, yn (v.low, v.high)) (hlen : vs.length <= 1000000) (hvs : SlR 5 RVr D W vv vs) :
  Calls Tryz.prog 74 #[vv, .int .i64 s, .int .i64 p, .int .i64 r] W (Ret fun rr w' => (∃ a b c, rr = .tuple #[.agg #[a, b, c], .int .i64 (zn2 vs s p r)] /\ (zn2 vs s p r ≠ 0 -> a = .slice none 0 0 /\ b = .slice none 0 0 /\ c = .slice none 0 0) /\ (zn2 vs s p r = 0 -> SlR 1 zF (fun q => W.heap.size <= q) w' a (yy (ze 1 vs) s).1 /\ SlR 1 zF (fun q => W.heap.size <= q) w' b (yy (ze 2 vs) p).1 /\ SlR 1 zF (fun q => W.heap.size <= q) w' c (yy (ze 3 vs) r).1)) /\ Ext W w') := by
 refine zkJ Tryz.func74 O Tryz.ntmps74 O (zkS ?_)
 refine Vs 2 O ?_
 refine V.alloc 8 Tryz.zeroValue123 O O (fun b8 => ?_)
 refine Vs 7 O ?_
 refine zl9 Tryz.call71 O (fun w hI => ziw vs 1 s vv D w (by decide) hg hlen (Tr1 hI.k0 hvs)) ?_
 rintro r1 w1 w2 hI1 hk12 ⟨a, rfl, ha0, ha1⟩ hlow
 refine Vs 14 O ?_
 refine ziB O (fun c1 => ?_) (fun c1 => ?_)
 ·
  have hc : zn2 vs s p r = yH 1 vs s := znj c1
  refine Vs 2 O ?_
  refine zln [Value.slice none 0 0, Value.slice none 0 0, Value.slice none 0 0] [(0, 1), (1, 1), (2, 1)] [] O O (fun _ => by kernel_rfl) ?_
  refine Vs 7 O ?_
  refine zj6 Tryz.results74 Tryz.isAgg123 Tryz.sizeOf123 O O O O (fun w hI => ⟨_, rfl, ⟨_, _, _, by rw [hc], fun _ => ⟨rfl, rfl, rfl⟩, fun h => absurd (hc ▸ h) c1⟩, hI.k1⟩)
 ·
  have ha := ha1 (znh.1 c1)
  obtain ⟨aa, ca, rfl⟩ := ha.form
  refine Vs 6 O ?_
  refine zl9 Tryz.call71 O (fun w hI => ziw vs 2 p vv D w (by decide) hg hlen (Tr1 hI.k1 hvs)) ?_
  rintro r2 w3 w4 hI3 hk34 ⟨b, rfl, hb0, hb1⟩ hlow2
  refine Vs 14 O ?_
  refine ziB O (fun c2 => ?_) (fun c2 => ?_)
  ·
   have hc : zn2 vs s p r = yH 2 vs p := by unfold zn2; rw [zni c1, znj c2]
   refine Vs 2 O ?_
   refine zln [Value.slice none 0 0, Value.slice none 0 0, Value.slice none 0 0] [(0, 1), (1, 1), (2, 1)] [] O O (fun _ => by kernel_rfl) ?_
   refine Vs 7 O ?_
   refine zj6 Tryz.results74 Tryz.isAgg123 Tryz.sizeOf123 O O O O (fun w hI => ⟨_, rfl, ⟨_, _, _, by rw [hc], fun _ => ⟨rfl, rfl, rfl⟩, fun h => absurd (hc ▸ h) c2⟩, hI.k2⟩)
  ·
   have hb := hb1 (znh.1 c2)
   obtain ⟨ab, cb, rfl⟩ := hb.form
   refine Vs 6 O ?_
   refine zl9 Tryz.call71 O (fun w hI => ziw vs 3 r vv D w (by decide) hg hlen (Tr1 hI.k2 hvs)) ?_
   rintro r3 w5 w6 hI5 hk56 ⟨c, rfl, hc0, hc1⟩ hlow3
   have hcc : zn2 vs s p r = yH 3 vs r := by unfold zn2; rw [zni c1, zni c2]
   refine Vs 14 O ?_
   refine ziB O (fun c3 => ?_) (fun c3 => ?_)
   ·
    refine Vs 2 O ?_
    refine zln [Value.slice none 0 0, Value.slice none 0 0, Value.slice none 0 0] [(0, 1), (1, 1), (2, 1)] [] O O (fun _ => by kernel_rfl) ?_
    refine Vs 7 O ?_
    refine zj6 Tryz.results74 Tryz.isAgg123 Tryz.sizeOf123 O O O O (fun w hI => ⟨_, rfl, ⟨_, _, _, by rw [hcc], fun _ => ⟨rfl, rfl, rfl⟩, fun h => absurd (hcc ▸ h) c3⟩, hI.k3⟩)
   ·
    have hc := hc1 (znh.1 c3)
    obtain ⟨ac, cc, rfl⟩ := hc.form
    have e1 : W.heap.size <= w1.heap.size := hI1.k0.size
    have e3 : W.heap.size <= w3.heap.size := hI3.k1.size
    have e5 : W.heap.size <= w5.heap.size := hI5.k2.size
    refine V.dat 900 2 O O O (ha) (fun q hq _ hs => by have := hlow q hs; omega) ?_
    refine V.dat 901 1 O O O (hb) (fun q hq _ hs => by have := hlow2 q hs; omega) ?_
    refine V.dat 902 0 O O O (hc) (fun q hq _ hs => by have := hlow3 q hs; omega) ?_
    refine Vs 7 O ?_
    refine zln [Value.slice none 0 0, Value.slice none 0 0, Value.slice none 0 0] [(0, 1), (1, 1), (2, 1)] [(0, _), (1, _), (2, _)] O O (fun _ => by kernel_rfl) ?_
    refine Vs 5 O ?_
    refine zj6 Tryz.results74 Tryz.isAgg123 Tryz.sizeOf123 O O O O (fun w hI => ⟨_, rfl, ⟨_, _, _, by rw [hcc, znh.1 c3], fun h => absurd (hcc ▸ znh.1 c3) h, fun _ => ⟨(hI.at 900 O).1.wide zc (fun q hq => by omega), (hI.at 901 O).1.wide zc (fun q hq => by omega), (hI.at 902 O).1.wide zc (fun q hq => by omega)⟩⟩, hI.k3⟩)
theorem zmX {k : Int} {vs : List Vr} (hg : ∀ v ∈ vs, yn (v.low, v.high)) (h : (zp k vs).isSome = true) : yH k vs 0 = 0 := by
 obtain ⟨m, hm⟩ := Option.isSome_iff_exists.1 h
 have := yq k vs 1 m hg (by omega) (by omega) hm
 unfold yH
 rw [znj h, hm]
 simp only [Option.getD_some]
 rw [zni (by omega)]
theorem zmx (f : Fl) (vd : Valid f) (hr : ze 3 f.vars = []) (hs2 : (zp 2 f.vars).isSome = true) (pub : List Int) (s : Int) (v1 v2 v3 pv : Value) (D D' : Nat -> Prop) (W : World) (hf : RFl D W f v1 v2 v3) (hp : SlR 1 zF D' W pv pub) :
  Calls Tryz.prog 40 #[.agg #[v1, v2, v3], pv, .int .i64 s] W (Ret fun r w' => (∃ ov, r = .agg #[ov, .int .i64 (obN f pub s).2] /\ SlR 1 zF (fun b => W.heap.size <= b) w' ov (obN f pub s).1) /\ Ext W w') := by
 have hl := vd.lens
 have hs3 : zp 3 f.vars = some 1 := by unfold zp; rw [<- yZ, hr]; rfl
 have hi : zn2 f.vars s 0 0 = yH 1 f.vars s := by
  unfold zn2
  rw [zmX vd.good hs2, zmX vd.good (by rw [hs3]; rfl)]
  by_cases h : yH 1 f.vars s = 0
  . rw [zni (znn h), zni (by decide), h]
  . rw [znj h]
 obtain ⟨ap, cp, rfl⟩ := hp.form
 refine zkI Tryz.func40 O Tryz.ntmps40 O (zkS ?_)
 refine Vs 2 O ?_
 refine V.box 3 O O (fun b3 => ?_)
 refine V.alloc 6 tz60 O O (fun b6 => ?_)
 refine Vs 7 O ?_
 refine zl9 Tryz.call74 O (fun w hI => zmE f.vars s 0 0 v1 D w vd.good (by omega) (Tr1 hI.k0 hf.vars)) ?_
 rintro r1 w1 w2 hI1 hk12 ⟨a, b, c, rfl, hu0, hu1⟩ hlow
 have hsec : SlR 1 zF (fun b => w1.heap.size <= b) w2 a (zh3 f s) /\ SlR 1 zF (fun b => w1.heap.size <= b) w2 c [] /\ ∃ (ab : Option Addr) (nb cb : Nat), b = .slice ab nb cb := by
  unfold zh3
  by_cases h : yH 1 f.vars s = 0
  ·
   obtain ⟨h1, h2, h3⟩ := hu1 (hi.trans h)
   obtain ⟨ab, cb, hb⟩ := h2.form
   rw [znj h]
   refine ⟨h1, ?_, _, _, _, hb⟩
   rw [hr] at h3
   exact h3
  ·
   obtain ⟨rfl, rfl, rfl⟩ := hu0 (fun h' => h (hi.symm.trans h'))
   rw [zni h]
   exact ⟨SlR.nil, SlR.nil, _, _, _, rfl⟩
 obtain ⟨hsec, hrnd, ab, nb, cb, rfl⟩ := hsec
 obtain ⟨au, cu, rfl⟩ := hsec.form
 obtain ⟨ac, cc, rfl⟩ := hrnd.form
 have e1 : W.heap.size <= w1.heap.size := hI1.k0.size
 refine Vs 3 O ?_
 refine V.alloc 7 Tryz.zeroValue123 O O (fun b7 => ?_)
 refine Vs 12 O ?_
 refine V.dat 900 0 O O O (hsec) (fun q hq _ hs => by have := hlow q hs; omega) ?_
 refine V.dat 902 0 O O O (hrnd) (fun q hq _ hs => by have := hlow q hs; omega) ?_
 refine Vs 3 O ?_
 refine zl9 Tryz.call75 O (fun w hI => zmW f (qU f pub s) v1 v2 v3 _ _ _ D _ D' _ w (Tr1 hI.k1 hf) (hI.at 900 O).1 (Tr1 hI.k1 hp) (hI.at 902 O).1 vd.size vd.bulk) ?_
 rintro r2 w3 w4 hI3 hk34 ⟨ov, t, rfl, h1, h2⟩ hlow2
 obtain ⟨rfl, hov⟩ := zhL h1 h2
 obtain ⟨ao, co, rfl⟩ := hov.form
 have e3 : W.heap.size <= w3.heap.size := hI3.k1.size
 refine Vs 3 O ?_
 refine V.alloc 9 tz60 O O (fun b9 => ?_)
 refine Vs 11 O ?_
 refine V.dat 901 0 O O O (hov) (fun q hq _ hs => by have := hlow2 q hs; omega) ?_
 refine zj3 Tryz.results40 tg60 ts60 O O O (fun w hI => ⟨_, rfl, ⟨_, rfl, (hI.at 901 O).1.wide zc (fun q hq => by omega)⟩, hI.k2⟩)
theorem zn7 (l m : List (List Int × Int)) (v v2 : Value) (D D2 : Nat -> Prop) (g : FuncId) (W : World) (hf : ∀ args w, (callFunc g args).run Tryz.prog w = .ok (.enter g args) w) (hl : SlR 2 ROb D W v l) (hm : SlR 2 ROb D2 W v2 m)
  (hc : ∀ (x y : (List Int × Int)) (u u2 : Value) (w : World), SlR 1 zF D w u x.1 -> SlR 1 zF D2 w u2 y.1 -> Calls Tryz.prog g #[.agg #[u, .int .i64 x.2], .agg #[u2, .int .i64 y.2]] w (Ret fun r w' => r = .bool (decide (x = y)) /\ Ext w w')) :
  Calls Tryz.prog 34 #[v, v2, .func (.func g) #[] #[]] W (Ret fun r w' => r = .bool (decide (l = m)) /\ Ext W w') := by
 obtain ⟨av, cv, rfl⟩ := hl.form
 obtain ⟨am, cm, rfl⟩ := hm.form
 have hmx := hl.max
 have hmm := hm.max
 refine zkI Tryz.func34 O Tryz.ntmps34 O (zkS ?_)
 refine Vs 15 O ?_
 refine ziB O (fun e0 => ?_) (fun e0 => ?_)
 ·
  refine Vs 7 O ?_
  refine ziV Tryz.results34 O (fun w hI => ⟨_, rfl, by rw [znl (fun e => by rw [e] at e0; exact e0 O)], hI.k0⟩)
 ·
  have hel : l.length = m.length := by omega
  refine Vs 11 O ?_
  refine zli (σ := Nat) [1, 2, 15, 16] [] [] O (fun e i => (17, .int .i64 i) :: e) (fun e i => e) (fun i => i <= l.length /\ l.take i = m.take i) (fun i => l.length - i) (0) (zkg O) (zkh O) (fun _ => rfl) (fun _ => rfl) (fun _ => rfl) (⟨znm _, rfl⟩) ?_
  rintro i ⟨hi, he⟩
  refine Vs 6 O ?_
  refine ziB O (fun hlt => ?_) (fun hlt => ?_)
  ·
   refine Vs 7 O ?_
   obtain ⟨x, he_x, hm_x⟩ := gE_ l (i) (by omega)
   obtain ⟨b_x, o_x, c_x, ha_x, _, hc_x, hR_x⟩ := hl.at he_x
   obtain ⟨v1_x, rfl, hs_x⟩ := hR_x
   obtain ⟨a1_x, n1_x, rfl⟩ := hs_x.form
   refine zlf 1000 0 O O hc_x ?_
   refine zkZ 1000 tR76 ts60 O ha_x (by omega) (_) (rfl) O ?_
   refine Vs 1 O ?_
   refine V.alloc 8 tz60 O O (fun b8 => ?_)
   refine Vs 8 O ?_
   obtain ⟨y, he_y, hm_y⟩ := gE_ m (i) (by omega)
   obtain ⟨b_y, o_y, c_y, ha_y, _, hc_y, hR_y⟩ := hm.at he_y
   obtain ⟨v1_y, rfl, hs_y⟩ := hR_y
   obtain ⟨a1_y, n1_y, rfl⟩ := hs_y.form
   refine zlf 2000 0 O O hc_y ?_
   refine zkZ 2000 tR76 ts60 O ha_y (by omega) (_) (rfl) O ?_
   refine Vs 1 O ?_
   refine V.alloc 9 tz60 O O (fun b9 => ?_)
   refine Vs 8 O ?_
   refine zlu hf O (fun w hI => hc x y _ _ w (Tr1 hI.k0 hs_x) (Tr1 hI.k0 hs_y)) ?_
   refine zkx O (fun w hI => zk0 O (by first | exact za | rfl)) ?_
   refine Vs 2 O ?_
   refine ziB O (fun n0 => ?_) (fun n0 => ?_)
   ·
    refine Vs 11 O ?_
    refine ziV Tryz.results34 O (fun w hI => ⟨_, rfl, by rw [znl (fun e => n0 (by rw [e, he_y] at he_x; exact (Option.some.inj he_x).symm))], hI.k0⟩)
   ·
    refine Va 7 O (by omega) ?_
    refine ziM (i + 1) (zkg O) (zkh O) (⟨by omega, by rw [zg he_x, zg he_y, he, znh.1 n0]⟩) (by first | omega | (dsimp only; omega)) 0 O O
  ·
   obtain rfl : i = l.length := by omega
   rw [zmd, hel, zmd] at he
   refine Vs 11 O ?_
   refine ziV Tryz.results34 O (fun w hI => ⟨_, rfl, by rw [znk he], hI.k0⟩)
theorem zmO (x o : Ob) (u ov : Value) (b : Nat) (D D' : Nat -> Prop) (W : World) (hx : SlR 1 zF D W u x.1) (ho : SlR 1 zF D' W ov o.1) (hB : Cells W b 0 [ov, .int .i64 o.2]) :
  Calls Tryz.prog 92 #[.agg #[u, .int .i64 x.2], .pointer (some ⟨b, 0, none⟩)] W (Ret fun r w' => r = .bool (decide (x = o)) /\ Ext W w') := by
 obtain ⟨a1, c1, rfl⟩ := hx.form
 obtain ⟨a2, c2, rfl⟩ := ho.form
 refine zkH Tryz.func92 O Tryz.ntmps92 O (zkS ?_)
 refine zlg 900 0 O O (fun h => h) hB ?_
 refine zkY 1 900 0 O O ?_
 refine Vs 2 O ?_
 refine V.box 2 O O (fun b2 => ?_)
 refine Vs 7 O ?_
 refine zl7 Tryz.call39 O (fun w hI => ziv x o _ _ D D' w (Tr1 hI.k0 hx) (Tr1 hI.k0 ho)) ?_
 refine Vs 5 O ?_
 refine ziV Tryz.results92 O (fun w hI => ⟨_, rfl, by rw [decide_eq_decide.2 (cmpOb_iff (x := x) (y := o))], hI.k0⟩)
theorem zmY (l : List Ob) (o : Ob) (v ov : Value) (D D' : Nat -> Prop) (W : World) (hl : SlR 2 ROb D W v l) (ho : SlR 1 zF D' W ov o.1) :
  Calls Tryz.prog 60 #[v, .agg #[ov, .int .i64 o.2]] W (Ret fun r w' => r = .int .i64 (zh5 l o) /\ Ext W w') := by
 obtain ⟨a2, c2, rfl⟩ := ho.form
 refine zkH Tryz.func60 O Tryz.ntmps60 O (zkS ?_)
 refine Vs 2 O ?_
 refine V.box 3 O O (fun b3 => ?_)
 refine Vs 7 O ?_
 refine zl7 Tryz.call50 O (fun w hI => zg5 (fun x => decide (x = o)) l v D _ _ w Tryz.call92 (Tr1 hI.k0 hl) (fun x u w' hE _ hd => zmO x o u _ b3 D D' w' hd (Tr1 ((hI.k0).trans hE (fun _ _ h => h)) ho) (hE.cells (Blk.cells (hI.at 3 O)) (fun h => h)))) ?_
 refine Vs 4 O ?_
 refine ziV Tryz.results60 O (fun w hI => ⟨_, rfl, by rw [zhd], hI.k0⟩)
theorem idxOb_neg {l : List Ob} {o : Ob} : zh5 l o < 0 ↔ o ∉ l := by
 unfold zh5
 split
 . rename_i h; exact ⟨fun h' => by omega, fun h' => absurd h h'⟩
 . rename_i h; exact ⟨fun _ => h, fun _ => by omega⟩
theorem zmo (f : Fl) (vd : Valid f) (hr3 : ze 3 f.vars = []) (hs2 : (zp 2 f.vars).isSome = true) (pub rs : List Int) (v1 v2 v3 pv rv : Value) (D D' D2 : Nat -> Prop) (W : World) (hlen : rs.length <= 5000) (hf : RFl D W f v1 v2 v3) (hp : SlR 1 zF D' W pv pub) (hr : SlR 1 zF D2 W rv rs) :
  Calls Tryz.prog 35 #[.agg #[v1, v2, v3], pv, rv] W (Ret fun r w' => SlR 2 ROb (fun b => W.heap.size <= b) w' r (zg0 f pub rs) /\ Ext W w') := by
 obtain ⟨ap, cp, rfl⟩ := hp.form
 obtain ⟨ar, cr, rfl⟩ := hr.form
 refine zkI Tryz.func35 O Tryz.ntmps35 O (zkS ?_)
 refine Vs 2 O ?_
 refine V.box 3 O O (fun b3 => ?_)
 refine Vs 5 O ?_
 refine V.bs0 11 tR76 ts60 O (fun b11 => ?_)
 refine Vs 11 O ?_
 refine zlq 11 (e' := OwP 60 2 ROb (fun _ => False) (.slice (some ⟨b11, 0, none⟩) 0 0) []) O (fun w hI => ⟨⟨[], hI.at 11 rfl, fun i x h => by simp at h⟩, fun _ h => h.elim⟩) OwP.loc (fun _ h => h) (fun q hq => hq.elim id False.elim) ?_
 refine Vs 1 O ?_
 refine zli (σ := Nat × Value × (Nat -> Prop) × List Ob) [1, 3, 12, 13] [3] [3] O (fun e ⟨i, v, F, l⟩ => (14, .int .i64 i) :: (7, v) :: e) (fun e ⟨i, v, F, l⟩ => (11, OwP 60 2 ROb F v l) :: e) (fun ⟨i, v, F, l⟩ => i <= rs.length /\ l.Nodup /\ l.length <= i /\ (∀ o, o ∈ l ↔ o ∈ (rs.take i).map (obN f pub))) (fun ⟨i, v, F, l⟩ => rs.length - i) ((0, .slice (some ⟨b11, 0, none⟩) 0 0, fun _ => False, [])) (zkg O) (zkh O) (fun _ => rfl) (fun _ => rfl) (fun _ => rfl) (⟨znm _, List.Pairwise.nil, znm _, fun o => by simp⟩) ?_
 rintro ⟨i, v, F, l⟩ ⟨hi, hn, hli, hmem⟩
 show V _ _ _ _ _ ((14, .int .i64 i) :: (7, v) :: _) _ ((11, OwP 60 2 ROb F v l) :: _) _
 refine Vs 6 O ?_
 refine ziB O (fun hlt => ?_) (fun hlt => ?_)
 ·
  refine Vs 6 O ?_
  obtain ⟨x, he_x, hm_x⟩ := gE_ rs (i) (by omega)
  obtain ⟨b_x, o_x, c_x, ha_x, _, hc_x, hR_x⟩ := hr.at he_x
  obtain rfl := hR_x
  refine zlf 1000 0 O O hc_x ?_
  refine zkZ 1000 tR31 ts3 O ha_x (by omega) (_) (rfl) O ?_
  have htk : ∀ o, o ∈ (rs.take (i + 1)).map (obN f pub) ↔ o ∈ (rs.take i).map (obN f pub) \/ o = obN f pub x := fun o => by rw [zg he_x, List.map_append]; exact zbl
  refine Vs 9 O ?_
  refine zlw [] (Hn := fun y : Option Addr × Nat × (Nat -> Prop) => [(905, obE (obN f pub x) y)]) [(3, some (3, 0)), (16, some (1000, 0))] Tryz.call40 O (fun _ _ => rfl) (fun _ => rfl) (fun w hI => zha 905 (zmx f vd hr3 hs2 pub x v1 v2 v3 _ D D' w (Tr1 hI.k0 hf) (Tr1 hI.k0 hp))) ?_
  rintro _ ⟨ao, co, G⟩ rfl
  refine V.alloc 10 tz60 O O (fun b10 => ?_)
  refine Vs 7 O ?_
  refine zl7 Tryz.call60 O (fun w hI => zmY l (obN f pub x) v _ _ G w ((show OwH _ _ _ _ _ _ _ from hI.at 11 O).sl (by omega) (fun q hq => hq)) (zf0 (hI.at 905 O))) ?_
  refine Vs 3 O ?_
  refine ziB O (fun c => ?_) (fun c => ?_)
  ·
   have c := idxOb_neg.1 c
   refine Vs 3 O ?_
   refine zll 28 [(0, _)] tR76 ts60 tz60 (by decide) O O (by kernel_rfl) (fun b28 => ?_)
   refine zlE [11, 905] (Hn := fun u => [(11, OwP 60 2 ROb (fun q => F q \/ G q) u (l ++ [obN f pub x]))]) (u := fun u => u) [(3, some (3, 0)), (10, some (10, 0)), (16, some (1000, 0))] O (fun _ => rfl) (fun _ => rfl) (fun w hI => zlG 11 905 28 hI O O O O Tryz.underlying76 Tryz.el60 O (by decide) O O O (fun D x cs h => zgy D x cs h) (by omega) (by omega)) (fun u11 => ?_)
   refine Va 8 O (by omega) ?_
   refine ziM (⟨i + 1, u11, fun q => F q \/ G q, l ++ [obN f pub x]⟩) (zkg O) (zkh O) (⟨by omega, List.nodup_append.2 ⟨hn, by simp, fun a ha b hb e => c (by rw [List.mem_singleton] at hb; rw [<- hb, <- e]; exact ha)⟩, by rw [zmg, List.length_singleton]; omega, fun o => by rw [zbl, hmem, htk]⟩) (by first | omega | (dsimp only; omega)) 0 O O
  ·
   have c := znh.1 (fun h => c (idxOb_neg.2 h))
   refine Va 7 O (by omega) ?_
   refine ziM (⟨i + 1, v, F, l⟩) (zkg O) (zkh O) (⟨by omega, hn, by omega, fun o => by rw [htk, <- hmem]; exact ⟨.inl, fun h => h.elim id (fun h => by rw [h]; exact c)⟩⟩) (by first | omega | (dsimp only; omega)) 0 O O
 ·
  obtain rfl : i = rs.length := by omega
  rw [zmd] at hmem
  refine Vs 8 O ?_
  refine zlb 11 (E := fun l' => OwP 60 2 ROb F v l') Tryz.call67 O (fun _ => ⟨OwP.loc, fun _ h => h⟩) (fun w hI => zhb (k := 11) hI O (by omega) Tryz.call39 (fun x y u v D D' W hx hy => ziv x y u v D D' W hx hy)) ?_
  rintro _ l' ⟨rfl, hperm, hpw⟩
  have hres := zc3 hperm hn hpw hmem
  refine Vs 9 O ?_
  refine ziV Tryz.results35 O (fun w hI => ⟨_, rfl, by show SlR 2 ROb _ _ _ (zcO _); rw [<- hres]; exact (show OwH _ _ _ _ _ _ _ from hI.at 11 O).sl (by omega) (fun q hq => hI.own 11 0 O O q hq), hI.k0⟩)
theorem zmZ (f : Fl) (hlen : f.vars.length <= 1000000) (v1 v2 v3 : Value) (D : Nat -> Prop) (W : World) (hf : RFl D W f v1 v2 v3) : Calls Tryz.prog 43 #[.agg #[v1, v2, v3]] W (Ret fun r w' => r = .bool (decide (ze 3 f.vars ≠ [])) /\ Ext W w') := by
 refine zkG Tryz.func43 O Tryz.ntmps43 O (zkS ?_)
 refine Vs 2 O ?_
 refine V.box 1 O O (fun b1 => ?_)
 refine Vs 7 O ?_
 refine zl9 Tryz.call72 O (fun w hI => zfZ f.vars 3 v1 D w (Tr1 hI.k0 hf.vars) hlen) ?_
 rintro l w1 w2 hI1 hk12 hos hlow
 obtain ⟨al, cl, rfl⟩ := hos.form
 refine Vs 6 O ?_
 refine ziV Tryz.results43 O (fun w hI => ⟨_, rfl, by rw [decide_eq_decide.2 (show (0 : Int) < ((ze 3 f.vars).length : Int) ↔ ze 3 f.vars ≠ [] by rw [<- List.length_pos_iff]; omega)], hI.k1⟩)
theorem zmP (f : Fl) (hz : SzOk f) (pub : List Int) (v1 v2 v3 pv : Value) (D D' : Nat -> Prop) (W : World) (hf : RFl D W f v1 v2 v3) (hp : SlR 1 zF D' W pv pub) : Calls Tryz.prog 32 #[.agg #[v1, v2, v3], pv] W (Ret fun r w' => r = .int .i64 (zc6 f pub) /\ Ext W w') := by
 refine zkH Tryz.func32 O Tryz.ntmps32 O (zkS ?_)
 refine Vs 2 O ?_
 refine V.box 2 O O (fun b2 => ?_)
 refine Vs 7 O ?_
 refine zl7 Tryz.call42 O (fun w hI => zab f v1 v2 v3 D w (Tr1 hI.k0 hf) hz.size hz.bulk) ?_
 refine Vs 9 O ?_
 refine ziB O (fun c0 => ?_) (fun c0 => ?_)
 ·
  have ha : zcq f = zZ f := znj c0
  refine Vs 8 O ?_
  refine ziV Tryz.results32 O (fun w hI => ⟨_, rfl, by unfold zc6; rw [ha, znj c0], hI.k0⟩)
 ·
  have c0 := znh.1 c0
  have vd := zic hz c0
  have hl := vd.lens
  refine Vs 6 O ?_
  refine zl7 Tryz.call43 O (fun w hI => zmZ f (by omega) v1 v2 v3 D w (Tr1 hI.k0 hf)) ?_
  refine Vs 2 O ?_
  refine ziB O (fun c1 => ?_) (fun c1 => ?_)
  ·
   have ha : zcq f = 14 := by unfold zcq; rw [zni (znn c0), znj c1]
   refine Vs 7 O ?_
   refine ziV Tryz.results32 O (fun w hI => ⟨_, rfl, by unfold zc6; rw [ha]; rfl, hI.k0⟩)
  ·
   have ha : zcq f = 0 := by unfold zcq; rw [zni (znn c0), zni c1]
   refine Vs 7 O ?_
   refine zl7 Tryz.call38 O (fun w hI => zmN f.vars 2 pub v1 pv D D' w (by decide) vd.good (by omega) (Tr1 hI.k0 hf.vars) (Tr1 hI.k0 hp)) ?_
   refine Vs 14 O ?_
   refine ziV Tryz.results32 O (fun w hI => ⟨_, rfl, by unfold zc6; rw [ha]; rfl, hI.k0⟩)
theorem zmQ (f : Fl) (vd : Valid f) (v1 v2 v3 : Value) (D : Nat -> Prop) (W : World) (hf : RFl D W f v1 v2 v3) : Calls Tryz.prog 33 #[.agg #[v1, v2, v3]] W (Ret fun r w' => r = .int .i64 (spN f) /\ Ext W w') := by
 have hl := vd.lens
 have hsp : (zp 1 f.vars).getD 0 = (spN f : Int) := by
  unfold spN
  cases h : zp 1 f.vars with
  | none => rfl
  | some m =>
   have := yq 1 f.vars 1 m vd.good (by omega) (by omega) h
   simp only [Option.getD_some]
   omega
 refine zkG Tryz.func33 O Tryz.ntmps33 O (zkS ?_)
 refine Vs 2 O ?_
 refine V.box 1 O O (fun b1 => ?_)
 refine Vs 7 O ?_
 refine zl7 Tryz.call66 O (fun w hI => zix f.vars 1 v1 D w (by decide) vd.good (by omega) (Tr1 hI.k0 hf.vars)) ?_
 refine Vs 14 O ?_
 refine ziV Tryz.results33 O (fun w hI => ⟨_, rfl, by rw [hsp], hI.k0⟩)
theorem znd (f : Fl) (hz : SzOk f) (pub rs : List Int) (hlen : rs.length <= 5000) (v1 v2 v3 pv rv : Value) (D D' D2 : Nat -> Prop) (W : World) (hf : RFl D W f v1 v2 v3) (hp : SlR 1 zF D' W pv pub) (hr : SlR 1 zF D2 W rv rs) (ht : Tab W) : Calls Tryz.prog 31 #[.agg #[v1, v2, v3], pv, rv] W (Ret fun r w' => (∃ u, r = .tuple #[u, .int .i64 (if zc6 f pub ≠ 0 then zc6 f pub else if xU f rs then 0 else 3)] /\ ((zc6 f pub = 0 /\ xU f rs) -> SlR 2 ROb (fun b => W.heap.size <= b) w' u (zg0 f pub rs)) /\ (¬ (zc6 f pub = 0 /\ xU f rs) -> u = .slice none 0 0)) /\ Ext W w') := by
 obtain ⟨ap, cp, rfl⟩ := hp.form
 obtain ⟨ar, cr, rfl⟩ := hr.form
 refine zkI Tryz.func31 O Tryz.ntmps31 O (zkS ?_)
 refine Vs 2 O ?_
 refine V.box 3 O O (fun b3 => ?_)
 refine Vs 9 O ?_
 refine zl7 Tryz.call64 O (fun w hI => zcg f hz pub v1 v2 v3 _ D D' w (Tr1 hI.k0 hf) (Tr1 hI.k0 hp)) ?_
 refine Vs 9 O ?_
 refine ziB O (fun c0 => ?_) (fun c0 => ?_)
 ·
  refine Vs 9 O ?_
  refine ziY Tryz.results31 O O (fun w hI => ⟨_, rfl, ⟨_, by rw [znj c0], fun h => absurd h.1 c0, fun _ => rfl⟩, hI.k0⟩)
 ·
  have c0 := znh.1 c0
  have vd := (zam hz (zf3 c0).1).1
  refine Vs 7 O ?_
  refine zl7 Tryz.call65 O (fun w hI => zcV f vd rs v1 v2 v3 _ D D2 w (Tr1 hI.k0 hf) (Tr1 hI.k0 hr)) ?_
  refine zkx O (fun w hI => zk0 O (by first | exact za | rfl)) ?_
  refine Vs 2 O ?_
  refine ziB O (fun c1 => ?_) (fun c1 => ?_)
  ·
   refine Vs 8 O ?_
   refine ziY Tryz.results31 O O (fun w hI => ⟨_, rfl, ⟨_, by rw [zni (znn c0), zni c1], fun h => absurd h.2 c1, fun _ => rfl⟩, hI.k0⟩)
  ·
   have c1 := znh.1 c1
   refine Vs 7 O ?_
   refine zl9 Tryz.call51 O (fun w hI => qV f vd pub rs v1 v2 v3 _ _ D D' D2 w hlen (Tr1 hI.k0 hf) (Tr1 hI.k0 hp) (Tr1 hI.k0 hr) (Tr1 hI.k0 ht)) ?_
   rintro r w1 w2 hI1 hk12 hu hlow
   have e1 : W.heap.size <= w1.heap.size := hI1.k0.size
   refine V.dat 900 0 O O O (hu) (fun q hq _ hs => by have := hlow q hs; omega) ?_
   refine Vs 5 O ?_
   refine ziY Tryz.results31 O O (fun w hI => ⟨_, rfl, ⟨_, by rw [zni (znn c0), znj c1], fun _ => (hI.at 900 O).1.wide zaj (fun q hq => by omega), fun h => absurd ⟨c0, c1⟩ h⟩, hI.k1⟩)
theorem zmF {f : Fl} (h : zZ f = 0) : (zp 2 f.vars).isSome = true := by
 have h1 := (yo h).2.1
 unfold zt at h1
 split at h1
 . rename_i h2; exact absurd h1 h2
 ·
  split at h1
  . cases h1
  ·
   rename_i h2
   unfold yE at h2
   cases h3 : zp 2 f.vars with
   | none => exact absurd (by rw [h3]; simp) h2
   | some _ => rfl
theorem zn0 (x y : Ob) (u v : Value) (D D' : Nat -> Prop) (w : World) (hx : SlR 1 zF D w u x.1) (hy : SlR 1 zF D' w v y.1) :
  Calls Tryz.prog 29 #[.agg #[u, .int .i64 x.2], .agg #[v, .int .i64 y.2]] w (Ret fun r w' => r = .bool (decide (x = y)) /\ Ext w w') := by
 have h := zhf x.1 y.1 x.2 y.2 u v D D' w hx hy
 rwa [show (decide (x.2 = y.2 /\ x.1 = y.1)) = decide (x = y) from decide_eq_decide.2 ⟨fun h => Prod.ext h.2 h.1, fun h => by rw [h]; exact ⟨rfl, rfl⟩⟩] at h
def obC (f : Fl) (pub l : List Int) : Int := if zc6 f pub ≠ 0 then zc6 f pub else if xU f l then 0 else 3
theorem zmy {f : Fl} {pub l : List Int} (h : obC f pub l = 0) : zc6 f pub = 0 /\ xU f l := by
 unfold obC at h
 split at h
 . rename_i h1; exact absurd h h1
 ·
  rename_i h1
  split at h
  . rename_i h2; exact ⟨znh.1 h1, h2⟩
  . cases h
theorem zne (f : Fl) (pub : List Int) : obC f pub [] = zc6 f pub := by
 unfold obC
 split
 . rfl
 ·
  rename_i h
  rw [znj (show xU f [] from fun y hy => by cases hy), znh.1 h]
theorem zn1 {f : Fl} {pub l : List Int} {x : Int} (h : zc6 f pub = 0) (hx : x ∈ l) (hb : x < 0 \/ (spN f : Int) <= x) : obC f pub l = 3 := by
 unfold obC
 rw [zni (znn h), zni (fun hi => by have := hi x hx; omega)]
theorem zn8 {f : Fl} {pub l : List Int} {x : Int} (h : obC f pub l = 0) (hx : 0 <= x /\ x < (spN f : Int)) : obC f pub (l ++ [x]) = 0 := by
 obtain ⟨h1, h2⟩ := zmy h
 unfold obC
 rw [zni (znn h1), znj (show xU f (l ++ [x]) from fun y hy => (List.mem_append.1 hy).elim (h2 y) (fun hy => by rw [List.mem_singleton.1 hy]; exact hx))]
theorem zn9 {f : Fl} {pub l : List Int} {x : Int} (h : obC f pub l ≠ 0) : obC f pub (l ++ [x]) = obC f pub l := by
 unfold obC at h ⊢
 split
 . rfl
 ·
  rename_i h1
  rw [zni h1] at h
  split at h
  . exact absurd O h
  ·
   rename_i h2
   rw [zni h2, zni (fun hi => h2 fun y hy => hi y (List.mem_append_left _ hy))]
theorem zmp (f : Fl) (pub rs : List Int) (v1 v2 v3 pv rv : Value) (D D1 D2 : Nat -> Prop) (W : World) (hf : RFl D W f v1 v2 v3) (hp : SlR 1 zF D1 W pv pub) (hr : SlR 1 zF D2 W rv rs) (ht : Tab W) :
  Calls Tryz.prog 9 #[.agg #[v1, v2, v3], pv, rv] W (Ret fun r w' => r = .bool true /\ Ext W w') := by
 obtain ⟨ap, cp, rfl⟩ := hp.form
 obtain ⟨ar, cr, rfl⟩ := hr.form
 have hmp := hp.max
 have hmr := hr.max
 refine zkI Tryz.func9 O Tryz.ntmps9 O (zkS ?_)
 refine Vs 2 O ?_
 refine V.box 3 O O (fun b3 => ?_)
 refine Vs 6 O ?_
 refine zl7 Tryz.call12 O (fun w hI => ze4 w (Tr1 hI.k0 ht)) ?_
 refine zkx O (fun w hI => zk0 O (by first | exact za | rfl)) ?_
 refine Vs 2 O ?_
 refine V.bool O (fun k0 => ?_) (fun k0 => ?_)
 . cases k0
 ·
  refine Vs 6 O ?_
  refine zl9 Tryz.call30 O (fun w hI => zgd f _ _ _ D w (Tr1 hI.k0 hf)) ?_
  rintro rr w1 w2 hI1 hk12 ⟨q, rfl, hq⟩ hlow
  refine zkx O (fun w hI => zk0 O (by first | exact za | rfl)) ?_
  refine Vs 1 O ?_
  refine V.sb 17 O (fun q1 => ?_) (fun q1 => ?_)
  ·
   refine Vs 19 O ?_
   refine ziV Tryz.results9 O (fun w hI => ⟨_, rfl, rfl, hI.k1⟩)
  ·
   have hz := hq (by simpa using q1)
   refine Vs 5 O ?_
   refine zkt 22 O (fun q2 => ?_) (fun q2 => ?_)
   ·
    refine Vs 14 O ?_
    refine ziV Tryz.results9 O (fun w hI => ⟨_, rfl, rfl, hI.k1⟩)
   ·
    refine Vs 6 O ?_
    refine ziB O (fun q3 => ?_) (fun q3 => ?_)
    ·
     refine Vs 7 O ?_
     refine ziV Tryz.results9 O (fun w hI => ⟨_, rfl, rfl, hI.k1⟩)
    ·
     refine Vs 7 O ?_
     refine zl9 Tryz.call31 O (fun w hI => znd f hz pub rs (by omega) _ _ _ _ _ D D1 D2 w (Tr1 hI.k1 hf) (Tr1 hI.k1 hp) (Tr1 hI.k1 hr) (Tr1 hI.k1 ht)) ?_
     rintro r1 w3 w4 hI3 hk34 ⟨u, rfl, hu1, hu2⟩ hlow2
     rw [show (if zc6 f pub ≠ 0 then zc6 f pub else if xU f rs then 0 else 3) = obC f pub rs from rfl]
     obtain ⟨au, nu, cu, rfl⟩ : ∃ a n c, u = .slice a n c := by
      by_cases hc : zc6 f pub = 0 /\ xU f rs
      ·
       obtain ⟨a, c, h⟩ := (hu1 hc).form
       exact ⟨a, _, c, h⟩
      . exact ⟨_, _, _, hu2 hc⟩
     refine Vs 11 O ?_
     refine zl7 Tryz.call32 O (fun w hI => zmP f hz pub _ _ _ _ D D1 w (Tr1 hI.k2 hf) (Tr1 hI.k2 hp)) ?_
     refine V.eq 36 (v := .int .i64 (obC f pub (rs.take 0))) O (by rw [List.take_zero, zne]) ?_
     refine Vs 12 O ?_
     refine zli (σ := Nat) [1, 2, 3, 7, 8, 37, 38] [3] [3] O (fun e i => (39, .int .i64 i) :: (9, .int .i64 (obC f pub (rs.take i))) :: e) (fun e i => e) (fun i => i <= rs.length) (fun i => rs.length - i) (0) (zkg O) (zkh O) (fun _ => rfl) (fun _ => rfl) (fun _ => rfl) (znm _) ?_
     rintro i hi
     refine Vs 6 O ?_
     refine ziB O (fun hlt => ?_) (fun hlt => ?_)
     ·
      refine Vs 6 O ?_
      obtain ⟨x, he_x, hm_x⟩ := gE_ rs (i) (by omega)
      obtain ⟨b_x, o_x, c_x, ha_x, _, hc_x, hR_x⟩ := hr.at he_x
      obtain rfl := hR_x
      refine zlf 1000 2 O O hc_x ?_
      refine zkZ 1000 tR31 ts3 O ha_x (by omega) (_) (rfl) O ?_
      have htk := zg he_x
      refine Vs 9 O ?_
      refine zkt 45 O (fun g0 => ?_) (fun g0 => ?_)
      ·
       obtain ⟨hp0, hin⟩ := zmy g0
       have hpa : zcq f = 0 := by
        unfold zc6 at hp0
        split at hp0
        . rename_i h; exact absurd hp0 h
        . rename_i h; exact znh.1 h
       have vd := (zam hz hpa).1
       refine Vs 3 O ?_
       refine zkt 48 O (fun g1 => ?_) (fun g1 => ?_)
       ·
        have hnx : obC f pub (rs.take (i + 1)) = 3 := zn1 (x := x) hp0 (by rw [htk]; simp) (.inl g1)
        refine Va 18 O (by omega) ?_
        refine ziM (i + 1) (Sub.cons (rfl) (Sub.cons (by rw [hnx]; rfl) (zkg O))) (zkh O) (by omega) (by omega) 0 O O
       ·
        refine Vs 2 O ?_
        refine zl7 Tryz.call33 O (fun w hI => zmQ f vd _ _ _ D w (Tr1 hI.k2 hf)) ?_
        refine Vs 5 O ?_
        refine ziB O (fun g2 => ?_) (fun g2 => ?_)
        ·
         have hnx : obC f pub (rs.take (i + 1)) = 3 := zn1 (x := x) hp0 (by rw [htk]; simp) (.inr (by omega))
         refine Va 9 O (by omega) ?_
         refine ziM (i + 1) (Sub.cons (rfl) (Sub.cons (by rw [hnx]; rfl) (zkg O))) (zkh O) (by omega) (by omega) 0 O O
        ·
         have hnx : obC f pub (rs.take (i + 1)) = obC f pub (rs.take i) := by rw [htk, zn8 g0 (by omega), g0]
         refine Va 7 O (by omega) ?_
         refine ziM (i + 1) (Sub.cons (rfl) (Sub.cons (by rw [hnx]; rfl) (zkg O))) (zkh O) (by omega) (by omega) 0 O O
      ·
       have hnx : obC f pub (rs.take (i + 1)) = obC f pub (rs.take i) := by rw [htk, zn9 g0]
       refine Va 19 O (by omega) ?_
       refine ziM (i + 1) (Sub.cons (rfl) (Sub.cons (by rw [hnx]; rfl) (zkg O))) (zkh O) (by omega) (by omega) 0 O O
     ·
      obtain rfl : i = rs.length := by omega
      rw [zmd]
      refine Vs 12 O ?_
      refine ziB O (fun c0 => ?_) (fun c0 => ?_)
      ·
       have hno : ¬ (zc6 f pub = 0 /\ xU f rs) := fun h => c0 (by unfold obC; rw [zni (znn h.1), znj h.2])
       obtain ⟨rfl, rfl, rfl⟩ : au = none /\ nu = 0 /\ cu = 0 := by have := hu2 hno; simpa using this
       refine Vs 6 O ?_
       refine zkt 61 O (fun k1 => ?_) (fun k1 => ?_)
       ·
        refine Vs 9 O ?_
        refine ziV Tryz.results9 O (fun w hI => ⟨_, rfl, by first | rfl | simp, hI.k2⟩)
       . exact absurd O k1
      ·
       have c0 := znh.1 c0
       have hc := zmy c0
       have hobs := hu1 hc
       have hpa : zcq f = 0 := by
        have hp0 := hc.1
        unfold zc6 at hp0
        split at hp0
        . rename_i h; exact absurd hp0 h
        . rename_i h; exact znh.1 h
       obtain ⟨vd, hr3⟩ := zam hz hpa
       have hs2 := zmF vd.ok
       refine Vs 7 O ?_
       refine zkt 68 O (fun k1 => ?_) (fun k1 => ?_)
       ·
        refine Vs 4 O ?_
        refine zl9 Tryz.call35 O (fun w hI => zmo f vd hr3 hs2 pub rs _ _ _ _ _ D D1 D2 w (by omega) (Tr1 hI.k2 hf) (Tr1 hI.k2 hp) (Tr1 hI.k2 hr)) ?_
        rintro r2 w5 w6 hI5 hk56 hobs2 hlow3
        obtain ⟨ao, co, rfl⟩ := hobs2.form
        refine zl7 Tryz.call34 O (fun w hI => zn7 (zg0 f pub rs) (zg0 f pub rs) _ _ _ _ _ w Tryz.call29 (hobs.keep zaj hI.k1 (fun b hb _ hs => by have := hlow2 b hs; omega)) (hobs2.keep zaj hI.k0 (fun b hb _ hs => by have := hlow3 b hs; omega)) (fun x y u u2 w hx hy => zn0 x y u u2 _ _ w hx hy)) ?_
        refine Vs 5 O ?_
        refine ziV Tryz.results9 O (fun w hI => ⟨_, rfl, by rw [znk rfl], hI.k3⟩)
       . exact absurd c0 k1
end Go.Proofs.YtbkhagigkglgoaaGreatDoor
