/-
  Contracts and the mathematics that the proof needs. Nothing here is a claim.
-/
import Derived.Test.YtbkhagigkglgoaaGreatDoorKU5
import Derived.WalkKit
import Derived.Deep.Quiet
import Derived.Deep.LoopGhost
import Derived.Below
import Derived.OrdersHeld
import Derived.KernelRfl
import Derived.WalkSpells
import Derived.ChangeKeysEq
import Derived.Lib.SliceRun
import Derived.Test.YtbkhagigkglgoaaGreatDoorRows
import Derived.ProofKit
import Derived.OpenShut
import Derived.ReadAgain
import Derived.ChangeBears
import Derived.Laws.Strings
import Derived.Test.YtbkhagigkglgoaaGreatDoorProg
import Derived.Maps.RangeRun
import Derived.MapKept
import Derived.Lib.AppendStr
import Derived.Lib.SmallJoins
import Derived.Lib.Builder
import Derived.Lib.UnsafeStr
import Derived.Laws.Externs
import Derived.Lib.ItoaNum
import Derived.Lib.ItoaMem
import Derived.Shelf.Strings.BuilderK
import Derived.Shelf.LaysM
import Derived.Shelf.Strconv.Itoa3
import Derived.Lib.ItoaLen
import Derived.Shelf.SlSortCmp.WholeK
import Derived.Ground.SlsfProg
import Derived.Shelf.SlSortCmp.NoneTotal
import Derived.Handed
import Derived.LaidLaws
import Derived.Test.YtbkhagigkglgoaaGreatDoorTie
import Derived.Test.YtbkhagigkglgoaaGreatDoorCards
namespace Go.GL
section
variable {P : Program} {n : Nat} {ops : Array Oper} {Q : Exit -> Act -> World -> Prop} {S : World -> Prop} {L : List Nat} {env : Env} {w : World} {fuel : Nat} {listed : Array Bool} {v : Value} {o : Oper}
theorem znn (i j : Nat) {oj : Oper} {d dj : Nat} {R Rj : Value -> World -> Prop} (hi : ops[i]? = some o) (hj : ops[j]? = some oj) (hr : Region.ready .any ops listed = [i, j]) (hg : o.guard = none) (hd : o.dst = some d) (hn : Nat.blt d n = true) (hgj : oj.guard = none) (hdj : oj.dst = some dj) (hnj : Nat.blt dj n = true)
  (hm : (∃ v w', ye P o env w v w' /\ R v w') \/ ∃ f args, zcs P o env w f args /\ Calls P f args w (fun e w' => ∃ v, e = .returned v /\ R v w'))
  (hmj : (∃ v w', ye P oj env w v w' /\ Rj v w') \/ ∃ f args, zcs P oj env w f args /\ Calls P f args w (fun e w' => ∃ v, e = .returned v /\ Rj v w'))
  (h : ∀ v w', R v w' -> (i ∉ L -> S w') /\ WD P n ops Q S L fuel (listed.setIfInBounds i true) ((d, v) :: env) w')
  (h' : ∀ v w', Rj v w' -> (j ∉ L -> S w') /\ WD P n ops Q S L fuel (listed.setIfInBounds j true) ((dj, v) :: env) w') : WD P n ops Q S L (fuel + 1) listed env w := by
 intro a ha
 refine ⟨fun h0 => (by rw [hr] at h0; cases h0), fun k hk => ?_⟩
 rw [hr] at hk
 have key : ∀ (q : Nat) (oq : Oper) (dq : Nat) (Rq : Value -> World -> Prop), ops[q]? = some oq -> oq.guard = none -> oq.dst = some dq -> Nat.blt dq n = true ->
   ((∃ v w', ye P oq env w v w' /\ Rq v w') \/ ∃ f args, zcs P oq env w f args /\ Calls P f args w (fun e w' => ∃ v, e = .returned v /\ Rq v w')) ->
   (∀ v w', Rq v w' -> (q ∉ L -> S w') /\ WD P n ops Q S L fuel (listed.setIfInBounds q true) ((dq, v) :: env) w') ->
   wpOp P ops (NQ Q) q (fun a' w' => (q ∉ L -> S w -> S w') /\ kz P .any ops (NQ Q) S L fuel (listed.setIfInBounds q true) a' w') a w := by
  intro q oq dq Rq h1 h2 h3 h4 h5 h6
  refine zaM h1 h2 ?_
  unfold Oper.wp
  rcases h5 with ⟨v, w', hrun, hR⟩ | ⟨f, args, hm, hc⟩
  ·
   rw [hrun n a ha, Oper.upon_value, h3]
   exact ⟨fun h0 _ => (h6 v w' hR).1 h0, (h6 v w' hR).2 _ (ha.put h4)⟩
  ·
   rw [hm n a ha, Oper.upon_enter]
   refine hc.mono ?_
   rintro e w' ⟨v, rfl, hR⟩
   simp only [h3]
   exact ⟨fun h0 _ => (h6 v w' hR).1 h0, (h6 v w' hR).2 _ (ha.put h4)⟩
 simp only [List.mem_cons, List.not_mem_nil, or_false] at hk
 rcases hk with rfl | rfl
 . exact key k o d R hi hg hd hn hm h
 . exact key k oj dj Rj hj hgj hdj hnj hmj h'
end
section
variable {α : Type} {f : α -> Value}
theorem zn9 (l : List α) : l.map f = l.flatMap (fun x => [f x]) := by
 induction l with
 | nil => rfl
 | cons x r ih => simp [ih]
end
open Go.RowKit
def zmY : Hp -> Nat -> Hp
 | [], _ => []
 | (k, e) :: r, j => cond (Nat.beq k j) r ((k, e) :: zmY r j)
section
variable {Bs : ya} {H : Hp} {w w' : World} {k : Nat} {e e' : HE} {T : Nat -> Prop}
theorem VI.offF {F : Nat -> Prop} {p : World -> Prop} (h : VI Bs H w) (k : Nat) (hg : zm H k = some (.dat F p)) : ∀ b, F b -> ¬ HS H b := fun b hb ⟨y, hy, hs⟩ => h.froz _ (zl hg) y hy b hb hs
theorem hdel_sub : ∀ {H : Hp} {k : Nat}, (zmY H k).Sublist H
 | [], _ => List.Sublist.refl _
 | (k', e) :: r, k => by
  simp only [zmY]
  cases Nat.beq k' k with
  | true => exact List.sublist_cons_self ..
  | false => exact hdel_sub.cons_cons _
theorem VI.del (h : VI Bs H w) (k : Nat) : VI Bs (zmY H k) w := h.few (fun _ hx => hdel_sub.subset hx) (h.apart.sublist hdel_sub)
end
section
variable {P : Program} {T : Tab} {Z : Szs} {n : Nat} {Q : Exit -> Act -> World -> Prop} {ks : List Fr} {pos : Pos} {env : Env} {A : Tgs} {H : Hp} {Bs : ya} {ops : Array Oper} {v : Value}
theorem zmv : ∀ {H : Hp} {k j : Nat}, Nat.beq k j = false -> zm (zmY H k) j = zm H j
 | [], _, _, _ => rfl
 | (k1, e1) :: r, k, j, h => by
  simp only [zmY]
  cases hb : Nat.beq k1 k with
  | true =>
   have := zmf hb
   subst this
   simp only [zm, h, cond_false, cond_true]
  | false => simp only [zm, cond_false]; rw [zmv h]
theorem V.del (k : Nat) (hn : qD H k = none) (h : V P n Q ks pos env A (zmY H k) Bs) : V P n Q ks pos env A H Bs := by
 refine fun hA w hI => h (hA.heap (fun j b o hj => ?_)) w (hI.del k)
 have hkj : Nat.beq k j = false := by
  cases hb : Nat.beq k j with
  | true => rw [<- zmf hb, hn] at hj; cases hj
  | false => rfl
 unfold qD at hj ⊢
 rw [zmv hkj]
 exact hj
theorem zmM : ∀ {H : Hp} {k : Nat} {e' : HE}, ∀ y ∈ zmY H k, y ∈ hset H k e'
 | [], _, _, _, h => by cases h
 | (k1, e1) :: r, k, e', y, h => by
  simp only [zmY] at h
  simp only [hset]
  cases hb : Nat.beq k1 k with
  | true => rw [hb] at h; exact zmb _ h
  | false =>
   rw [hb] at h
   rcases List.mem_cons.1 h with rfl | h
   . exact zmc ..
   . exact zmb _ (zmM y h)
theorem zmN : ∀ {H : Hp} {k : Nat} {e e' : HE}, zm H k = some e -> (k, e') ∈ hset H k e'
 | [], _, _, _, h => by cases h
 | (k1, e1) :: r, k, e, e', h => by
  simp only [zm] at h
  simp only [hset]
  cases hb : Nat.beq k1 k with
  | true => rw [zmf hb]; exact zmc ..
  | false => rw [hb] at h; exact zmb _ (zmN h)
theorem zno {α : Type} {R : Rel α} [Dt R] (k k2 : Nat) {t : TypeId} {m : Nat} {l : List α} (enc : α -> Value) (hR : ∀ D w x, R D w x [enc x]) (hg : zm H k = some (.row t 1 v m (l.map enc))) (hn : (zm (zmY H k) k2).isNone = true)
  (h : V P n Q ks pos env A ((k2, .dat (fun b => v.ownBlock = some b) (fun w => SlR 1 R (fun b => v.ownBlock = some b) w v l)) :: zmY H k) Bs) : V P n Q ks pos env A H Bs := by
 rw [Option.isNone_iff_eq_none] at hn
 refine fun hA w hI => ?_
 have ho : w.ownsRow 0 t 1 v m (l.map enc) := hI.at k hg
 have he : HE.holds w (.dat (fun b => v.ownBlock = some b) (fun w => SlR 1 R (fun b => v.ownBlock = some b) w v l)) := ⟨zjO enc (fun x _ => hR _ _ x) ho (fun g hg => hg), fun q hq => xi ho hq⟩
 have hl : HE.loc (.dat (fun b => v.ownBlock = some b) (fun w => SlR 1 R (fun b => v.ownBlock = some b) w v l)) := fun w w' T h1 h2 h3 => h1.keep Dt.s h2 (fun q hq _ => h3 q hq)
 have hF := hI.freeze hg he hl (fun _ h => h) (fun _ h => h)
 have hA' : TgOk A env (zmY H k) := hA.heap (fun j b o hj => by
  have hkj : Nat.beq k j = false := by
   cases hb : Nat.beq k j with
   | true => rw [<- zmf hb] at hj; simp [qD, hg] at hj
   | false => rfl
  unfold qD at hj ⊢
  rw [zmv hkj]
  exact hj)
 exact h (hA'.new hn) w ((hI.del k).frz k2 he hl (fun _ h => h) (fun b hb x hx => hF.froz _ (zmN hg) x (zmM x hx) b hb))
end
end Go.GL
namespace Go.Proofs.YtbkhagigkglgoaaGreatDoor
open Go.GL
theorem zmm (a b c : Int) (w : World) : Calls Tryz.prog 173 #[.int .i64 a, .int .i64 b, .int .i64 c] w (Ret fun r w' => r = .int .i64 (xS a b c) /\ Ext w w') := by
 refine zkI Tryz.func173 O Tryz.ntmps173 O (Gs 13 O (ziA O (fun h => ?_) (fun h => ?_)))
 . refine Gs 8 O (ziU Tryz.results173 O ⟨_, rfl, by rw [xS, if_pos h], Keep.refl _ _⟩)
 ·
  refine Gs 10 O (ziA O (fun h2 => ?_) (fun h2 => ?_))
  . refine Gs 8 O (ziU Tryz.results173 O ⟨_, rfl, by rw [xS, if_neg h, if_pos h2], Keep.refl _ _⟩)
  . refine Gs 9 O (ziU Tryz.results173 O ⟨_, rfl, by rw [xS, if_neg h, if_neg h2], Keep.refl _ _⟩)
theorem zit (p : Bool) (w : World) : Calls Tryz.prog 101 #[.bool p] w (Ret fun r w' => r = .int .i64 (if p then 1 else 0) /\ Ext w w') := by
 refine zkG Tryz.func101 O Tryz.ntmps101 O (Gs 11 O (G.bool O (fun h => ?_) (fun h => ?_)))
 . refine Gs 7 O (ziU Tryz.results101 O ⟨_, rfl, by rw [h]; rfl, Keep.refl _ _⟩)
 . refine Gs 8 O (ziU Tryz.results101 O ⟨_, rfl, by rw [h]; rfl, Keep.refl _ _⟩)
end Go.Proofs.YtbkhagigkglgoaaGreatDoor
namespace Go.GL
theorem St.plainB_eq (s : St) : s.plainB = ((if s.act = 3 then true else if s.act = 4 then s.els.isEmpty else s.thn.isEmpty && s.els.isEmpty) && zei s.thn && zei s.els) := by cases s; rw [St.plainB]; rfl
theorem zmZ {l : List St} (h : ∀ s ∈ l, s.plainB = true) : zei l = true := by
 induction l with
 | nil => rfl
 | cons x r ih => rw [zei, h x (zmc ..), ih (fun s hs => h s (zmb _ hs))]; rfl
end Go.GL
namespace Go.Proofs.YtbkhagigkglgoaaGreatDoor
open Go.GL
theorem zmw {vs : List Vr} {nh : Nat} (l : List St) : ∀ top, zb vs nh l top = 0 -> zei l = true := by
 induction l using zk9 with
 | h l ih =>
 intro top h
 refine zmZ (fun s hs => ?_)
 obtain ⟨last, h2⟩ := xl l top h s hs
 obtain ⟨h3, _, _, h4, h5⟩ := xN h2
 rw [s.plainB_eq, (ih s hs).1 _ h4, (ih s hs).2 _ h5, Bool.and_true, Bool.and_true]
 split
 . rfl
 ·
  split
  . rename_i a4; rw [(h3.rep a4).2.2]; rfl
  . rename_i a3 a4; rw [(h3.free a3 a4).1, (h3.free a3 a4).2]; rfl
theorem zmG {f : Fl} (h : zZ f = 0) : zei f.body = true := zmw _ _ (yo h).2.2.2.1
theorem zmn (a b : Int) (w : World) (ha : zfq a) (hb : zfq b) : Calls Tryz.prog 205 #[.int .i64 a, .int .i64 b] w (Ret fun r w' => r = .int .i64 (a.fdiv b) /\ Ext w w') := by
 have hE := Keep.refl (fun _ => False) w
 refine zkH Tryz.func205 O Tryz.ntmps205 O (Gs 12 O (ziA O (fun h0 => ?_) (fun h0 => ?_)))
 ·
  subst h0
  refine Gs 7 O (ziU Tryz.results205 O ⟨_, rfl, by rw [Int.fdiv_zero], hE⟩)
 ·
  have hd := zeB a b h0
  have hq : (a.tdiv b).natAbs <= a.natAbs := Int.natAbs_tdiv_le_natAbs a b
  refine Gs 6 O (zkw O O (R.quo O O h0 (by omega)) (Gs 8 O (zkw O O (R.rem O O h0 (by omega)) (Gs 2 O (zkr 15 O (fun h1 => ?_) (fun h1 => ?_))))))
  ·
   refine Gs 8 O (ziA O (fun h2 => ?_) (fun h2 => ?_))
   . refine Ga 13 O (by omega) (ziU Tryz.results205 O ⟨_, rfl, by rw [hd, if_pos ⟨h1, h2⟩], hE⟩)
   . refine Gs 9 O (ziU Tryz.results205 O ⟨_, rfl, by rw [hd, if_neg (fun h => h2 h.2)], hE⟩)
  . refine Gs 18 O (ziU Tryz.results205 O ⟨_, rfl, by rw [hd, if_neg (fun h => h1 h.1)], hE⟩)
theorem zmA (a b : Int) (w : World) (ha : zfq a) (hb : zfq b) : Calls Tryz.prog 206 #[.int .i64 a, .int .i64 b] w (Ret fun r w' => r = .int .i64 (if b = 0 then 0 else a - b * a.fdiv b) /\ Ext w w') := by
 have hE := Keep.refl (fun _ => False) w
 refine zkH Tryz.func206 O Tryz.ntmps206 O (Gs 12 O (ziA O (fun h0 => ?_) (fun h0 => ?_)))
 . refine Gs 7 O (ziU Tryz.results206 O ⟨_, rfl, by rw [if_pos h0], hE⟩)
 ·
  have hm := zdL a b h0
  refine Gs 8 O (G.call O Tryz.call205 (zmn a b _ ha hb) ?_)
  rintro _ wz1 ⟨rfl, hz1⟩
  replace hE := Tr1 hz1 hE
  refine Ga 6 O (by omega) (ziU Tryz.results206 O ⟨_, rfl, by rw [if_neg h0], hE⟩)
theorem zmB (op a b : Int) (w : World) (ha : zfq a) (hb : zfq b) : Calls Tryz.prog 190 #[.int .i64 op, .int .i64 a, .int .i64 b] w (Ret fun r w' => r = .int .i64 (qO op a b) /\ Ext w w') := by
 have hE := Keep.refl (fun _ => False) w
 have hml := za0 ha hb
 refine zkI Tryz.func190 O Tryz.ntmps190 O (Gs 18 O (ziA O (fun hh1 => ?_) (fun hh1 => ?_)))
 . refine Ga 11 O (by omega) (ziU Tryz.results190 O ⟨_, rfl, by simp [qO, hh1], hE⟩)
 ·
  refine Gs 6 O (ziA O (fun hh2 => ?_) (fun hh2 => ?_))
  . refine Ga 11 O (by omega) (ziU Tryz.results190 O ⟨_, rfl, by simp [qO, hh2], hE⟩)
  ·
   refine Gs 6 O (ziA O (fun hh3 => ?_) (fun hh3 => ?_))
   . refine Ga 11 O (by omega) (ziU Tryz.results190 O ⟨_, rfl, by simp [qO, hh3], hE⟩)
   ·
    refine Gs 6 O (ziA O (fun hh4 => ?_) (fun hh4 => ?_))
    ·
     refine Gs 4 O (G.call O Tryz.call205 (zmn a b _ ha hb) ?_)
     rintro _ wz5 ⟨rfl, hz5⟩
     replace hE := Tr1 hz5 hE
     refine Gs 6 O (ziU Tryz.results190 O ⟨_, rfl, by simp [qO, hh4], hE⟩)
    ·
     refine Gs 6 O (ziA O (fun hh6 => ?_) (fun hh6 => ?_))
     ·
      refine Gs 4 O (G.call O Tryz.call206 (zmA a b _ ha hb) ?_)
      rintro _ wz7 ⟨rfl, hz7⟩
      replace hE := Tr1 hz7 hE
      refine Gs 6 O (ziU Tryz.results190 O ⟨_, rfl, by simp [qO, hh6], hE⟩)
     ·
      refine Gs 6 O (ziA O (fun hh8 => ?_) (fun hh8 => ?_))
      ·
       refine Gs 5 O (G.call O Tryz.call101 (zit _ _) ?_)
       rintro _ wz9 ⟨rfl, hz9⟩
       replace hE := Tr1 hz9 hE
       refine Gs 6 O (ziU Tryz.results190 O ⟨_, rfl, by simp [qO, yW, hh8], hE⟩)
      ·
       refine Gs 6 O (ziA O (fun hh10 => ?_) (fun hh10 => ?_))
       ·
        refine Gs 5 O (G.call O Tryz.call101 (zit _ _) ?_)
        rintro _ wz11 ⟨rfl, hz11⟩
        replace hE := Tr1 hz11 hE
        refine Gs 6 O (ziU Tryz.results190 O ⟨_, rfl, by simp [qO, yW, hh10], hE⟩)
       ·
        refine Gs 6 O (ziA O (fun hh12 => ?_) (fun hh12 => ?_))
        ·
         refine Gs 5 O (G.call O Tryz.call101 (zit _ _) ?_)
         rintro _ wz13 ⟨rfl, hz13⟩
         replace hE := Tr1 hz13 hE
         refine Gs 6 O (ziU Tryz.results190 O ⟨_, rfl, by simp [qO, yW, hh12], hE⟩)
        ·
         refine Gs 6 O (ziA O (fun hh14 => ?_) (fun hh14 => ?_))
         ·
          refine Gs 5 O (G.call O Tryz.call101 (zit _ _) ?_)
          rintro _ wz15 ⟨rfl, hz15⟩
          replace hE := Tr1 hz15 hE
          refine Gs 6 O (ziU Tryz.results190 O ⟨_, rfl, by simp [qO, yW, hh14], hE⟩)
         ·
          refine Gs 6 O (ziA O (fun hh16 => ?_) (fun hh16 => ?_))
          ·
           refine Gs 5 O (G.call O Tryz.call101 (zit _ _) ?_)
           rintro _ wz17 ⟨rfl, hz17⟩
           replace hE := Tr1 hz17 hE
           refine Gs 6 O (ziU Tryz.results190 O ⟨_, rfl, by simp [qO, yW, hh16], hE⟩)
          ·
           refine Gs 6 O (ziA O (fun hh18 => ?_) (fun hh18 => ?_))
           ·
            refine Gs 5 O (G.call O Tryz.call101 (zit _ _) ?_)
            rintro _ wz19 ⟨rfl, hz19⟩
            replace hE := Tr1 hz19 hE
            refine Gs 6 O (ziU Tryz.results190 O ⟨_, rfl, by simp [qO, yW, hh18], hE⟩)
           ·
            refine Gs 6 O (ziA O (fun hh20 => ?_) (fun hh20 => ?_))
            ·
             refine Gs 5 O (zkr 73 O (fun hh21 => ?_) (fun hh21 => ?_))
             ·
              refine Gs 3 O (G.call O Tryz.call101 (zit _ _) ?_)
              rintro _ wz22 ⟨rfl, hz22⟩
              replace hE := Tr1 hz22 hE
              refine Gs 6 O (ziU Tryz.results190 O ⟨_, rfl, by simp [qO, yW, hh20, hh21], hE⟩)
             ·
              refine Gs 3 O (G.call O Tryz.call101 (zit _ _) ?_)
              rintro _ wz23 ⟨rfl, hz23⟩
              replace hE := Tr1 hz23 hE
              refine Gs 6 O (ziU Tryz.results190 O ⟨_, rfl, by simp [qO, yW, hh20, hh21], hE⟩)
            ·
             refine Gs 6 O (ziA O (fun hh24 => ?_) (fun hh24 => ?_))
             ·
              refine Gs 5 O (zkr 82 O (fun hh25 => ?_) (fun hh25 => ?_))
              ·
               refine Gs 3 O (G.call O Tryz.call101 (zit _ _) ?_)
               rintro _ wz26 ⟨rfl, hz26⟩
               replace hE := Tr1 hz26 hE
               refine Gs 6 O (ziU Tryz.results190 O ⟨_, rfl, by simp [qO, yW, hh24, hh25], hE⟩)
              ·
               refine Gs 3 O (G.call O Tryz.call101 (zit _ _) ?_)
               rintro _ wz27 ⟨rfl, hz27⟩
               replace hE := Tr1 hz27 hE
               refine Gs 6 O (ziU Tryz.results190 O ⟨_, rfl, by simp [qO, yW, hh24, hh25], hE⟩)
             ·
              refine Gs 6 O (ziA O (fun hh28 => ?_) (fun hh28 => ?_))
              ·
               refine Gs 4 O (G.call O tc113 (zu a b _) ?_)
               rintro _ wz29 ⟨rfl, hz29⟩
               replace hE := Tr1 hz29 hE
               refine Gs 6 O (ziU Tryz.results190 O ⟨_, rfl, by simp [qO, hh28], hE⟩)
              ·
               refine Gs 7 O (G.call O tc112 (zT a b _) ?_)
               rintro _ wz30 ⟨rfl, hz30⟩
               replace hE := Tr1 hz30 hE
               refine Gs 4 O (ziU Tryz.results190 O ⟨_, rfl, by simp [qO, hh1, hh2, hh3, hh4, hh6, hh8, hh10, hh12, hh14, hh16, hh18, hh20, hh24, hh28], hE⟩)
theorem zmx (l : List Int) (time : Int) (v : Value) (D : Nat -> Prop) (w : World) (hl : SlR 1 zF D w v l) : Calls Tryz.prog 172 #[v, .int .i64 time] w (Ret fun r w' => r = .int .i64 (qj l time) /\ Ext w w') := by
 have hmx := hl.max
 obtain ⟨al, cl, rfl⟩ := hl.form
 refine zkH Tryz.func172 O Tryz.ntmps172 O (Gs 19 O (G.loop (σ := Nat × Int × Bool) (fun ⟨i, b, fd⟩ => [(0, .slice al l.length cl), (1, .int .i64 time), (5, .int .i64 b), (6, .bool fd), (7, .int .i64 i)]) (fun ⟨i, b, fd⟩ => fun w' => i <= l.length /\ (b, fd) = (l.take i).foldl (yt time) (time, false) /\ Ext w w') (fun ⟨i, b, fd⟩ => l.length - i) ((0, time, false)) (zkg O) (⟨Nat.zero_le _, rfl, Keep.refl _ _⟩) ?_))
 rintro ⟨i, b, fd⟩ w1 ⟨hi, hs, hL1⟩
 show G _ _ _ _ _ [(0, .slice al l.length cl), (1, .int .i64 time), (5, .int .i64 b), (6, .bool fd), (7, .int .i64 i)] _
 replace hl := Tr1 hL1 hl
 refine Gs 9 O (ziA O (fun hlt => ?_) (fun hge => ?_))
 ·
  obtain ⟨x, he_x⟩ : ∃ x, l[i]? = some x := ⟨_, zm8 (by omega)⟩
  obtain ⟨bx, ox, cx, hax, _, hcx, rfl⟩ := hl.at he_x
  have hst := zdM (yt time) (time, false) he_x
  rw [<- hs, show yt time (b, fd) x = if time <= x /\ (fd = false \/ x < b) then (x, true) else (b, fd) from rfl] at hst
  refine Gs 8 O (zkw O O (zjj tR31 ts3 O O hax (by omega)) (zkA O tg3 (hcx 0 _ O) (Gs 3 O (zkr 21 O (fun h1 => ?_) (fun h1 => ?_)))))
  ·
   refine Gs 1 O (zkw O O (zk0 O (by first | exact za | rfl)) (Gs 1 O (zku 24 O (fun h2 => ?_) (fun h2 => ?_))))
   ·
    have h2' : fd = false := by simpa using h2
    refine Gs 14 O (zkw O O (zjj tR31 ts3 O O hax (by omega)) (zkA O tg3 (hcx 0 _ O) (Ga 10 O (by omega) (ziL ((i + 1, x, true)) (Sub.cons O (Sub.cons O (Sub.cons O (Sub.cons (by first | rfl | (show some (Value.bool true) = some (Value.bool _); simp [*])) (zkg O))))) (⟨by omega, by rw [hst, if_pos ⟨h1, .inl h2'⟩], hL1⟩) (by first | omega | (dsimp only; omega))))))
   ·
    have h2' : fd = true := by simpa using h2
    refine Gs 2 O (zkw O O (zjj tR31 ts3 O O hax (by omega)) (zkA O tg3 (hcx 0 _ O) (Gs 6 O (ziA O (fun h3 => ?_) (fun h3 => ?_)))))
    . refine Gs 3 O (zkw O O (zjj tR31 ts3 O O hax (by omega)) (zkA O tg3 (hcx 0 _ O) (Ga 10 O (by omega) (ziL ((i + 1, x, true)) (Sub.cons O (Sub.cons O (Sub.cons O (Sub.cons (by first | rfl | (show some (Value.bool true) = some (Value.bool _); simp [*])) (zkg O))))) (⟨by omega, by rw [hst, if_pos ⟨h1, .inr h3⟩], hL1⟩) (by first | omega | (dsimp only; omega))))))
    . refine Ga 8 O (by omega) (ziL ((i + 1, b, fd)) (zkg O) (⟨by omega, by rw [hst, if_neg (fun h => h.2.elim (fun h4 => by rw [h2'] at h4; cases h4) h3)], hL1⟩) (by first | omega | (dsimp only; omega)))
  . refine Ga 22 O (by omega) (ziL ((i + 1, b, fd)) (zkg O) (⟨by omega, by rw [hst, if_neg (fun h => h1 h.1)], hL1⟩) (by first | omega | (dsimp only; omega)))
 ·
  have : i = l.length := by omega
  subst this
  rw [zmd] at hs
  refine Gs 12 O (ziU Tryz.results172 O ⟨_, rfl, by rw [qj, <- hs], hL1⟩)
def znf (vals : List Int) (k : Tm) : Prop := ∀ (cs : List Value) (D Dv : Nat -> Prop) (w : World) (vv : Value), SlR 1 zF Dv w vv vals -> RTm D w k cs -> Calls Tryz.prog 171 #[vv, .agg cs.toArray] w (Ret fun r w' => r = .int .i64 (xV vals k) /\ Ext w w')
theorem ziu {vs : List Vr} {inp : Bool} (hv : ∀ v ∈ vs, yn (v.low, v.high)) {vals : List Int} (hV : InV vs vals) (t : Tm) : zx vs inp t = true -> (rng vs t).isSome = true -> znf vals t := by
 induction t using zk7 with
 | h t ih =>
 intro hf hr cs D Dv w vv hvv ht
 obtain ⟨ok, hkf⟩ := tmOk hv hV hf hr
 have ihk : ∀ k ∈ t.kids, znf vals k := fun k hk => ih k hk (hkf k hk).1 (hkf k hk).2
 obtain ⟨kv, rfl, hks⟩ := ht.get
 obtain ⟨a3, c3, rfl⟩ := hks.form
 obtain ⟨av, cv, rfl⟩ := hvv.form
 have hve := zex vals t
 have hops := ok.ops
 have hE := Keep.refl (fun _ => False) w
 refine zkH Tryz.func171 O Tryz.ntmps171 O (Gs 2 O (zjs O O (M.box O O) ?_))
 rintro _ w_b3 ⟨b3, rfl, hg_b3, hs_b3, hB_b3, hk_b3⟩
 have hge_b3 : _ <= b3 := zme hE.size (Nat.le_of_eq hg_b3.symm)
 obtain ⟨hE, hks, hvv⟩ := Tr3 hk_b3 hE hks hvv
 refine Gs 7 O (zkA O tg129 (hB_b3.cells 0 _ O) (Gs 9 O ?_))
 have zm : ∀ i : Nat, i < t.kids.length -> ∃ k, t.kids[i]? = some k /\ lki (zfJ vals t.kids) i = xV vals k /\ zfq (xV vals k) /\ ∃ b o c v, a3 = some ⟨b, o, none⟩ /\ Cells w_b3 b (o + i * 3) c /\ c = [.int .i64 k.op, .int .i64 k.n, v] /\ SlR 3 RTm D w_b3 v k.kids := fun i hi => by
  obtain ⟨k, hk⟩ : ∃ k, t.kids[i]? = some k := ⟨_, zm8 hi⟩
  obtain ⟨b, o, c, h1, _, h2, h3⟩ := hks.at hk
  obtain ⟨v, h4, h5⟩ := h3.get
  exact ⟨k, hk, zdk hk, ok.kid k (zm9 hk), b, o, c, v, h1, h2, h4, h5⟩
 have hX := Keep.refl (fun _ => False) w_b3
 refine ziA O (fun c0 => ?_) (fun c0 => ?_)
 . refine Gs 3 O (zkA O tg3 (hB_b3.cells 1 _ O) (Gs 6 O (ziU Tryz.results171 O ⟨_, rfl, by rw [hve, jE, if_pos c0], hE⟩)))
 ·
  refine Gs 6 O (ziA O (fun c24 => ?_) (fun c24 => ?_))
  ·
   have hn := ok.var c24
   have hln := hV.len
   obtain ⟨bx, ox, cx, hax, _, hcx, rfl⟩ := hvv.at (zgw (l := vals) (i := t.n.toNat) (by omega))
   refine Gs 4 O (zkA O tg3 (hB_b3.cells 1 _ O) (zkw O O (zjj tR31 ts3 O O hax (by omega)) (zkA O tg3 (hcx 0 _ O) (Gs 6 O (ziU Tryz.results171 O ⟨_, rfl, by rw [hve, jE, if_neg c0, if_pos c24], hE⟩)))))
  ·
   refine Gs 6 O (ziA O (fun c6 => ?_) (fun c6 => ?_))
   ·
    have h1 := ok.k1 (.inl c6)
    obtain ⟨k0, hk0, hl0, hi0, b0, o0, _, v0, ha0, hc0, rfl, hs0⟩ := zm 0 (by omega)
    refine Gs 4 O (zkA O tg130 (hB_b3.cells 2 _ O) (zkw O O (zjj tR130 ts132 O O ha0 (by omega)) (zkC O tg132 ts132 (hX.cells hc0 (fun h => h)) O (G.call O Tryz.call171 (ihk k0 (zm9 hk0) _ D Dv _ _ hvv (RTm.put (hs0.ext zo hX))) ?_))))
    rintro _ wz1 ⟨rfl, hz1⟩
    obtain ⟨hE, hks, hvv, hB_b3, hX⟩ := Tr5 hz1 hE hks hvv hB_b3 hX
    refine Ga 7 O (by omega) (ziU Tryz.results171 O ⟨_, rfl, by rw [hve, jE, if_neg c0, if_neg c24, if_pos c6, hl0], hE⟩)
   ·
    refine Gs 6 O (ziA O (fun c7 => ?_) (fun c7 => ?_))
    ·
     have h1 := ok.k1 (.inr c7)
     obtain ⟨k0, hk0, hl0, hi0, b0, o0, _, v0, ha0, hc0, rfl, hs0⟩ := zm 0 (by omega)
     refine Gs 4 O (zkA O tg130 (hB_b3.cells 2 _ O) (zkw O O (zjj tR130 ts132 O O ha0 (by omega)) (zkC O tg132 ts132 (hX.cells hc0 (fun h => h)) O (G.call O Tryz.call171 (ihk k0 (zm9 hk0) _ D Dv _ _ hvv (RTm.put (hs0.ext zo hX))) ?_))))
     rintro _ wz2 ⟨rfl, hz2⟩
     obtain ⟨hE, hks, hvv, hB_b3, hX⟩ := Tr5 hz2 hE hks hvv hB_b3 hX
     refine Gs 1 O (G.call O Tryz.call101 (zit _ _) ?_)
     rintro _ wz3 ⟨rfl, hz3⟩
     obtain ⟨hE, hks, hvv, hB_b3, hX⟩ := Tr5 hz3 hE hks hvv hB_b3 hX
     refine Gs 6 O (ziU Tryz.results171 O ⟨_, rfl, by rw [hve, jE, if_neg c0, if_neg c24, if_neg c6, if_pos c7, hl0]; rfl, hE⟩)
    ·
     refine Gs 6 O (ziA O (fun c23 => ?_) (fun c23 => ?_))
     ·
      have h1 := ok.k3 c23
      obtain ⟨k0, hk0, hl0, hi0, b0, o0, _, v0, ha0, hc0, rfl, hs0⟩ := zm 0 (by omega)
      obtain ⟨k1, hk1, hl1, hi1, b1, o1, _, v1, ha1, hc1, rfl, hs1⟩ := zm 1 (by omega)
      obtain ⟨k2, hk2, hl2, hi2, b2, o2, _, v2, ha2, hc2, rfl, hs2⟩ := zm 2 (by omega)
      refine Gs 5 O (zkA O tg130 (hB_b3.cells 2 _ O) (zkw O O (zjj tR130 ts132 O O ha0 (by omega)) (zkC O tg132 ts132 (hX.cells hc0 (fun h => h)) O (G.call O Tryz.call171 (ihk k0 (zm9 hk0) _ D Dv _ _ hvv (RTm.put (hs0.ext zo hX))) ?_))))
      rintro _ wz4 ⟨rfl, hz4⟩
      obtain ⟨hE, hks, hvv, hB_b3, hX⟩ := Tr5 hz4 hE hks hvv hB_b3 hX
      refine Gs 3 O (ziA O (fun z => ?_) (fun z => ?_))
      ·
       refine Gs 4 O (zkA O tg130 (hB_b3.cells 2 _ O) (zkw O O (zjj tR130 ts132 O O ha1 (by omega)) (zkC O tg132 ts132 (hX.cells hc1 (fun h => h)) O (G.call O Tryz.call171 (ihk k1 (zm9 hk1) _ D Dv _ _ hvv (RTm.put (hs1.ext zo hX))) ?_))))
       rintro _ wz5 ⟨rfl, hz5⟩
       obtain ⟨hE, hks, hvv, hB_b3, hX⟩ := Tr5 hz5 hE hks hvv hB_b3 hX
       refine Gs 7 O (ziU Tryz.results171 O ⟨_, rfl, by rw [hve, jE, if_neg c0, if_neg c24, if_neg c6, if_neg c7, if_pos c23, hl0, if_pos z, hl1], hE⟩)
      ·
       refine Gs 6 O (zkA O tg130 (hB_b3.cells 2 _ O) (zkw O O (zjj tR130 ts132 O O ha2 (by omega)) (zkC O tg132 ts132 (hX.cells hc2 (fun h => h)) O (G.call O Tryz.call171 (ihk k2 (zm9 hk2) _ D Dv _ _ hvv (RTm.put (hs2.ext zo hX))) ?_))))
       rintro _ wz6 ⟨rfl, hz6⟩
       obtain ⟨hE, hks, hvv, hB_b3, hX⟩ := Tr5 hz6 hE hks hvv hB_b3 hX
       refine Gs 6 O (ziU Tryz.results171 O ⟨_, rfl, by rw [hve, jE, if_neg c0, if_neg c24, if_neg c6, if_neg c7, if_pos c23, hl0, if_neg z, hl2], hE⟩)
     ·
      refine Gs 6 O (ziA O (fun c25 => ?_) (fun c25 => ?_))
      ·
       have h1 := ok.k25 c25
       obtain ⟨k0, hk0, hl0, hi0, b0, o0, _, v0, ha0, hc0, rfl, hs0⟩ := zm 0 (by omega)
       have hcl := qi (xV vals k0) (show (0 : Int) <= (t.kids.length : Int) - 2 by omega)
       obtain ⟨kj, hkj, hlj, hij, bj, oj, _, vj, haj, hcj, rfl, hsj⟩ := zm (1 + xS (xV vals k0) 0 ((t.kids.length : Int) - 2)).toNat (by omega)
       refine Gs 1 O (Dw (fun q => Ext w_b3 q) [] (fun wd7 hD _ => ?_))
       refine Ds [0, 1] (by kernel_rfl) O (WD.take 2 O (by kernel_rfl) O O O hD (fun w1 hw1 => R.load tg130 O ((hw1.blk hB_b3 (fun h => h)).cells 2 _ O)) (Ds [3, 4] (by kernel_rfl) O (WD.take 5 O (by kernel_rfl) O O O hD (fun w1 hw1 => R.load tg130 O ((hw1.blk hB_b3 (fun h => h)).cells 2 _ O)) (zjL 6 O (by kernel_rfl) O O O (fun w1 => zjj tR130 ts132 O O ha0 (by omega)) (WD.take 7 O (by kernel_rfl) O O O hD (fun w1 hw1 => zjl tg132 ts132 O (by rfl) ((hX.ext hw1).cells hc0 (fun h => h))) ?_)))))
       refine Ds [9] (by kernel_rfl) O (WD.take 10 O (by kernel_rfl) O O O hD (fun w1 hw1 => R.load tg130 O ((hw1.blk hB_b3 (fun h => h)).cells 2 _ O)) (Da [11, 12] (by kernel_rfl) O (by omega) (WD.call 8 O (by kernel_rfl) O O O (F.call (vs := [_, _]) Tryz.call171 O) (ihk k0 (zm9 hk0) _ D Dv _ _ (hvv.ext zc hD) (RTm.put (hs0.ext zo (hX.ext hD)))) ?_)))
       rintro _ wz8 ⟨rfl, hz8⟩
       replace hD := hD.ext hz8
       refine ⟨fun _ => hD, ?_⟩
       refine WD.call 13 O (by kernel_rfl) O O O (F.call (vs := [_, _, _]) Tryz.call173 O) (zmm _ _ _ _) ?_
       rintro _ wz9 ⟨rfl, hz9⟩
       replace hD := hD.ext hz9
       refine ⟨fun _ => hD, ?_⟩
       refine Da [14] (by kernel_rfl) O (by omega) (zjL 15 O (by kernel_rfl) O O O (fun w1 => zjj tR130 ts132 O O haj (by omega)) (WD.take 16 O (by kernel_rfl) O O O hD (fun w1 hw1 => zjl tg132 ts132 O (by rfl) ((hX.ext hw1).cells hcj (fun h => h))) (WD.call 17 O (by kernel_rfl) O O O (F.call (vs := [_, _]) Tryz.call171 O) (ihk kj (zm9 hkj) _ D Dv _ _ (hvv.ext zc hD) (RTm.put (hsj.ext zo (hX.ext hD)))) ?_)))
       rintro _ wz10 ⟨rfl, hz10⟩
       replace hD := hD.ext hz10
       refine ⟨fun _ => hD, ?_⟩
       refine Ds [18] (by kernel_rfl) O (zjH (by kernel_rfl) ?_ _)
       obtain ⟨hE, hks, hvv, hB_b3, hX⟩ := Tr5 hD hE hks hvv hB_b3 hX
       refine Gs 4 O (ziU Tryz.results171 O ⟨_, rfl, by rw [hve, jE, if_neg c0, if_neg c24, if_neg c6, if_neg c7, if_neg c23, if_pos c25, hl0, zdj, hlj], hE⟩)
      ·
       have h1 := ok.k2 (by omega)
       obtain ⟨k0, hk0, hl0, hi0, b0, o0, _, v0, ha0, hc0, rfl, hs0⟩ := zm 0 (by omega)
       obtain ⟨k1, hk1, hl1, hi1, b1, o1, _, v1, ha1, hc1, rfl, hs1⟩ := zm 1 (by omega)
       refine Gs 4 O (Dw (fun q => Ext w_b3 q) [] (fun wd11 hD _ => ?_))
       refine Ds [0] (by kernel_rfl) O (WD.take 1 O (by kernel_rfl) O O O hD (fun w1 hw1 => R.load tg129 O ((hw1.blk hB_b3 (fun h => h)).cells 0 _ O)) (Ds [2, 3] (by kernel_rfl) O (WD.take 4 O (by kernel_rfl) O O O hD (fun w1 hw1 => R.load tg130 O ((hw1.blk hB_b3 (fun h => h)).cells 2 _ O)) (zjL 5 O (by kernel_rfl) O O O (fun w1 => zjj tR130 ts132 O O ha0 (by omega)) (WD.take 6 O (by kernel_rfl) O O O hD (fun w1 hw1 => zjl tg132 ts132 O (by rfl) ((hX.ext hw1).cells hc0 (fun h => h))) ?_)))))
       refine Ds [8, 9] (by kernel_rfl) O (WD.take 10 O (by kernel_rfl) O O O hD (fun w1 hw1 => R.load tg130 O ((hw1.blk hB_b3 (fun h => h)).cells 2 _ O)) (zjL 11 O (by kernel_rfl) O O O (fun w1 => zjj tR130 ts132 O O ha1 (by omega)) (WD.take 12 O (by kernel_rfl) O O O hD (fun w1 hw1 => zjl tg132 ts132 O (by rfl) ((hX.ext hw1).cells hc1 (fun h => h))) (WD.call 7 O (by kernel_rfl) O O O (F.call (vs := [_, _]) Tryz.call171 O) (ihk k0 (zm9 hk0) _ D Dv _ _ (hvv.ext zc hD) (RTm.put (hs0.ext zo (hX.ext hD)))) ?_))))
       rintro _ wz12 ⟨rfl, hz12⟩
       replace hD := hD.ext hz12
       refine ⟨fun _ => hD, ?_⟩
       refine WD.call 13 O (by kernel_rfl) O O O (F.call (vs := [_, _]) Tryz.call171 O) (ihk k1 (zm9 hk1) _ D Dv _ _ (hvv.ext zc hD) (RTm.put (hs1.ext zo (hX.ext hD)))) ?_
       rintro _ wz13 ⟨rfl, hz13⟩
       replace hD := hD.ext hz13
       refine ⟨fun _ => hD, ?_⟩
       refine WD.call 14 O (by kernel_rfl) O O O (F.call (vs := [_, _, _]) Tryz.call190 O) (zmB _ _ _ _ hi0 hi1) ?_
       rintro _ wz14 ⟨rfl, hz14⟩
       replace hD := hD.ext hz14
       refine ⟨fun _ => hD, ?_⟩
       refine Ds [15] (by kernel_rfl) O (zjH (by kernel_rfl) ?_ _)
       obtain ⟨hE, hks, hvv, hB_b3, hX⟩ := Tr5 hD hE hks hvv hB_b3 hX
       refine Gs 2 O (ziU Tryz.results171 O ⟨_, rfl, by rw [hve, jE, if_neg c0, if_neg c24, if_neg c6, if_neg c7, if_neg c23, if_neg c25, hl0, hl1], hE⟩)
section
variable {f : Fl} (V : Valid f)
include V
theorem Valid.plain : zei f.body = true := zmG V.ok
end
open Go.GL
theorem znh (l : List Int) (v : Value) (D : Nat -> Prop) (w : World) (i : Nat) (h : SlR 1 zF D w v l) :
  Calls Tryz.prog 168 #[v, .int .i64 i] w (Ret fun r w' => r = .tuple #[.int .i64 (l[i]?.getD 0), .bool (decide (i < l.length))] /\ Ext w w') := by
 obtain ⟨av, cv, rfl⟩ := h.form
 refine zkH Tryz.func168 O Tryz.ntmps168 O (zkS ?_)
 refine Vs 15 O ?_
 refine ziB O (fun hge => ?_) (fun hge => ?_)
 ·
  refine Vs 8 O ?_
  refine ziY Tryz.results168 O O (fun w hI => ⟨_, rfl, by rw [decide_eq_false (by omega), List.getElem?_eq_none (by omega)]; rfl, hI.k0⟩)
 ·
  refine Vs 6 O ?_
  obtain ⟨x, he_x, hm_x⟩ := gE_ l (i) (by omega)
  obtain ⟨b_x, o_x, c_x, ha_x, _, hc_x, hR_x⟩ := h.at he_x
  obtain rfl := hR_x
  refine zlf 1000 0 O O hc_x ?_
  refine zkZ 1000 tR31 ts3 O ha_x (by omega) (_) (rfl) O ?_
  refine Vs 6 O ?_
  refine ziY Tryz.results168 O O (fun w hI => ⟨_, rfl, by rw [decide_eq_true (by omega), he_x]; rfl, hI.k0⟩)
theorem zmH (vs : List Vr) (r : Ins) (vv s1 s2 s3 : Value) (Dv D1 D2 D3 : Nat -> Prop) (w : World) (hvs : SlR 5 RVr Dv w vv vs) (hlen : vs.length <= 1000000) (hkv : ∀ v ∈ vs, 0 <= v.kind /\ v.kind <= 3) (hi1 : SlR 1 zF D1 w s1 r.secret) (hi2 : SlR 1 zF D2 w s2 r.pub) (hi3 : SlR 1 zF D3 w s3 r.random) :
  Calls Tryz.prog 140 #[vv, .agg #[s1, s2, s3]] w (Ret fun rr w' => (∃ u, rr = .tuple #[u, .int .i64 (zM vs r)] /\ (zM vs r ≠ 0 -> u = .slice none 0 0) /\ (zM vs r = 0 -> w'.ownsRow 0 3 1 u (xm vs r).length ((xm vs r).map zi) /\ ∀ g, u.ownBlock = some g -> w.heap.size <= g)) /\ Ext w w') := by
 obtain ⟨av, cv, rfl⟩ := hvs.form
 obtain ⟨a1, c1, rfl⟩ := hi1.form
 obtain ⟨a2, c2, rfl⟩ := hi2.form
 obtain ⟨a3, c3, rfl⟩ := hi3.form
 refine zkH Tryz.func140 O Tryz.ntmps140 O (zkS ?_)
 refine Vs 2 O ?_
 refine V.box 3 O O (fun b3 => ?_)
 refine Vs 13 O ?_
 refine V.bs0 15 tR31 ts3 O (fun b15 => ?_)
 refine Vs 15 O ?_
 refine zli (σ := Nat × StS × Value × Bool) [0, 3] [3] [3] O (fun e ⟨i, s, u, b⟩ => (6, .int .i64 s.a) :: (7, .int .i64 s.b) :: (8, .int .i64 s.c) :: (9, u) :: (10, .bool b) :: (11, .int .i64 i) :: e) (fun e ⟨i, s, u, b⟩ => (15, .row 3 1 u s.vals.length (s.vals.map zi)) :: e) (fun ⟨i, s, u, b⟩ => i <= vs.length /\ (vs.take i).foldl (zy r) (some ⟨[], 0, 0, 0⟩) = some s /\ b = ((vs.take i).zip s.vals).all inB) (fun ⟨i, s, u, b⟩ => vs.length - i) ((0, ⟨[], 0, 0, 0⟩, .slice (some ⟨b15, 0, none⟩) 0 0, true)) (zkg O) (zkh O) (fun _ => rfl) (fun _ => rfl) (fun _ => rfl) (⟨Nat.zero_le _, rfl, rfl⟩) ?_
 rintro ⟨i, s, u, b⟩ ⟨hi, hs, hb⟩
 show V _ _ _ _ _ ((6, .int .i64 s.a) :: (7, .int .i64 s.b) :: (8, .int .i64 s.c) :: (9, u) :: (10, .bool b) :: (11, .int .i64 i) :: _) _ ((15, .row 3 1 u s.vals.length (s.vals.map zi)) :: _) _
 obtain ⟨hv1, ha, hb1, hc⟩ := zaF i s hi hs
 refine Vs 9 O ?_
 refine ziB O (fun hlt => ?_) (fun hlt => ?_)
 ·
  refine Vs 8 O ?_
  obtain ⟨x, he_x, hm_x⟩ := gE_ vs (i) (by omega)
  obtain ⟨b_x, o_x, c_x, ha_x, _, hc_x, hR_x⟩ := hvs.at he_x
  obtain rfl := hR_x
  refine zlf 1000 0 O O hc_x ?_
  refine zkZ 1000 tR52 ts120 O ha_x (by omega) (_) (rfl) O ?_
  have hst := zad he_x hs
  refine Vs 1 O ?_
  refine V.alloc 12 tz120 O O (fun b12 => ?_)
  refine Vs 18 O ?_
  have hkx := hkv x hm_x
  refine zlj (σ := Bool × Int × Nat × Nat × Nat) [0, 3, 9, 10, 11, 12] [3, 12, 15] [3, 12] O (fun e ⟨ok, n, a', b', c'⟩ => (13, .int .i64 n) :: (14, .bool ok) :: (6, .int .i64 a') :: (7, .int .i64 b') :: (8, .int .i64 c') :: e) (fun e ⟨ok, n, a', b', c'⟩ => e) (fun ⟨ok, n, a', b', c'⟩ => (vs.take (i + 1)).foldl (zy r) (some ⟨[], 0, 0, 0⟩) = if ok then some ⟨s.vals ++ [n], a', b', c'⟩ else none) (fun _ => rfl) (fun _ => rfl) ?_ ?_
  ·
   refine Vs 7 O ?_
   refine ziB O (fun k1 => ?_) (fun k1 => ?_)
   ·
    refine Vs 5 O ?_
    refine zl7 Tryz.call168 O (fun w hI => znh r.secret _ D1 w s.a (Tr1 hI.k0 hi1)) ?_
    rw [if_neg (by omega), show xW r x.kind = r.secret by unfold xW; rw [if_pos k1], show zac s x.kind = s.a by unfold zac; rw [if_pos k1]] at hst
    have hq : (vs.take (i + 1)).foldl (zy r) (some ⟨[], 0, 0, 0⟩) = if decide (s.a < r.secret.length) then some ⟨s.vals ++ [r.secret[s.a]?.getD 0], s.a + 1, s.b, s.c⟩ else none := by
     rw [hst]
     by_cases hl : s.a < r.secret.length
     . rw [if_pos (decide_eq_true hl), zm8 hl]; simp [kh, k1]
     . rw [if_neg (by simp [hl]), List.getElem?_eq_none (by omega)]; rfl
    refine Va 13 O (by omega) ?_
    refine ziR (⟨_, _, s.a + 1, s.b, s.c⟩) (zkg O) (zkh O) (hq) 0 O O
   ·
    refine Vs 6 O ?_
    refine ziB O (fun k2 => ?_) (fun k2 => ?_)
    ·
     refine Vs 5 O ?_
     refine zl7 Tryz.call168 O (fun w hI => znh r.pub _ D2 w s.b (Tr1 hI.k0 hi2)) ?_
     rw [if_neg (by omega), show xW r x.kind = r.pub by unfold xW; rw [if_neg k1, if_pos k2], show zac s x.kind = s.b by unfold zac; rw [if_neg k1, if_pos k2]] at hst
     have hq : (vs.take (i + 1)).foldl (zy r) (some ⟨[], 0, 0, 0⟩) = if decide (s.b < r.pub.length) then some ⟨s.vals ++ [r.pub[s.b]?.getD 0], s.a, s.b + 1, s.c⟩ else none := by
      rw [hst]
      by_cases hl : s.b < r.pub.length
      . rw [if_pos (decide_eq_true hl), zm8 hl]; simp [kh, k2]
      . rw [if_neg (by simp [hl]), List.getElem?_eq_none (by omega)]; rfl
     refine Va 13 O (by omega) ?_
     refine ziR (⟨_, _, s.a, s.b + 1, s.c⟩) (zkg O) (zkh O) (hq) 0 O O
    ·
     refine Vs 6 O ?_
     refine ziB O (fun k3 => ?_) (fun k3 => ?_)
     ·
      refine Vs 5 O ?_
      refine zl7 Tryz.call168 O (fun w hI => znh r.random _ D3 w s.c (Tr1 hI.k0 hi3)) ?_
      rw [if_neg (by omega), show xW r x.kind = r.random by unfold xW; rw [if_neg k1, if_neg k2], show zac s x.kind = s.c by unfold zac; rw [if_neg k1, if_neg k2]] at hst
      have hq : (vs.take (i + 1)).foldl (zy r) (some ⟨[], 0, 0, 0⟩) = if decide (s.c < r.random.length) then some ⟨s.vals ++ [r.random[s.c]?.getD 0], s.a, s.b, s.c + 1⟩ else none := by
       rw [hst]
       by_cases hl : s.c < r.random.length
       . rw [if_pos (decide_eq_true hl), zm8 hl]; simp [kh, k1, k2]
       . rw [if_neg (by simp [hl]), List.getElem?_eq_none (by omega)]; rfl
      refine Va 13 O (by omega) ?_
      refine ziR (⟨_, _, s.a, s.b, s.c + 1⟩) (zkg O) (zkh O) (hq) 0 O O
     ·
      rw [if_pos (by omega)] at hst
      refine Vs 2 O ?_
      refine ziR (⟨true, x.init, s.a, s.b, s.c⟩) (zkg O) (zkh O) (by rw [hst]; rfl) 0 O O
  rintro ⟨ok, n, a', b', c'⟩ hq
  show V _ _ _ _ _ ((13, .int .i64 n) :: (14, .bool ok) :: (6, .int .i64 a') :: (7, .int .i64 b') :: (8, .int .i64 c') :: _) _ (_) _
  dsimp only at hq
  refine Vs 5 O ?_
  refine zkx O (fun w hI => zk0 O (by first | exact za | rfl)) ?_
  refine Vs 2 O ?_
  refine V.bool O (fun hok => ?_) (fun hok => ?_)
  ·
   have hok' : ok = false := by simpa using hok
   have hN : zM vs r = 1 := by unfold zM; rw [zcI (by rw [hq, hok']; rfl)]
   refine Vs 13 O ?_
   refine ziY Tryz.results140 O O (fun w hI => ⟨_, rfl, ⟨_, by rw [hN], fun _ => rfl, fun h => by omega⟩, hI.k0⟩)
  ·
   have hok' : ok = true := by simpa using hok
   rw [hok', if_pos rfl] at hq
   have hz : ∀ c, c = inB (x, n) -> (b && c) = ((vs.take (i + 1)).zip (s.vals ++ [n])).all inB := by
    intro c hc
    rw [zg he_x, List.zip_append (by rw [hv1, List.length_take]; omega), List.all_append, <- hb, hc]
    simp
   refine Vs 10 O ?_
   refine zkt 69 O (fun g1 => ?_) (fun g1 => ?_)
   ·
    refine Vs 15 O ?_
    refine zll 77 [(0, _)] tR31 ts3 tz3 (by decide) O O (by kernel_rfl) (fun b77 => ?_)
    refine V.ap 15 77 tu31 Tryz.el3 O (by decide) O O (by omega) (by omega) (fun u15 => ?_)
    refine Va 9 O (by omega) ?_
    refine zlh 15 O (e' := .row 3 1 u15 (s.vals ++ [n]).length ((s.vals ++ [n]).map zi)) (by simp [zi]) ?_
    refine ziM (⟨i + 1, ⟨s.vals ++ [n], a', b', c'⟩, u15, false⟩) (zkg O) (zkh O) (⟨by omega, hq, by rw [<- hz false (by unfold inB; rw [decide_eq_false (p := x.low <= n) (by omega)]; rfl), Bool.and_false]⟩) (by first | omega | (dsimp only; omega)) 0 O O
   ·
    refine Vs 7 O ?_
    refine ziB O (fun t1 => ?_) (fun t1 => ?_)
    ·
     refine Vs 7 O ?_
     refine zll 1077 [(0, _)] tR31 ts3 tz3 (by decide) O O (by kernel_rfl) (fun b1077 => ?_)
     refine V.ap 15 1077 tu31 Tryz.el3 O (by decide) O O (by omega) (by omega) (fun u15 => ?_)
     refine Va 9 O (by omega) ?_
     refine zlh 15 O (e' := .row 3 1 u15 (s.vals ++ [n]).length ((s.vals ++ [n]).map zi)) (by simp [zi]) ?_
     refine ziM (⟨i + 1, ⟨s.vals ++ [n], a', b', c'⟩, u15, false⟩) (zkg O) (zkh O) (⟨by omega, hq, by rw [<- hz false (by unfold inB; rw [decide_eq_false (p := n <= x.high) (by omega), Bool.and_false]), Bool.and_false]⟩) (by first | omega | (dsimp only; omega)) 0 O O
    ·
     refine Vs 5 O ?_
     refine zll 2077 [(0, _)] tR31 ts3 tz3 (by decide) O O (by kernel_rfl) (fun b2077 => ?_)
     refine V.ap 15 2077 tu31 Tryz.el3 O (by decide) O O (by omega) (by omega) (fun u15 => ?_)
     refine Va 9 O (by omega) ?_
     refine zlh 15 O (e' := .row 3 1 u15 (s.vals ++ [n]).length ((s.vals ++ [n]).map zi)) (by simp [zi]) ?_
     refine ziM (⟨i + 1, ⟨s.vals ++ [n], a', b', c'⟩, u15, b⟩) (zkg O) (zkh O) (⟨by omega, hq, by rw [<- hz true (by unfold inB; rw [decide_eq_true (p := x.low <= n) (by omega), decide_eq_true (p := n <= x.high) (by omega)]; rfl), Bool.and_true]⟩) (by first | omega | (dsimp only; omega)) 0 O O
 ·
  have hii : i = vs.length := by omega
  rw [hii, zmd] at hs hb
  have hS : jT vs r = some s := hs
  have hC : zM vs r = ku vs r s := by unfold zM; rw [hS]
  have hV : xm vs r = s.vals := by unfold xm; rw [hS]
  rw [hC, hV]
  refine Vs 14 O ?_
  refine zkt 84 O (fun e1 => ?_) (fun e1 => ?_)
  ·
   have hF : ku vs r s = 1 := by unfold ku; rw [if_pos (.inl (by omega))]
   rw [hF]
   refine Vs 24 O ?_
   refine ziY Tryz.results140 O O (fun w hI => ⟨_, rfl, ⟨_, rfl, fun _ => rfl, fun h => by omega⟩, hI.k0⟩)
  ·
   refine Vs 7 O ?_
   refine zkt 91 O (fun e2 => ?_) (fun e2 => ?_)
   ·
    have hF : ku vs r s = 1 := by unfold ku; rw [if_pos (.inr (.inl (by omega)))]
    rw [hF]
    refine Vs 17 O ?_
    refine ziY Tryz.results140 O O (fun w hI => ⟨_, rfl, ⟨_, rfl, fun _ => rfl, fun h => by omega⟩, hI.k0⟩)
   ·
    refine Vs 8 O ?_
    refine ziB O (fun e3 => ?_) (fun e3 => ?_)
    ·
     have hF : ku vs r s = 1 := by unfold ku; rw [if_pos (.inr (.inr (by omega)))]
     rw [hF]
     refine Vs 8 O ?_
     refine ziY Tryz.results140 O O (fun w hI => ⟨_, rfl, ⟨_, rfl, fun _ => rfl, fun h => by omega⟩, hI.k0⟩)
    ·
     have hF : ku vs r s = if b = true then 0 else 3 := by unfold ku; rw [if_neg (by omega), hb]
     rw [hF]
     refine Vs 6 O ?_
     refine zkx O (fun w hI => zk0 O (by first | exact za | rfl)) ?_
     refine Vs 2 O ?_
     refine V.bool O (fun hb3 => ?_) (fun hb3 => ?_)
     ·
      have hb' : b = false := by simpa using hb3
      rw [hb', if_neg (by decide)]
      refine Vs 8 O ?_
      refine ziY Tryz.results140 O O (fun w hI => ⟨_, rfl, ⟨_, rfl, fun _ => rfl, fun h => by omega⟩, hI.k0⟩)
     ·
      have hb' : b = true := by simpa using hb3
      rw [hb', if_pos rfl]
      refine Vs 10 O ?_
      refine ziY Tryz.results140 O O (fun w hI => ⟨_, rfl, ⟨_, rfl, fun h => absurd O h, fun _ => ⟨hI.at 15 rfl, hI.own 15 0 O rfl⟩⟩, hI.k0⟩)
theorem zms (l : List Int) : l.flatMap (fun x => [zi x]) = l.map zi := (zn9 l).symm
theorem zmC (vs : List Vr) (vals : List Int) (n i : Int) (v1 v2 v3 sv : Value) (Dv D : Nat -> Prop) (w : World) (hvs : SlR 5 RVr Dv w v1 vs) (hs : SlR 1 zF D w sv vals) (hlen : vals.length = vs.length) (hmx : vs.length <= 1000000) (hi : 0 <= i /\ i < vs.length) :
  Calls Tryz.prog 170 #[.agg #[v1, v2, v3], sv, .int .i64 i, .int .i64 n] w (Ret fun rr w' => (w'.ownsRow 0 3 1 rr vals.length ((zaw vs vals i n).map zi) /\ ∀ g, rr.ownBlock = some g -> w.heap.size <= g) /\ Ext w w') := by
 obtain ⟨av, cv, rfl⟩ := hvs.form
 obtain ⟨asl, csl, rfl⟩ := hs.form
 obtain ⟨i, rfl⟩ : ∃ j : Nat, i = j := ⟨i.toNat, by omega⟩
 refine zkJ Tryz.func170 O Tryz.ntmps170 O (zkS ?_)
 refine Vs 2 O ?_
 refine V.box 4 O O (fun b4 => ?_)
 refine Vs 5 O ?_
 refine V.bs0 10 tR31 ts3 O (fun b10 => ?_)
 refine Vs 1 O ?_
 refine V.apS 10 (fun x => [zi x]) (fun _ => rfl) (by simp [Value.oneCell']) zfO tu31 Tryz.el3 O (by decide) O (fun w hI => ⟨_, Tr1 hI.k0 hs⟩) (by omega) (by omega) (fun u10 => ?_)
 refine zlh 10 O (e' := .row 3 1 u10 vals.length (vals.map zi)) (by rw [zms, Nat.zero_add]; rfl) ?_
 refine zl4 10 O (by omega) ?_
 rintro b c rfl hcap_10
 refine Vs 4 O ?_
 obtain ⟨x, he_x, hm_x⟩ := gE_ vs (i) (by omega)
 obtain ⟨b_x, o_x, c_x, ha_x, _, hc_x, hR_x⟩ := hvs.at he_x
 obtain rfl := hR_x
 refine zlf 1000 0 O O hc_x ?_
 refine Vw [4, 1000] [] O ?_
 refine Vd [0, 1, 2, 3, 4, 5, 9, 10, 11] 0 (by kernel_rfl) O O O ?_
 refine zl0 6 1000 tR52 ts120 O (by kernel_rfl) O ha_x (by omega) (_) (rfl) O ?_
 refine Vd [7, 8] 0 (by kernel_rfl) O O O ?_
 refine zl0 12 1000 tR52 ts120 O (by kernel_rfl) O ha_x (by omega) (_) (rfl) O ?_
 refine Vd [13, 14] 0 (by kernel_rfl) O O O ?_
 refine zl8 15 0 Tryz.call173 O (by kernel_rfl) O O (fun w hI => zmm n x.low x.high w) ?_
 refine Vb [16] 0 (by kernel_rfl) O O O (by omega) ?_
 refine zl6 17 10 0 (i) ts3 O (by kernel_rfl) O O (by omega) (by simp; omega) ?_
 refine zjI (by kernel_rfl) ?_
 refine Vs 8 O ?_
 have hx : zaw vs vals i n = vals.set i (xS n x.low x.high) := by unfold zaw; rw [Int.toNat_natCast, he_x]
 refine zlh 10 O (e' := .row 3 1 (.slice (some ⟨b, 0, none⟩) vals.length c) vals.length ((zaw vs vals i n).map zi)) (by rw [hx, List.map_set]) ?_
 refine ziV Tryz.results170 O (fun w hI => ⟨_, rfl, ⟨hI.at 10 rfl, hI.own 10 0 O rfl⟩, hI.k0⟩)
theorem zmy (f : Fl) (vals : List Int) (v1 v2 v3 sv : Value) (D Ds : Nat -> Prop) (w : World) (hf : RFl D w f v1 v2 v3) (hs : SlR 1 zF Ds w sv vals) (hg : ∀ v ∈ f.vars, yn (v.low, v.high)) (hV : InV f.vars vals) (hh : ∀ h ∈ f.hatches, zx f.vars false h.term = true /\ (rng f.vars h.term).isSome = true) (hmx : f.hatches.length <= 1000000) :
  Calls Tryz.prog 142 #[.agg #[v1, v2, v3], sv] w (Ret fun rr w' => (w'.ownsRow 0 3 1 rr f.hatches.length ((zfN vals f.hatches).map zi) /\ ∀ g, rr.ownBlock = some g -> w.heap.size <= g) /\ Ext w w') := by
 obtain ⟨hf1, hf2, hf3⟩ := hf
 obtain ⟨ah, ch, rfl⟩ := hf2.form
 refine zkH Tryz.func142 O Tryz.ntmps142 O (zkS ?_)
 refine Vs 2 O ?_
 refine V.box 2 O O (fun b2 => ?_)
 refine Vs 5 O ?_
 refine V.bs0 8 tR31 ts3 O (fun b8 => ?_)
 refine Vs 10 O ?_
 refine zli (σ := Nat × Value) [1, 2] [2] [2] O (fun e ⟨i, u⟩ => (5, u) :: (6, .int .i64 i) :: e) (fun e ⟨i, u⟩ => (8, .row 3 1 u i ((zfN vals (f.hatches.take i)).map zi)) :: e) (fun ⟨i, u⟩ => i <= f.hatches.length) (fun ⟨i, u⟩ => f.hatches.length - i) ((0, .slice (some ⟨b8, 0, none⟩) 0 0)) (zkg O) (zkh O) (fun _ => rfl) (fun _ => rfl) (fun _ => rfl) (Nat.zero_le _) ?_
 rintro ⟨i, u⟩ hi
 show V _ _ _ _ _ ((5, u) :: (6, .int .i64 i) :: _) _ ((8, .row 3 1 u i ((zfN vals (f.hatches.take i)).map zi)) :: _) _
 refine Vs 10 O ?_
 refine ziB O (fun hlt => ?_) (fun hlt => ?_)
 ·
  refine Vs 9 O ?_
  obtain ⟨x, he_x, hm_x⟩ := gE_ f.hatches (i) (by omega)
  obtain ⟨b_x, o_x, c_x, ha_x, _, hc_x, hR_x⟩ := hf2.at he_x
  obtain ⟨v1_x, rfl, hk_x⟩ := hR_x
  obtain ⟨a1_x, n1_x, rfl⟩ := hk_x.form
  refine zlf 1000 0 O O hc_x ?_
  refine zkZ 1000 tR53 ts137 O ha_x (by omega) (_) (rfl) O ?_
  obtain ⟨t1, t2⟩ := hh x hm_x
  refine Vs 1 O ?_
  refine V.alloc 7 tz137 O O (fun b7 => ?_)
  refine Vs 3 O ?_
  refine Vw [2, 1000, 7] [] O ?_
  refine Vd [0, 1, 2, 3, 5, 6, 7, 8] 0 (by kernel_rfl) O O O ?_
  refine zl8 4 0 Tryz.call171 O (by kernel_rfl) O O (fun w hI => ziu hg hV x.term t1 t2 _ D Ds w _ (Tr1 hI.k0 hs) (RTm.put (Tr1 hI.k0 hk_x))) ?_
  refine zl8 9 0 Tryz.call173 O (by kernel_rfl) O O (fun w hI => zmm _ x.low x.high w) ?_
  refine zlm 10 31 0 [(0, _)] tR31 ts3 tz3 (by decide) O (by kernel_rfl) O O (by kernel_rfl) (fun b31 => ?_)
  refine zl3 11 8 31 0 tu31 Tryz.el3 O (by decide) O (by kernel_rfl) O O O (by omega) (by omega) (fun u8 => ?_)
  refine Vd [12] 0 (by kernel_rfl) O O O ?_
  refine zjI (by kernel_rfl) ?_
  refine Va 7 O (by omega) ?_
  refine zlh 8 O (e' := .row 3 1 u8 (i + 1) ((zfN vals (f.hatches.take (i + 1))).map zi)) (by rw [zeI he_x, List.map_append]; rfl) ?_
  refine ziM ((i + 1, u8)) (zkg O) (zkh O) (Nat.succ_le_of_lt (by omega)) (by first | omega | (dsimp only; omega)) 0 O O
 ·
  have hii : i = f.hatches.length := by omega
  subst hii
  refine Vs 12 O ?_
  refine ziV Tryz.results142 O (fun w hI => ⟨_, rfl, ⟨by have h := hI.at 8 rfl; rwa [zmd] at h, hI.own 8 0 O rfl⟩, hI.k0⟩)
theorem zmO (vs : List Vr) (vals : List Int) (i n : Int) : (zaw vs vals i n).length = vals.length := by
 unfold zaw; split
 . rw [List.length_set]
 . rfl
abbrev sgV (σ : Sg) (a1 : Option Addr) (c1 : Nat) (a2 : Option Addr) (c2 : Nat) : Value := .agg #[.slice a1 σ.vals.length c1, .slice a2 σ.outs.length c2, .int .i64 σ.time]
abbrev SlI (D : Nat -> Prop) (w : World) (a : Option Addr) (c : Nat) (l : List Int) : Prop := SlR 1 zF D w (.slice a l.length c) l
def znk (D : Nat -> Prop) (w w' : World) (σ : Sg) (r : Value) : Prop := ∃ a1 c1 a2 c2, r = sgV σ a1 c1 a2 c2 /\ SlI (fun b => D b \/ w.heap.size <= b) w' a1 c1 σ.vals /\ SlI (fun b => D b \/ w.heap.size <= b) w' a2 c2 σ.outs
def zn0 (f : Fl) (hs : List Int) (l : List St) : Prop := ∀ (N : Nat) (σ : Sg), SgB f N σ -> N + nbL l <= 100000 -> ∀ (D Df Dh : Nat -> Prop) (w : World) (v1 v2 v3 hv lv : Value) (a1 : Option Addr) (c1 : Nat) (a2 : Option Addr) (c2 : Nat), (∀ b, D b -> b < w.heap.size) -> RFl Df w f v1 v2 v3 -> SlR 1 zF Dh w hv hs -> SlR 10 RSt Df w lv l -> SlI D w a1 c1 σ.vals -> SlI D w a2 c2 σ.outs ->
 Calls Tryz.prog 141 #[.agg #[v1, v2, v3], hv, lv, sgV σ a1 c1 a2 c2] w (Ret fun r w' => znk D w w' (exL f hs l σ) r /\ Ext w w')
theorem zn1 (f : Fl) (hs : List Int) (hg : ∀ v ∈ f.vars, yn (v.low, v.high)) (x : St) (ho : StepOk f x) (hn : 0 <= x.n) (hp : PreOk f x.thn) (ih : zn0 f hs x.thn) (N : Nat) (σ : Sg) (hB : SgB f N σ) (hN : N + x.n.toNat * (1 + nbL x.thn) <= 100000) (D Df Dh : Nat -> Prop) (w : World) (v1 v2 v3 hv : Value) (a1 : Option Addr) (c1 : Nat) (a2 : Option Addr) (c2 : Nat) (_ : ∀ b, D b -> b < w.heap.size) (hf : RFl Df w f v1 v2 v3) (hh : SlR 1 zF Dh w hv hs) (ax : Option Addr) (nx : Nat) (bx : Option Addr) (mx : Nat) (ex : Option Addr) (ox : Nat) (fx : Option Addr) (px : Nat)
  (hk : SlR 3 RTm Df w (.slice ax x.term.kids.length nx) x.term.kids) (ht : SlR 10 RSt Df w (.slice bx x.thn.length mx) x.thn) (hs1 : SlI D w a1 c1 σ.vals) (hs2 : SlI D w a2 c2 σ.outs) :
  Calls Tryz.prog 169 #[.agg #[v1, v2, v3], hv, .agg #[.int .i64 x.act, .int .i64 x.cost, .int .i64 x.var, .int .i64 x.n, .int .i64 x.term.op, .int .i64 x.term.n, .slice ax x.term.kids.length nx, .slice bx x.thn.length mx, .slice ex x.els.length ox, .slice fx x.bounds.length px], sgV σ a1 c1 a2 c2] w
   (Ret fun r w' => znk D w w' (xP (exL f hs x.thn) x.cost x.term x.n.toNat σ) r /\ Ext w w') := by
 refine zkJ Tryz.func169 O Tryz.ntmps169 O (zkS ?_)
 refine Vs 2 O ?_
 refine V.box 4 O O (fun b4 => ?_)
 refine V.box 6 O O (fun b6 => ?_)
 refine V.box 7 O O (fun b7 => ?_)
 refine V.alloc 8 Tryz.zeroValue160 O O (fun b8 => ?_)
 refine Vs 9 O ?_
 refine V.dat 900 0 O O O (hs1) (fun _ _ _ h => h) ?_
 refine V.dat 901 0 O O O (hs2) (fun _ _ _ h => h) ?_
 refine zli (σ := Nat × Sg × Option Addr × Nat × Option Addr × Nat × (Nat -> Prop) × (Nat -> Prop)) [1, 4, 6, 7, 8] [4, 6, 8] [4, 6, 7, 8] O (fun e ⟨k, s, p1, q1, p2, q2, F1, F2⟩ => (9, .int .i64 k) :: e) (fun e ⟨k, s, p1, q1, p2, q2, F1, F2⟩ => (7, .own b7 [.slice p1 s.vals.length q1, .slice p2 s.outs.length q2, .int .i64 s.time] 160) :: (900, .dat F1 (fun w => SlI F1 w p1 q1 s.vals)) :: (901, .dat F2 (fun w => SlI F2 w p2 q2 s.outs)) :: e) (fun ⟨k, s, p1, q1, p2, q2, F1, F2⟩ => k <= x.n.toNat /\ xP (exL f hs x.thn) x.cost x.term x.n.toNat σ = xP (exL f hs x.thn) x.cost x.term (x.n.toNat - k) s /\ SgB f (N + k * (1 + nbL x.thn)) s /\ (∀ b, F1 b -> D b \/ w.heap.size <= b) /\ (∀ b, F2 b -> D b \/ w.heap.size <= b)) (fun ⟨k, s, p1, q1, p2, q2, F1, F2⟩ => x.n.toNat - k) ((0, σ, a1, c1, a2, c2, fun b => D b /\ b < w.heap.size, fun b => D b /\ b < w.heap.size)) (zkg O) (zkh O) (fun _ => rfl) (fun _ => rfl) (fun _ => rfl) (⟨Nat.zero_le _, rfl, by simpa using hB, fun b h => .inl h.1, fun b h => .inl h.1⟩) ?_
 rintro ⟨k, s, p1, q1, p2, q2, F1, F2⟩ ⟨hk1, hall, hsB, hF1, hF2⟩
 show V _ _ _ _ _ ((9, .int .i64 k) :: _) _ ((7, .own b7 [.slice p1 s.vals.length q1, .slice p2 s.outs.length q2, .int .i64 s.time] 160) :: (900, .dat F1 (fun w => SlI F1 w p1 q1 s.vals)) :: (901, .dat F2 (fun w => SlI F2 w p2 q2 s.outs)) :: _) _
 have hcost := ho.cost
 have ht0 := hsB.t0
 have ht1 := hsB.t1
 refine Vs 9 O ?_
 refine ziB O (fun hlt => ?_) (fun hlt => ?_)
 ·
  obtain ⟨m, hm⟩ : ∃ m, x.n.toNat - k = m + 1 := ⟨x.n.toNat - k - 1, by omega⟩
  have hm' : x.n.toNat - (k + 1) = m := by omega
  have hkn : (k + 1) * (1 + nbL x.thn) <= x.n.toNat * (1 + nbL x.thn) := Nat.mul_le_mul_right _ (by omega)
  rw [Nat.succ_mul] at hkn
  have hkb : k <= k * (1 + nbL x.thn) := Nat.le_mul_of_pos_right _ (by omega)
  rw [hm, xP] at hall
  have hs1' := hsB.cost ho
  refine Va 22 O (by omega) ?_
  refine zl7 Tryz.call171 O (fun w hI => ziu hg hsB.inv x.term ho.formed ho.ranged _ Df F1 w _ (hI.at 900 O).1 (RTm.put (Tr1 hI.k0 hk))) ?_
  refine Vs 3 O ?_
  refine ziB O (fun z => ?_) (fun z => ?_)
  ·
   rw [if_pos z] at hall
   rw [hall]
   refine Vs 13 O ?_
   refine zj3 Tryz.results169 Tryz.isAgg160 Tryz.sizeOf160 O O O (fun w hI => ⟨_, rfl, ⟨_, _, _, _, rfl, (hI.at 900 O).1.wide zc hF1, (hI.at 901 O).1.wide zc hF2⟩, hI.k0⟩)
  ·
   rw [if_neg z] at hall
   refine Vs 8 O ?_
   refine zl9 Tryz.call141 O (fun w hI => ih _ { s with time := s.time + x.cost } hs1' (by omega) (fun b => F1 b \/ F2 b) Df Dh w v1 v2 v3 hv _ p1 q1 p2 q2 (fun b hb => hb.elim ((hI.at 900 O).2 b) ((hI.at 901 O).2 b)) (Tr1 hI.k0 hf) (Tr1 hI.k0 hh) (Tr1 hI.k0 ht) ((hI.at 900 O).1.wide zc (fun _ h => .inl h)) ((hI.at 901 O).1.wide zc (fun _ h => .inr h))) ?_
   rintro r w1 w2 hI1 hk12 ⟨p1', q1', p2', q2', rfl, hr1, hr2⟩ hlow
   have hoff : ∀ b, ((F1 b \/ F2 b) \/ w1.heap.size <= b) -> b < w2.heap.size -> ¬ HS _ b := fun b hb _ => hb.elim (fun h => h.elim (hI1.offF 900 rfl b) (hI1.offF 901 rfl b)) (fun h hs => by have := hlow b hs; omega)
   have hsz : w.heap.size <= w1.heap.size := hI1.k0.size
   refine Va 9 O (by omega) ?_
   refine V.del 900 O ?_
   refine V.dat 900 0 O O O (hr1) (hoff) ?_
   refine V.del 901 O ?_
   refine V.dat 901 0 O O O (hr2) (hoff) ?_
   have hFF : ∀ b, ((F1 b \/ F2 b) \/ w1.heap.size <= b) /\ b < w2.heap.size -> D b \/ w.heap.size <= b := fun b hb => hb.1.elim (fun h => h.elim (hF1 b) (hF2 b)) (fun h => .inr (by omega))
   refine ziM (⟨k + 1, _, p1', q1', p2', q2', _, _⟩) (zkg O) (zkh O) (⟨by omega, by rw [hm']; exact hall, (zaf hg x.thn hp _ _ hs1').mono (by rw [Nat.succ_mul]; omega), hFF, hFF⟩) (by first | omega | (dsimp only; omega)) 1 O O
 ·
  have hkk : k = x.n.toNat := by omega
  rw [hkk, Nat.sub_self, xP] at hall
  rw [hall]
  refine Vs 12 O ?_
  refine zj3 Tryz.results169 Tryz.isAgg160 Tryz.sizeOf160 O O O (fun w hI => ⟨_, rfl, ⟨_, _, _, _, rfl, (hI.at 900 O).1.wide zc hF1, (hI.at 901 O).1.wide zc hF2⟩, hI.k0⟩)
theorem zna (f : Fl) (hs : List Int) (hg : ∀ v ∈ f.vars, yn (v.low, v.high)) (hlen : hs.length = f.hatches.length) (hvl : f.vars.length <= 1000) (l : List St) : PreOk f l -> zn0 f hs l := by
 induction l using zk9 with
 | h l ih =>
 intro hp N σ hB hN D Df Dh w v1 v2 v3 hv lv a1 c1 a2 c2 hD hf hh hl hs1 hs2
 obtain ⟨al, cl, rfl⟩ := hl.form
 obtain ⟨ahv, chv, rfl⟩ := hh.form
 have hlm := hl.max
 refine zkJ Tryz.func141 O Tryz.ntmps141 O (zkS ?_)
 refine Vs 2 O ?_
 refine V.box 4 O O (fun b4 => ?_)
 refine V.box 7 O O (fun b7 => ?_)
 refine V.alloc 8 Tryz.zeroValue160 O O (fun b8 => ?_)
 refine Vs 9 O ?_
 refine V.dat 900 0 O O O (hs1) (fun _ _ _ h => h) ?_
 refine V.dat 901 0 O O O (hs2) (fun _ _ _ h => h) ?_
 refine zli (σ := Nat × Sg × Option Addr × Nat × Option Addr × Nat × (Nat -> Prop) × (Nat -> Prop)) [1, 2, 4, 7, 8] [4, 8] [4, 7, 8] O (fun e ⟨i, s, p1, q1, p2, q2, F1, F2⟩ => (9, .int .i64 i) :: e) (fun e ⟨i, s, p1, q1, p2, q2, F1, F2⟩ => (7, .own b7 [.slice p1 s.vals.length q1, .slice p2 s.outs.length q2, .int .i64 s.time] 160) :: (900, .dat F1 (fun w => SlI F1 w p1 q1 s.vals)) :: (901, .dat F2 (fun w => SlI F2 w p2 q2 s.outs)) :: e) (fun ⟨i, s, p1, q1, p2, q2, F1, F2⟩ => i <= l.length /\ s = exL f hs (l.take i) σ /\ SgB f (N + nbL (l.take i)) s /\ (∀ b, F1 b -> D b \/ w.heap.size <= b) /\ (∀ b, F2 b -> D b \/ w.heap.size <= b)) (fun ⟨i, s, p1, q1, p2, q2, F1, F2⟩ => l.length - i) ((0, σ, a1, c1, a2, c2, fun b => D b /\ b < w.heap.size, fun b => D b /\ b < w.heap.size)) (zkg O) (zkh O) (fun _ => rfl) (fun _ => rfl) (fun _ => rfl) (⟨Nat.zero_le _, rfl, by simpa [nbL] using hB, fun b h => .inl h.1, fun b h => .inl h.1⟩) ?_
 rintro ⟨i, s, p1, q1, p2, q2, F1, F2⟩ ⟨hi, hall, hsB, hF1, hF2⟩
 show V _ _ _ _ _ ((9, .int .i64 i) :: _) _ ((7, .own b7 [.slice p1 s.vals.length q1, .slice p2 s.outs.length q2, .int .i64 s.time] 160) :: (900, .dat F1 (fun w => SlI F1 w p1 q1 s.vals)) :: (901, .dat F2 (fun w => SlI F2 w p2 q2 s.outs)) :: _) _
 have ht0 := hsB.t0
 have ht1 := hsB.t1
 have hol := hsB.ol
 refine Vs 9 O ?_
 refine ziB O (fun hlt => ?_) (fun hlt => ?_)
 ·
  refine Vs 8 O ?_
  obtain ⟨x, he_x, hm_x⟩ := gE_ l (i) (by omega)
  obtain ⟨b_x, o_x, c_x, ha_x, _, hc_x, hR_x⟩ := hl.at he_x
  obtain ⟨v1_x, v2_x, v3_x, v4_x, rfl, hk_x, ht_x, hs_x, hb_x⟩ := hR_x.get
  obtain ⟨a1_x, n1_x, rfl⟩ := hk_x.form
  obtain ⟨a2_x, n2_x, rfl⟩ := ht_x.form
  obtain ⟨a3_x, n3_x, rfl⟩ := hs_x.form
  obtain ⟨a4_x, n4_x, rfl⟩ := hb_x.form
  refine zlf 1000 0 O O hc_x ?_
  refine zkZ 1000 tR54 ts134 O ha_x (by omega) (_) (rfl) O ?_
  obtain ⟨⟨ho, hse, hn4⟩, hp1, hp2⟩ := hp.kids hm_x
  obtain ⟨i1, i2⟩ := ih x hm_x
  have hcost := ho.cost
  have hnx : nbL (l.take (i + 1)) = nbL (l.take i) + nbS x := by rw [zg he_x, jG]; rfl
  have hnl : nbL (l.take (i + 1)) <= nbL l := zfP l (i + 1)
  have hnx1 := zh0 x
  have hex : exL f hs (l.take (i + 1)) σ = exS f hs x s := by rw [zg he_x, zaG, <- hall]; rfl
  have hnS := zdl x
  have hinv : SgB f (N + nbL (l.take (i + 1))) (exS f hs x s) := by
   rw [<- hex]
   exact zaf hg _ (fun s hs => hp s (by rw [<- List.take_append_drop (i + 1) l, qM]; simp [hs])) N σ hB
  have hs1' := hsB.cost ho
  have hi1 : i + 1 <= l.length := by omega
  refine Vs 1 O ?_
  refine V.alloc 10 tz134 O O (fun b10 => ?_)
  refine Vs 11 O ?_
  refine ziB O (fun a4 => ?_) (fun a4 => ?_)
  ·
   rw [if_neg (by omega), if_pos a4] at hnS
   have hx : exS f hs x s = xP (exL f hs x.thn) x.cost x.term x.n.toNat s := by rw [jn, if_neg (by omega), if_pos a4]
   refine Vs 6 O ?_
   refine zl9 Tryz.call169 O (fun w hI => zn1 f hs hg x ho (hn4 a4) hp1 (i1 hp1) _ s hsB (by omega) (fun b => F1 b \/ F2 b) Df Dh w v1 v2 v3 _ p1 q1 p2 q2 (fun b hb => hb.elim ((hI.at 900 O).2 b) ((hI.at 901 O).2 b)) (Tr1 hI.k0 hf) (Tr1 hI.k0 hh) _ _ _ _ _ _ _ _ (Tr1 hI.k0 hk_x) (Tr1 hI.k0 ht_x) ((hI.at 900 O).1.wide zc (fun _ h => .inl h)) ((hI.at 901 O).1.wide zc (fun _ h => .inr h))) ?_
   rintro r w1 w2 hI1 hk12 ⟨p1', q1', p2', q2', rfl, hr1, hr2⟩ hlow
   have hoff : ∀ b, ((F1 b \/ F2 b) \/ w1.heap.size <= b) -> b < w2.heap.size -> ¬ HS _ b := fun b hb _ => hb.elim (fun h => h.elim (hI1.offF 900 rfl b) (hI1.offF 901 rfl b)) (fun h hs => by have := hlow b hs; omega)
   have hsz : w.heap.size <= w1.heap.size := hI1.k0.size
   have hFF : ∀ b, ((F1 b \/ F2 b) \/ w1.heap.size <= b) /\ b < w2.heap.size -> D b \/ w.heap.size <= b := fun b hb => hb.1.elim (fun h => h.elim (hF1 b) (hF2 b)) (fun h => .inr (by omega))
   refine Va 12 O (by omega) ?_
   refine V.del 900 O ?_
   refine V.dat 900 0 O O O (hr1) (hoff) ?_
   refine V.del 901 O ?_
   refine V.dat 901 0 O O O (hr2) (hoff) ?_
   refine ziM (⟨i + 1, _, p1', q1', p2', q2', _, _⟩) (zkg O) (zkh O) (⟨hi1, by rw [hex, hx], by rw [<- hx]; exact hinv, hFF, hFF⟩) (by first | omega | (dsimp only; omega)) 1 O O
  ·
   refine Va 26 O (by omega) ?_
   refine ziB O (fun a0 => ?_) (fun a0 => ?_)
   ·
    have hx : exS f hs x s = { s with vals := zaw f.vars s.vals x.var (xV s.vals x.term), time := s.time + x.cost } := by rw [jn, if_neg (by omega), if_neg a4]; unfold qP; rw [if_pos a0]
    have hvar := ho.var (.inl a0)
    refine Vw [4, 8, 7, 1000, 10] [12] O ?_
    refine Vd [0, 1, 2, 3, 4, 5, 6, 7, 8] 0 (by kernel_rfl) O O O ?_
    refine zl8 9 0 Tryz.call171 O (by kernel_rfl) O O (fun w hI => ziu hg hsB.inv x.term ho.formed ho.ranged _ Df F1 w _ (hI.at 900 O).1 (RTm.put (Tr1 hI.k0 hk_x))) ?_
    refine zla 10 0 Tryz.call170 O (by kernel_rfl) O O (fun w hI => zmC f.vars s.vals _ x.var v1 v2 v3 _ Df F1 w (Tr1 hI.k0 hf.vars) (hI.at 900 O).1 hsB.inv.len (by omega) hvar) ?_
    rintro r w1 w2 hI1 hk12 ⟨hr1, hr2⟩ hlow
    rw [<- zmO f.vars s.vals x.var (xV s.vals x.term)] at hr1
    obtain ⟨ar, cr, rfl⟩ := zaN hr1
    have hsz : w.heap.size <= w1.heap.size := hI1.k0.size
    refine Vd [11] 1 (by kernel_rfl) O O O ?_
    refine Vl 12 O (by kernel_rfl) O ?_
    refine zjJ (by kernel_rfl) ?_
    refine Va 8 O (by omega) ?_
    refine V.del 900 O ?_
    refine V.dat 900 0 O O O (zjO (R := zF) (D := fun b => w1.heap.size <= b) zi (fun _ _ => rfl) hr1 hr2) (fun b hb _ hs => by have := hlow b hs; omega) ?_
    refine ziM (⟨i + 1, { s with vals := zaw f.vars s.vals x.var (xV s.vals x.term), time := s.time + x.cost }, ar, cr, p2, q2, _, F2⟩) (zkg O) (zkh O) (⟨hi1, by rw [hex, hx], by rw [<- hx]; exact hinv, fun b hb => .inr (by omega), hF2⟩) (by first | omega | (dsimp only; omega)) 1 O O
   ·
    refine Vs 6 O ?_
    refine ziB O (fun a1 => ?_) (fun a1 => ?_)
    ·
     have hx : exS f hs x s = { s with outs := s.outs ++ [xV s.vals x.term], time := s.time + x.cost } := by rw [jn, if_neg (by omega), if_neg a4]; unfold qP; rw [if_neg a0, if_pos a1]
     refine Vw [4, 8, 7, 1000, 10] [12] O ?_
     refine Vd [1, 2, 4, 5, 6, 7] 0 (by kernel_rfl) O O O ?_
     refine VD.bs0 0 53 0 tR31 ts3 O (by kernel_rfl) O (fun b53 => ?_)
     refine VD.apS 3 53 0 (fun x => [zi x]) (fun _ => rfl) (by simp [Value.oneCell']) zfO tu31 Tryz.el3 O (by decide) O (by kernel_rfl) O O (fun w hI => ⟨_, (hI.at 901 O).1⟩) (by omega) (by omega) (fun u53 => ?_)
     refine zl8 8 0 Tryz.call171 O (by kernel_rfl) O O (fun w hI => ziu hg hsB.inv x.term ho.formed ho.ranged _ Df F1 w _ (hI.at 900 O).1 (RTm.put (Tr1 hI.k0 hk_x))) ?_
     refine zlm 9 62 0 [(0, _)] tR31 ts3 tz3 (by decide) O (by kernel_rfl) O O (by kernel_rfl) (fun b62 => ?_)
     refine zl3 10 53 62 0 tu31 Tryz.el3 O (by decide) O (by kernel_rfl) O O O (by omega) (by omega) (fun u53 => ?_)
     refine Vd [11] 0 (by kernel_rfl) O O O ?_
     refine zl5 53 O (by omega) ?_
     rintro bo co rfl hcap_53
     refine Vl 12 O (by kernel_rfl) O ?_
     refine zjJ (by kernel_rfl) ?_
     refine Va 8 O (by omega) ?_
     refine zlh 7 O (e' := .own b7 [.slice p1 s.vals.length q1, .slice (some ⟨bo, 0, none⟩) (s.outs ++ [xV s.vals x.term]).length co, .int .i64 (s.time + x.cost)] 160) (by rw [zmg, Nat.zero_add]; rfl) ?_
     refine zlh 53 O (e' := .row 3 1 (.slice (some ⟨bo, 0, none⟩) (s.outs ++ [xV s.vals x.term]).length co) (s.outs ++ [xV s.vals x.term]).length ((s.outs ++ [xV s.vals x.term]).map zi)) (by rw [zmg, Nat.zero_add, zms, List.map_append]; rfl) ?_
     refine zkT (p := w.heap.size <= bo) (fun w hI => hI.own 53 0 O O bo O) (fun hbo => ?_)
     refine V.del 901 O ?_
     refine zno 53 901 (R := zF) zi (fun _ _ _ => rfl) O O ?_
     refine ziM (⟨i + 1, { s with outs := s.outs ++ [xV s.vals x.term], time := s.time + x.cost }, p1, q1, some ⟨bo, 0, none⟩, co, F1, _⟩) (zkg O) (zkh O) (⟨hi1, by rw [hex, hx], by rw [<- hx]; exact hinv, hF1, fun b hb => .inr (by have hb : some bo = some b := hb; cases hb; exact hbo)⟩) (by first | omega | (dsimp only; omega)) 0 O O
    ·
     refine Vs 6 O ?_
     refine ziB O (fun a5 => ?_) (fun a5 => ?_)
     ·
      have hx : exS f hs x s = { s with vals := zaw f.vars s.vals x.var (lki hs x.n.toNat), time := s.time + x.cost } := by rw [jn, if_neg (by omega), if_neg a4]; unfold qP; rw [if_neg a0, if_neg a1, if_pos a5]
      have hvar := ho.var (.inr a5)
      have hnum := ho.num a5
      obtain ⟨y, he_y, hm_y⟩ := gE_ hs (x.n.toNat) (by omega)
      obtain ⟨b_y, o_y, c_y, ha_y, _, hc_y, hR_y⟩ := hh.at he_y
      obtain rfl := hR_y
      refine zlf 2000 0 O O hc_y ?_
      have hy : lki hs x.n.toNat = y := zgv he_y
      rw [hy] at hx
      refine Vw [4, 8, 7, 1000, 10, 2000] [12] O ?_
      refine Vd [0, 1, 2, 3, 4, 5, 6, 7] 0 (by kernel_rfl) O O O ?_
      refine zl0 8 2000 tR31 ts3 O (by kernel_rfl) O ha_y (by omega) (x.n.toNat) (by omega) O ?_
      refine Vd [9] 0 (by kernel_rfl) O O O ?_
      refine zla 10 0 Tryz.call170 O (by kernel_rfl) O O (fun w hI => zmC f.vars s.vals y x.var v1 v2 v3 _ Df F1 w (Tr1 hI.k0 hf.vars) (hI.at 900 O).1 hsB.inv.len (by omega) hvar) ?_
      rintro r w1 w2 hI1 hk12 ⟨hr1, hr2⟩ hlow
      rw [<- zmO f.vars s.vals x.var y] at hr1
      obtain ⟨ar, cr, rfl⟩ := zaN hr1
      have hsz : w.heap.size <= w1.heap.size := hI1.k0.size
      refine Vd [11] 1 (by kernel_rfl) O O O ?_
      refine Vl 12 O (by kernel_rfl) O ?_
      refine zjJ (by kernel_rfl) ?_
      refine Va 8 O (by omega) ?_
      refine V.del 900 O ?_
      refine V.dat 900 0 O O O (zjO (R := zF) (D := fun b => w1.heap.size <= b) zi (fun _ _ => rfl) hr1 hr2) (fun b hb _ hs => by have := hlow b hs; omega) ?_
      refine ziM (⟨i + 1, { s with vals := zaw f.vars s.vals x.var y, time := s.time + x.cost }, ar, cr, p2, q2, _, F2⟩) (zkg O) (zkh O) (⟨hi1, by rw [hex, hx], by rw [<- hx]; exact hinv, fun b hb => .inr (by omega), hF2⟩) (by first | omega | (dsimp only; omega)) 1 O O
     ·
      refine Vs 6 O ?_
      refine ziB O (fun a3 => ?_) (fun a3 => ?_)
      ·
       have hx := jn f hs x s
       rw [if_pos a3] at hx
       rw [if_pos a3] at hnS
       refine Vs 6 O ?_
       refine zl7 Tryz.call171 O (fun w hI => ziu hg hsB.inv x.term ho.formed ho.ranged _ Df F1 w _ (hI.at 900 O).1 (RTm.put (Tr1 hI.k0 hk_x))) ?_
       refine Vs 3 O ?_
       refine ziB O (fun z => ?_) (fun z => ?_)
       ·
        rw [if_pos z] at hx
        refine Vs 6 O ?_
        refine zl9 Tryz.call141 O (fun w hI => i1 hp1 _ { s with time := s.time + x.cost } hs1' (by omega) (fun b => F1 b \/ F2 b) Df Dh w v1 v2 v3 _ _ p1 q1 p2 q2 (fun b hb => hb.elim ((hI.at 900 O).2 b) ((hI.at 901 O).2 b)) (Tr1 hI.k0 hf) (Tr1 hI.k0 hh) (Tr1 hI.k0 ht_x) ((hI.at 900 O).1.wide zc (fun _ h => .inl h)) ((hI.at 901 O).1.wide zc (fun _ h => .inr h))) ?_
        rintro r w1 w2 hI1 hk12 ⟨p1', q1', p2', q2', rfl, hr1, hr2⟩ hlow
        have hoff : ∀ b, ((F1 b \/ F2 b) \/ w1.heap.size <= b) -> b < w2.heap.size -> ¬ HS _ b := fun b hb _ => hb.elim (fun h => h.elim (hI1.offF 900 rfl b) (hI1.offF 901 rfl b)) (fun h hs => by have := hlow b hs; omega)
        have hsz : w.heap.size <= w1.heap.size := hI1.k0.size
        have hFF : ∀ b, ((F1 b \/ F2 b) \/ w1.heap.size <= b) /\ b < w2.heap.size -> D b \/ w.heap.size <= b := fun b hb => hb.1.elim (fun h => h.elim (hF1 b) (hF2 b)) (fun h => .inr (by omega))
        refine Va 10 O (by omega) ?_
        refine V.del 900 O ?_
        refine V.dat 900 0 O O O (hr1) (hoff) ?_
        refine V.del 901 O ?_
        refine V.dat 901 0 O O O (hr2) (hoff) ?_
        refine ziM (⟨i + 1, _, p1', q1', p2', q2', _, _⟩) (zkg O) (zkh O) (⟨hi1, by rw [hex, hx], by rw [<- hx]; exact hinv, hFF, hFF⟩) (by first | omega | (dsimp only; omega)) 1 O O
       ·
        rw [if_neg z] at hx
        refine Vs 6 O ?_
        refine zl9 Tryz.call141 O (fun w hI => i2 hp2 _ { s with time := s.time + x.cost } hs1' (by omega) (fun b => F1 b \/ F2 b) Df Dh w v1 v2 v3 _ _ p1 q1 p2 q2 (fun b hb => hb.elim ((hI.at 900 O).2 b) ((hI.at 901 O).2 b)) (Tr1 hI.k0 hf) (Tr1 hI.k0 hh) (Tr1 hI.k0 hs_x) ((hI.at 900 O).1.wide zc (fun _ h => .inl h)) ((hI.at 901 O).1.wide zc (fun _ h => .inr h))) ?_
        rintro r w1 w2 hI1 hk12 ⟨p1', q1', p2', q2', rfl, hr1, hr2⟩ hlow
        have hoff : ∀ b, ((F1 b \/ F2 b) \/ w1.heap.size <= b) -> b < w2.heap.size -> ¬ HS _ b := fun b hb _ => hb.elim (fun h => h.elim (hI1.offF 900 rfl b) (hI1.offF 901 rfl b)) (fun h hs => by have := hlow b hs; omega)
        have hsz : w.heap.size <= w1.heap.size := hI1.k0.size
        have hFF : ∀ b, ((F1 b \/ F2 b) \/ w1.heap.size <= b) /\ b < w2.heap.size -> D b \/ w.heap.size <= b := fun b hb => hb.1.elim (fun h => h.elim (hF1 b) (hF2 b)) (fun h => .inr (by omega))
        refine Va 10 O (by omega) ?_
        refine V.del 900 O ?_
        refine V.dat 900 0 O O O (hr1) (hoff) ?_
        refine V.del 901 O ?_
        refine V.dat 901 0 O O O (hr2) (hoff) ?_
        refine ziM (⟨i + 1, _, p1', q1', p2', q2', _, _⟩) (zkg O) (zkh O) (⟨hi1, by rw [hex, hx], by rw [<- hx]; exact hinv, hFF, hFF⟩) (by first | omega | (dsimp only; omega)) 1 O O
      ·
       refine Vs 6 O ?_
       refine ziB O (fun a6 => ?_) (fun a6 => ?_)
       ·
        have hx : exS f hs x s = { s with time := qj x.bounds (s.time + x.cost) } := by rw [jn, if_neg (by omega), if_neg a4]; unfold qP; rw [if_neg a0, if_neg a1, if_neg a5, if_pos a6]
        refine Vs 5 O ?_
        refine zl7 Tryz.call172 O (fun w hI => zmx x.bounds (s.time + x.cost) _ Df w (Tr1 hI.k0 hb_x)) ?_
        refine Va 11 O (by omega) ?_
        refine ziM (⟨i + 1, { s with time := qj x.bounds (s.time + x.cost) }, p1, q1, p2, q2, F1, F2⟩) (zkg O) (zkh O) (⟨hi1, by rw [hex, hx], by rw [<- hx]; exact hinv, hF1, hF2⟩) (by first | omega | (dsimp only; omega)) 0 O O
       ·
        have hx : exS f hs x s = { s with time := s.time + x.cost } := by rw [jn, if_neg (by omega), if_neg a4]; unfold qP; rw [if_neg a0, if_neg a1, if_neg a5, if_neg a6]
        refine Va 9 O (by omega) ?_
        refine ziM (⟨i + 1, { s with time := s.time + x.cost }, p1, q1, p2, q2, F1, F2⟩) (zkg O) (zkh O) (⟨hi1, by rw [hex, hx], by rw [<- hx]; exact hinv, hF1, hF2⟩) (by first | omega | (dsimp only; omega)) 0 O O
 ·
  have hii : i = l.length := by omega
  subst hii
  rw [zmd] at hall
  subst hall
  refine Vs 12 O ?_
  refine zj3 Tryz.results141 Tryz.isAgg160 Tryz.sizeOf160 O O O (fun w hI => ⟨_, rfl, ⟨_, _, _, _, rfl, (hI.at 900 O).1.wide zc hF1, (hI.at 901 O).1.wide zc hF2⟩, hI.k0⟩)
theorem zni (f : Fl) (r : Ins) (v1 v2 v3 s1 s2 s3 : Value) (D D1 D2 D3 : Nat -> Prop) (W : World) (hf : RFl D W f v1 v2 v3) (hi1 : SlR 1 zF D1 W s1 r.secret) (hi2 : SlR 1 zF D2 W s2 r.pub) (hi3 : SlR 1 zF D3 W s3 r.random) (hsz : zj f.body + zB f.hatches <= 1024) (hbk : zr f.body <= 1000000) :
  Calls Tryz.prog 102 #[.agg #[v1, v2, v3], .agg #[s1, s2, s3]] W (Ret fun rr w' => (∃ st, rr = .tuple #[st, .int .i64 (zP f r)] /\ (zP f r ≠ 0 -> st = .agg #[.slice none 0 0, .slice none 0 0, .int .i64 0]) /\ (zP f r = 0 -> ∃ a1 c1 a2 c2, st = sgV (qk f r) a1 c1 a2 c2 /\ SlI (fun b => W.heap.size <= b) w' a1 c1 (qk f r).vals /\ SlI (fun b => W.heap.size <= b) w' a2 c2 (qk f r).outs)) /\ Ext W w') := by
 refine zkH Tryz.func102 O Tryz.ntmps102 O (zkS ?_)
 refine Vs 2 O ?_
 refine V.box 2 O O (fun b2 => ?_)
 refine V.box 3 O O (fun b3 => ?_)
 refine V.alloc 4 Tryz.zeroValue160 O O (fun b4 => ?_)
 refine Vs 6 O ?_
 refine zl7 Tryz.call42 O (fun w hI => zab f v1 v2 v3 D w (Tr1 hI.k0 hf) hsz hbk) ?_
 refine Vs 10 O ?_
 refine ziB O (fun c0 => ?_) (fun c0 => ?_)
 ·
  have hc : zP f r = zZ f := if_pos c0
  refine Vs 2 O ?_
  refine zln [Value.slice none 0 0, Value.slice none 0 0, Value.int IntKind.i64 0] [(0, 1), (1, 1), (2, 1)] [] O O (fun _ => by kernel_rfl) ?_
  refine Vs 7 O ?_
  refine zj6 Tryz.results102 Tryz.isAgg160 Tryz.sizeOf160 O O O O (fun w hI => ⟨_, rfl, ⟨_, by rw [hc], fun _ => rfl, fun h => absurd (hc ▸ h) c0⟩, hI.k0⟩)
 ·
  have c0' : zZ f = 0 := by omega
  have vd : Valid f := ⟨c0', hsz, hbk⟩
  have hc : zP f r = zM f.vars r := if_neg c0
  have hl := vd.lens
  have hnb := vd.nb
  rw [hc]
  refine Vs 7 O ?_
  refine zl9 Tryz.call140 O (fun w hI => zmH f.vars r v1 s1 s2 s3 D D1 D2 D3 w (Tr1 hI.k0 hf.vars) (by omega) vd.kinds (Tr1 hI.k0 hi1) (Tr1 hI.k0 hi2) (Tr1 hI.k0 hi3)) ?_
  rintro rr w1 w2 hI1 hk12 ⟨u, rfl, hu1, hu2⟩ hlow
  refine Vs 14 O ?_
  refine ziB O (fun e0 => ?_) (fun e0 => ?_)
  ·
   refine Vs 2 O ?_
   refine zln [Value.slice none 0 0, Value.slice none 0 0, Value.int IntKind.i64 0] [(0, 1), (1, 1), (2, 1)] [] O O (fun _ => by kernel_rfl) ?_
   refine Vs 7 O ?_
   refine zj6 Tryz.results102 Tryz.isAgg160 Tryz.sizeOf160 O O O O (fun w hI => ⟨_, rfl, ⟨_, rfl, fun _ => rfl, fun h => absurd h e0⟩, hI.k1⟩)
  ·
   have e0' : zM f.vars r = 0 := by omega
   obtain ⟨hrow, hfr⟩ := hu2 e0'
   obtain ⟨au, cu, rfl⟩ := zaN hrow
   have hsz1 : W.heap.size <= w1.heap.size := hI1.k0.size
   refine Vs 3 O ?_
   refine V.dat 900 0 O O O (zjO (R := zF) (D := fun b => w1.heap.size <= b) zi (fun _ _ => rfl) hrow hfr) (fun b hb _ hs => by have := hlow b hs; omega) ?_
   refine Vw [2, 3, 4] [9] O ?_
   refine Vd [0, 1, 2, 4, 5, 6] 0 (by kernel_rfl) O O O ?_
   refine zlo 7 [Value.slice none 0 0, Value.slice none 0 0, Value.int IntKind.i64 0] [(0, 1), (1, 1), (2, 1)] [(0, _)] O (by kernel_rfl) O O (fun _ => by kernel_rfl) ?_
   refine zla 3 0 Tryz.call142 O (by kernel_rfl) O O (fun w hI => zmy f (xm f.vars r) v1 v2 v3 _ D _ w (Tr1 hI.k1 hf) (hI.at 900 O).1 vd.good (zbX e0') (fun h hh => ⟨(vd.hatch h hh).1, (vd.hatch h hh).2.1⟩) (by omega)) ?_
   rintro hv w3 w4 hI3 hk34 ⟨hh1, hh2⟩ hlow2
   refine zla 8 1 Tryz.call141 O (by kernel_rfl) O O (fun w hI => zna f (jp f r) vd.good (by simp [zfN]) (by omega) f.body (zba vd) 0 (jq f r) (zag e0') (by omega) (fun b => w1.heap.size <= b /\ b < w2.heap.size) D (fun b => w3.heap.size <= b) w v1 v2 v3 hv _ au cu none 0 (fun b hb => by have : w2.heap.size <= w.heap.size := hI.k1.size; omega) (Tr1 hI.k2 hf) (zjO (R := zF) zi (fun _ _ => rfl) (zN hh1 hI.k0 (fun g hg hs => by have := hlow2 g hs; have := hh2 g hg; omega)) hh2) (Tr1 hI.k2 hf.body) (hI.at 900 O).1 SlR.nil) ?_
   rintro rs w5 w6 hI5 hk56 ⟨a1, c1, a2, c2, rfl, hr1, hr2⟩ hlow3
   refine Vl 9 O (by kernel_rfl) O ?_
   refine Vx [10] (by kernel_rfl) O ?_
   refine zjJ (by kernel_rfl) ?_
   refine Vs 2 O ?_
   have hsz5 : w1.heap.size <= w5.heap.size := by have h1 := hk12.size; have h2 : w2.heap.size <= w5.heap.size := hI5.k1.size; omega
   have hoff : ∀ b, ((w1.heap.size <= b /\ b < w2.heap.size) \/ w5.heap.size <= b) -> b < w6.heap.size -> ¬ HS _ b := fun b hb _ => hb.elim (hI5.offF 900 rfl b) (fun h hs => by have := hlow3 b hs; omega)
   refine V.dat 901 0 O O O (hr1) (hoff) ?_
   refine V.dat 902 0 O O O (hr2) (hoff) ?_
   have hFF : ∀ b, ((w1.heap.size <= b /\ b < w2.heap.size) \/ w5.heap.size <= b) /\ b < w6.heap.size -> W.heap.size <= b := fun b hb => by omega
   refine zj6 Tryz.results102 Tryz.isAgg160 Tryz.sizeOf160 O O O O (fun w hI => ⟨_, rfl, ⟨_, by rw [e0']; rfl, fun h => absurd e0' h, fun _ => ⟨_, _, _, _, rfl, (hI.at 901 O).1.wide zc hFF, (hI.at 902 O).1.wide zc hFF⟩⟩, hI.k3⟩)
theorem zn2 (f : Fl) (r : Ins) (v1 v2 v3 s1 s2 s3 : Value) (D D1 D2 D3 : Nat -> Prop) (W : World) (hf : RFl D W f v1 v2 v3) (hi1 : SlR 1 zF D1 W s1 r.secret) (hi2 : SlR 1 zF D2 W s2 r.pub) (hi3 : SlR 1 zF D3 W s3 r.random) (hsz : zj f.body + zB f.hatches <= 1024) (hbk : zr f.body <= 1000000) :
  Calls Tryz.prog 75 #[.agg #[v1, v2, v3], .agg #[s1, s2, s3]] W (Ret fun rr w' => (∃ ov t, rr = .tuple #[.agg #[ov, .int .i64 t], .int .i64 (zP f r)] /\ (zP f r ≠ 0 -> ov = .slice none 0 0 /\ t = 0) /\ (zP f r = 0 -> t = (qk f r).time /\ SlR 1 zF (fun b => W.heap.size <= b) w' ov (qk f r).outs)) /\ Ext W w') := by
 refine zkH Tryz.func75 O Tryz.ntmps75 O (zkS ?_)
 refine Vs 2 O ?_
 refine V.box 2 O O (fun b2 => ?_)
 refine V.box 3 O O (fun b3 => ?_)
 refine V.alloc 4 tz60 O O (fun b4 => ?_)
 refine Vs 7 O ?_
 refine zl9 Tryz.call102 O (fun w hI => zni f r v1 v2 v3 s1 s2 s3 D D1 D2 D3 w (Tr1 hI.k0 hf) (Tr1 hI.k0 hi1) (Tr1 hI.k0 hi2) (Tr1 hI.k0 hi3) hsz hbk) ?_
 rintro rr w1 w2 hI1 hk12 ⟨st, rfl, hu1, hu2⟩ hlow
 have hsz1 : W.heap.size <= w1.heap.size := hI1.k0.size
 by_cases c0 : zP f r = 0
 ·
  obtain ⟨a1, c1, a2, c2, rfl, hr1, hr2⟩ := hu2 c0
  rw [c0] at *
  refine Vs 3 O ?_
  refine V.alloc 6 Tryz.zeroValue160 O O (fun b6 => ?_)
  refine Vs 11 O ?_
  refine ziB O (fun e => ?_) (fun e => ?_)
  . exact absurd O e
  ·
   refine V.dat 901 0 O O O (hr2) (fun b hb _ hs => by have := hlow b hs; omega) ?_
   refine Vs 8 O ?_
   refine zln [Value.slice none 0 0, Value.int IntKind.i64 0] [(0, 1), (1, 1)] [(0, _), (1, _)] O O (fun _ => by kernel_rfl) ?_
   refine Vs 5 O ?_
   refine zj6 Tryz.results75 tg60 ts60 O O O O (fun w hI => ⟨_, rfl, ⟨_, _, rfl, fun h => absurd O h, fun _ => ⟨rfl, (hI.at 901 O).1.wide zc (fun b hb => by omega)⟩⟩, hI.k1⟩)
 ·
  obtain rfl := hu1 c0
  refine Vs 3 O ?_
  refine V.alloc 1006 Tryz.zeroValue160 O O (fun b1006 => ?_)
  refine Vs 11 O ?_
  refine ziB O (fun e => ?_) (fun e => ?_)
  ·
   refine Vs 2 O ?_
   refine zln [Value.slice none 0 0, Value.int IntKind.i64 0] [(0, 1), (1, 1)] [] O O (fun _ => by kernel_rfl) ?_
   refine Vs 7 O ?_
   refine zj6 Tryz.results75 tg60 ts60 O O O O (fun w hI => ⟨_, rfl, ⟨_, _, rfl, fun _ => ⟨rfl, rfl⟩, fun h => absurd h c0⟩, hI.k1⟩)
  . omega
def zmS (a b : Int) : Int := if a < b then -1 else if b < a then 1 else 0
theorem zmz : ∀ (i : Nat) (xs ys : List Int), xs.take i = ys.take i -> i <= xs.length -> i <= ys.length -> jr xs ys = jr (xs.drop i) (ys.drop i)
 | 0, _, _, _, _, _ => rfl
 | i + 1, [], _, _, h, _ => by simp at h
 | i + 1, _ :: _, [], _, _, h => by simp at h
 | i + 1, x :: xs, y :: ys, h, h1, h2 => by
  simp only [List.take_succ_cons, List.cons.injEq] at h
  obtain ⟨rfl, h⟩ := h
  simp only [List.length_cons] at h1 h2
  simp only [List.drop_succ_cons]
  rw [<- zmz i xs ys h (by omega) (by omega)]
  simp [jr]
theorem zmo (a b : Int) (W : World) : Calls Tryz.prog 73 #[.int .i64 a, .int .i64 b] W (Ret fun r w' => r = .int .i64 (zmS a b) /\ Ext W w') := by
 refine zkH Tryz.func73 O Tryz.ntmps73 O (zkS ?_)
 refine Vs 13 O ?_
 refine ziB O (fun h1 => ?_) (fun h1 => ?_)
 ·
  refine Vs 7 O ?_
  refine ziV Tryz.results73 O (fun w hI => ⟨_, rfl, by unfold zmS; rw [if_pos h1], hI.k0⟩)
 ·
  refine Vs 7 O ?_
  refine zl7 Tryz.call101 O (fun w hI => zit (decide (b < a)) w) ?_
  refine Vs 4 O ?_
  refine ziV Tryz.results73 O (fun w hI => ⟨_, rfl, by unfold zmS; rw [if_neg h1]; by_cases h : b < a <;> simp [h], hI.k0⟩)
theorem znb {xs ys X Y : List Int} {t t' p q : Int} (h : jr xs ys = jr (p :: X) (q :: Y)) (hn : p ≠ q) : yu (xs, t) (ys, t') = zmS p q := by
 have e : jr (p :: X) (q :: Y) = zmS p q := by
  unfold zmS
  simp only [jr]
  split
  . rfl
  ·
   split
   . rfl
   . omega
 have n : zmS p q ≠ 0 := by
  unfold zmS
  split
  . decide
  ·
   split
   . decide
   . omega
 unfold yu
 dsimp only
 rw [h, e, if_pos n]
theorem zmD {xs ys : List Int} {t t' : Int} {i : Nat} (h : jr xs ys = jr (xs.drop i) (ys.drop i)) (h1 : i <= xs.length) (h2 : i <= ys.length) (hi : xs.length <= i \/ ys.length <= i) (hn : (xs.length : Int) ≠ ys.length) : yu (xs, t) (ys, t') = zmS xs.length ys.length := by
 rcases hi with hi | hi
 ·
  obtain ⟨y, hy⟩ : ∃ y, ys[i]? = some y := ⟨_, zm8 (by omega)⟩
  rw [List.drop_of_length_le hi, qx hy] at h
  unfold yu zmS
  dsimp only
  rw [h, if_pos (show (xs.length : Int) < ys.length by omega)]
  rfl
 ·
  obtain ⟨x, hx⟩ : ∃ x, xs[i]? = some x := ⟨_, zm8 (by omega)⟩
  rw [List.drop_of_length_le hi, qx hx] at h
  unfold yu zmS
  dsimp only
  rw [h, if_neg (show ¬ (xs.length : Int) < ys.length by omega), if_pos (show (ys.length : Int) < xs.length by omega)]
  rfl
theorem znc {xs ys : List Int} {t t' : Int} {i : Nat} (h : jr xs ys = jr (xs.drop i) (ys.drop i)) (hi : xs.length <= i) (hj : ys.length <= i) : yu (xs, t) (ys, t') = zmS t t' := by
 rw [List.drop_of_length_le hi, List.drop_of_length_le hj] at h
 unfold yu zmS
 dsimp only
 rw [h]
 rfl
theorem ziv (x y : List Int × Int) (u v : Value) (D D' : Nat -> Prop) (W : World) (hx : SlR 1 zF D W u x.1) (hy : SlR 1 zF D' W v y.1) :
  Calls Tryz.prog 39 #[.agg #[u, .int .i64 x.2], .agg #[v, .int .i64 y.2]] W (Ret fun r w' => r = .int .i64 (yu x y) /\ Ext W w') := by
 obtain ⟨xs, t⟩ := x
 obtain ⟨ys, t'⟩ := y
 dsimp only at hx hy
 obtain ⟨ax, cx, rfl⟩ := hx.form
 obtain ⟨ay, cy, rfl⟩ := hy.form
 have hmx := hx.max
 have hmy := hy.max
 refine zkH Tryz.func39 O Tryz.ntmps39 O (zkS ?_)
 refine Vs 2 O ?_
 refine V.box 2 O O (fun b2 => ?_)
 refine V.box 3 O O (fun b3 => ?_)
 refine Vs 10 O ?_
 refine zli (σ := Nat) [2, 3] [2, 3] [2, 3] O (fun e i => (5, .int .i64 i) :: e) (fun e i => e) (fun i => (i <= xs.length /\ i <= ys.length) /\ xs.take i = ys.take i) (fun i => xs.length - i) (0) (zkg O) (zkh O) (fun _ => rfl) (fun _ => rfl) (fun _ => rfl) (⟨⟨Nat.zero_le _, Nat.zero_le _⟩, rfl⟩) ?_
 rintro i ⟨⟨hi, hj⟩, he⟩
 refine Vs 9 O ?_
 refine zkt 11 O (fun b1 => ?_) (fun b1 => ?_)
 ·
  refine Vs 8 O ?_
  refine ziB O (fun b2 => ?_) (fun b2 => ?_)
  ·
   refine Vs 5 O ?_
   obtain ⟨p, he_p, hm_p⟩ := gE_ xs (i) (by omega)
   obtain ⟨b_p, o_p, c_p, ha_p, _, hc_p, hR_p⟩ := hx.at he_p
   obtain rfl := hR_p
   refine zlf 1000 0 O O hc_p ?_
   obtain ⟨q, he_q, hm_q⟩ := gE_ ys (i) (by omega)
   obtain ⟨b_q, o_q, c_q, ha_q, _, hc_q, hR_q⟩ := hy.at he_q
   obtain rfl := hR_q
   refine zlf 2000 0 O O hc_q ?_
   have hdx := qx he_p
   have hdy := qx he_q
   have hcc := zmz i xs ys he hi hj
   rw [hdx, hdy] at hcc
   refine Vq (by kernel_rfl) ?_
   refine Vs 3 O ?_
   refine zl1 1000 tR31 ts3 O ha_p (by omega) (_) (rfl) O ?_
   refine Vs 4 O ?_
   refine zl1 2000 tR31 ts3 O ha_q (by omega) (_) (rfl) O ?_
   refine Vs 4 O ?_
   refine ziB O (fun b3 => ?_) (fun b3 => ?_)
   ·
    refine Vs 1 O ?_
    refine Vw [2, 3, 1000, 2000] [] O ?_
    refine Vd [0, 1, 2, 5, 6, 7] 0 (by kernel_rfl) O O O ?_
    refine zl0 3 1000 tR31 ts3 O (by kernel_rfl) O ha_p (by omega) (_) (rfl) O ?_
    refine Vd [4] 0 (by kernel_rfl) O O O ?_
    refine zl0 8 2000 tR31 ts3 O (by kernel_rfl) O ha_q (by omega) (_) (rfl) O ?_
    refine Vd [9] 0 (by kernel_rfl) O O O ?_
    refine zl8 10 0 Tryz.call73 O (by kernel_rfl) O O (fun w hI => zmo p q w) ?_
    refine Vd [11] 0 (by kernel_rfl) O O O ?_
    refine zjI (by kernel_rfl) ?_
    refine Vs 7 O ?_
    refine ziV Tryz.results39 O (fun w hI => ⟨_, rfl, by rw [znb hcc b3], hI.k0⟩)
   ·
    refine Va 8 O (by omega) ?_
    refine ziM (i + 1) (zkg O) (zkh O) (⟨⟨by omega, by omega⟩, by rw [List.take_add_one, List.take_add_one, he, he_p, he_q, Decidable.not_not.1 b3]⟩) (by first | omega | (dsimp only; omega)) 0 O O
  ·
   have hcc := zmz i xs ys he hi hj
   refine Vs 17 O ?_
   refine ziB O (fun b3 => ?_) (fun b3 => ?_)
   ·
    refine Vs 8 O ?_
    refine zl7 Tryz.call73 O (fun w hI => zmo xs.length ys.length w) ?_
    refine Vs 5 O ?_
    refine ziV Tryz.results39 O (fun w hI => ⟨_, rfl, by rw [zmD hcc hi hj (by omega) b3], hI.k0⟩)
   . exact absurd (by omega) b3
 ·
  have hcc := zmz i xs ys he hi hj
  refine Vs 26 O ?_
  refine ziB O (fun b3 => ?_) (fun b3 => ?_)
  ·
   refine Vs 8 O ?_
   refine zl7 Tryz.call73 O (fun w hI => zmo xs.length ys.length w) ?_
   refine Vs 5 O ?_
   refine ziV Tryz.results39 O (fun w hI => ⟨_, rfl, by rw [zmD hcc hi hj (by omega) b3], hI.k0⟩)
  ·
   refine Vs 8 O ?_
   refine zl7 Tryz.call73 O (fun w hI => zmo t t' w) ?_
   refine Vs 4 O ?_
   refine ziV Tryz.results39 O (fun w hI => ⟨_, rfl, by rw [znc hcc (by omega) (by omega)], hI.k0⟩)
def zmk : List Vr -> Int
 | [] => 1
 | v :: vs => (v.high - v.low + 1) * zmk vs
theorem zml : ∀ {vs : List Vr}, (∀ v ∈ vs, 1 <= v.high - v.low + 1) -> 1 <= zmk vs
 | [], _ => Int.le_refl _
 | v :: vs, h => by
  have h1 := h v (zmc ..)
  have h2 := zml (vs := vs) fun x hx => h x (zmb _ hx)
  have : (1 : Int) * 1 <= (v.high - v.low + 1) * zmk vs := Int.mul_le_mul h1 h2 (by omega) (by omega)
  exact this
theorem zmp {k : Int} : ∀ (vs : List Vr) (n m : Int), (∀ v ∈ vs, v.kind = k) -> yf k vs n = some m -> m = n * zmk vs
 | [], n, m, _, h => by simp only [yf, Option.some.injEq] at h; rw [<- h, zmk, Int.mul_one]
 | v :: vs, n, m, hk, h => by
  simp only [yf] at h
  rw [if_pos (hk v (zmc ..))] at h
  split at h
  . cases h
  . rw [zmp vs _ m (fun x hx => hk x (zmb _ hx)) h, zmk, Int.mul_assoc]
theorem zmT {k : Int} {vs : List Vr} {m : Int} (h : zp k vs = some m) : m = zmk (ze k vs) := by
 unfold zp at h
 rw [<- yZ] at h
 rw [zmp (ze k vs) _ _ (fun v hv => of_decide_eq_true (List.mem_filter.1 hv).2) h, Int.one_mul]
theorem zmq : ∀ {vs : List Vr} {r : Int}, 0 <= r -> (∀ v ∈ vs, 1 <= v.high - v.low + 1) -> (yy vs r).2 = r / zmk vs
 | [], r, _, _ => by simp [yy, zmk]
 | v :: vs, r, h0, h => by
  have h1 := h v (zmc ..)
  have hp := zml (vs := vs) fun x hx => h x (zmb _ hx)
  rw [yy]
  simp only
  rw [zmq h0 fun x hx => h x (zmb _ hx), Int.tdiv_eq_ediv_of_nonneg (Int.ediv_nonneg h0 (by omega)), Int.ediv_ediv, if_neg (by omega), zmk, Int.mul_comm (v.high - v.low + 1), Int.sub_zero]
theorem zmt {r : Int} (h0 : 0 <= r) : ∀ {vs : List Vr} {i : Nat} {x : Vr}, (∀ v ∈ vs, 1 <= v.high - v.low + 1) -> vs[i]? = some x -> (yy vs r).1[i]? = some (x.low + (r / zmk (vs.drop (i + 1))).tmod (x.high - x.low + 1))
 | [], _, _, _, hx => by simp at hx
 | v :: vs, 0, x, h, hx => by
  simp only [List.getElem?_cons_zero, Option.some.injEq] at hx
  subst hx
  simp only [yy, List.getElem?_cons_zero, List.drop_succ_cons, List.drop_zero]
  rw [zmq h0 fun x hx => h x (zmb _ hx)]
 | v :: vs, i + 1, x, h, hx => by
  simp only [List.getElem?_cons_succ] at hx
  simp only [yy, List.getElem?_cons_succ, List.drop_succ_cons]
  exact zmt h0 (fun x hx => h x (zmb _ hx)) hx
theorem zmi (vs : List Vr) (k : Int) (vv : Value) (D : Nat -> Prop) (W : World) (hk : 0 <= k /\ k <= 3) (hg : ∀ v ∈ vs, yn (v.low, v.high)) (hlen : vs.length <= 1000000) (hvs : SlR 5 RVr D W vv vs) :
  Calls Tryz.prog 66 #[vv, .int .i64 k] W (Ret fun r w' => r = .tuple #[.int .i64 ((zp k vs).getD 0), .int .i64 (if (zp k vs).isSome then 0 else 4)] /\ Ext W w') := by
 have hgo : ∀ v ∈ ze k vs, yn (v.low, v.high) := fun v hv => hg v (List.mem_filter.1 hv).1
 have hsp : yf k (ze k vs) 1 = zp k vs := yZ k vs 1
 have hall : ∀ v ∈ ze k vs, v.kind = k := fun v hv => by simpa using (List.mem_filter.1 hv).2
 have hol := zme (xe k vs) hlen
 refine zkH Tryz.func66 O Tryz.ntmps66 O (zkS ?_)
 refine Vs 8 O ?_
 refine zlj (σ := Unit) [0, 1] [] [] O (fun e u => (23, .bool (decide (¬ (0 <= k /\ k <= 3)))) :: e) (fun e u => e) (fun u => True) (fun _ => rfl) (fun _ => rfl) ?_ ?_
 ·
  refine Vs 4 O ?_
  refine zkt 12 O (fun k1_ => ?_) (fun k1_ => ?_)
  ·
   refine Vs 4 O ?_
   refine zkt 16 O (fun k2_ => ?_) (fun k2_ => ?_)
   ·
    refine Vs 4 O ?_
    refine zkt 20 O (fun k3_ => ?_) (fun k3_ => ?_)
    ·
     refine Vs 4 O ?_
     refine ziR (()) (Sub.cons (by first | exact xp (by omega) | exact xq (by omega) | exact xr (by omega)) (zkg O)) (zkh O) (trivial) 0 O O
    ·
     refine Vs 4 O ?_
     refine ziR (()) (Sub.cons (by first | exact xp (by omega) | exact xq (by omega) | exact xr (by omega)) (zkg O)) (zkh O) (trivial) 0 O O
   ·
    refine Vs 8 O ?_
    refine ziR (()) (Sub.cons (by first | exact xp (by omega) | exact xq (by omega) | exact xr (by omega)) (zkg O)) (zkh O) (trivial) 0 O O
  ·
   refine Vs 12 O ?_
   refine ziR (()) (Sub.cons (by first | exact xp (by omega) | exact xq (by omega) | exact xr (by omega)) (zkg O)) (zkh O) (trivial) 0 O O
 rintro u _
 refine Vs 1 O ?_
 refine ziB O (fun h0 => ?_) (fun h0 => ?_)
 . exact absurd hk h0
 ·
  refine Vs 6 O ?_
  refine zl9 Tryz.call72 O (fun w hI => zfZ vs k vv D w (Tr1 hI.k0 hvs) hlen) ?_
  rintro l w1 w2 hI1 hk12 hos hlow
  obtain ⟨al, cl, rfl⟩ := hos.form
  have hml := hos.max
  refine Vs 10 O ?_
  refine zli (σ := Nat) [6] [] [] O (fun e i => (7, .int .i64 i) :: e) (fun e i => e) (fun i => i <= (ze k vs).length) (fun i => (ze k vs).length - i) (0) (zkg O) (zkh O) (fun _ => rfl) (fun _ => rfl) (fun _ => rfl) (Nat.zero_le _) ?_
  rintro i hi
  refine Vs 9 O ?_
  refine ziB O (fun hlt => ?_) (fun hlt => ?_)
  ·
   refine Vs 5 O ?_
   obtain ⟨x, he_x, hm_x⟩ := gE_ (ze k vs) (i) (by omega)
   obtain ⟨b_x, o_x, c_x, ha_x, hd_x, hc_x, hR_x⟩ := hos.atD he_x
   obtain rfl := hR_x
   refine zlg 1000 0 O O (fun h_ => by have h1_ := hlow _ h_; have h2_ := hd_x; first | omega | exact h1_ h2_) hc_x ?_
   have hgx := hgo x hm_x
   unfold yn at hgx
   dsimp only at hgx
   refine Vq (by kernel_rfl) ?_
   refine Vs 2 O ?_
   refine zl1 1000 tR52 ts120 O ha_x (by omega) (_) (rfl) O ?_
   refine Vs 4 O ?_
   refine zl1 1000 tR52 ts120 O ha_x (by omega) (_) (rfl) O ?_
   refine Vs 4 O ?_
   refine zkt 44 O (fun b1 => ?_) (fun b1 => ?_)
   . exact absurd b1 (by omega)
   ·
    refine Vs 2 O ?_
    refine zl1 1000 tR52 ts120 O ha_x (by omega) (_) (rfl) O ?_
    refine Vs 5 O ?_
    refine zkt 52 O (fun b2 => ?_) (fun b2 => ?_)
    . exact absurd b2 (by omega)
    ·
     refine Vs 2 O ?_
     refine zl1 1000 tR52 ts120 O ha_x (by omega) (_) (rfl) O ?_
     refine Vs 6 O ?_
     refine ziB O (fun b3 => ?_) (fun b3 => ?_)
     . exact absurd b3 (by omega)
     ·
      refine Va 8 O (by omega) ?_
      refine ziM (i + 1) (zkg O) (zkh O) (by omega) (by first | omega | (dsimp only; omega)) 0 O O
  ·
   refine Vs 17 O ?_
   refine zli (σ := Nat × Int) [6] [] [] O (fun e ⟨j, n⟩ => (8, .int .i64 n) :: (9, .int .i64 j) :: e) (fun e ⟨j, n⟩ => e) (fun ⟨j, n⟩ => j <= (ze k vs).length /\ yf k ((ze k vs).take j) 1 = some n) (fun ⟨j, n⟩ => (ze k vs).length - j) ((0, 1)) (zkg O) (zkh O) (fun _ => rfl) (fun _ => rfl) (fun _ => rfl) (⟨Nat.zero_le _, rfl⟩) ?_
   rintro ⟨j, n⟩ ⟨hj, hs⟩
   show V _ _ _ _ _ ((8, .int .i64 n) :: (9, .int .i64 j) :: _) _ (_) _
   have hn := yq k ((ze k vs).take j) 1 n (fun v hv => hgo v (List.mem_of_mem_take hv)) (by omega) (by omega) hs
   refine Vs 9 O ?_
   refine ziB O (fun hlt2 => ?_) (fun hlt2 => ?_)
   ·
    refine Vs 5 O ?_
    obtain ⟨x, he_x, hm_x⟩ := gE_ (ze k vs) (j) (by omega)
    obtain ⟨b_x, o_x, c_x, ha_x, hd_x, hc_x, hR_x⟩ := hos.atD he_x
    obtain rfl := hR_x
    refine zlg 2000 0 O O (fun h_ => by have h1_ := hlow _ h_; have h2_ := hd_x; first | omega | exact h1_ h2_) hc_x ?_
    have hgx := hgo x hm_x
    unfold yn at hgx
    dsimp only at hgx
    have hp := zeq (n := n) (s := x.high - x.low + 1) hn.1 hn.2 (by omega) (by omega)
    have hst : yf k ((ze k vs).take (j + 1)) 1 = if 4096 < n * (x.high - x.low + 1) then none else some (n * (x.high - x.low + 1)) := by
     rw [zg he_x, zU, hs]; simp [yf, hall x hm_x]
    refine Vq (by kernel_rfl) ?_
    refine Vs 3 O ?_
    refine zl1 2000 tR52 ts120 O ha_x (by omega) (_) (rfl) O ?_
    refine Vs 4 O ?_
    refine zl1 2000 tR52 ts120 O ha_x (by omega) (_) (rfl) O ?_
    refine Va 14 O (by omega) ?_
    refine ziB O (fun hb => ?_) (fun hb => ?_)
    ·
     rw [if_pos hb] at hst
     have hnone : zp k vs = none := by
      rw [<- hsp, <- List.take_append_drop (j + 1) (ze k vs), zU, hst]; rfl
     refine Vs 12 O ?_
     refine ziY tr66 O O (fun w hI => ⟨_, rfl, by rw [hnone]; rfl, hI.k1⟩)
    ·
     rw [if_neg hb] at hst
     refine Va 8 O (by omega) ?_
     refine ziM ((j + 1, n * (x.high - x.low + 1))) (zkg O) (zkh O) (⟨by omega, hst⟩) (by first | omega | (dsimp only; omega)) 0 O O
   ·
    have : j = (ze k vs).length := by omega
    subst this
    rw [zmd, hsp] at hs
    refine Vs 13 O ?_
    refine ziY tr66 O O (fun w hI => ⟨_, rfl, by rw [hs]; rfl, hI.k1⟩)
theorem zmU (vs : List Vr) (k : Int) (r : List Int) (vv rv : Value) (D D' : Nat -> Prop) (W : World) (hk : 0 <= k /\ k <= 3) (hg : ∀ v ∈ vs, yn (v.low, v.high)) (hlen : vs.length <= 1000000) (hvs : SlR 5 RVr D W vv vs) (hr : SlR 1 zF D' W rv r) :
  Calls Tryz.prog 38 #[vv, .int .i64 k, rv] W (Ret fun rr w' => rr = .tuple #[.int .i64 (xT k vs r).1, .int .i64 (xT k vs r).2] /\ Ext W w') := by
 obtain ⟨ar, cr, rfl⟩ := hr.form
 have hmr := hr.max
 refine zkI Tryz.func38 O Tryz.ntmps38 O (zkS ?_)
 refine Vs 10 O ?_
 refine zl7 Tryz.call66 O (fun w hI => zmi vs k vv D w hk hg hlen (Tr1 hI.k0 hvs)) ?_
 refine Vs 14 O ?_
 refine ziB O (fun c0 => ?_) (fun c0 => ?_)
 ·
  have hc : ¬ (zp k vs).isSome = true := fun h => c0 (if_pos h)
  refine Vs 9 O ?_
  refine ziY Tryz.results38 O O (fun w hI => ⟨_, rfl, by unfold xT; rw [if_neg hc, if_neg hc], hI.k0⟩)
 ·
  have hc : (zp k vs).isSome = true := by
   cases h : (zp k vs).isSome with
   | true => rfl
   | false => rw [h] at c0; exact absurd (by decide) c0
  refine Vs 6 O ?_
  refine zl9 Tryz.call72 O (fun w hI => zfZ vs k vv D w (Tr1 hI.k0 hvs) hlen) ?_
  rintro l w1 w2 hI1 hk12 hos hlow
  obtain ⟨al, cl, rfl⟩ := hos.form
  have hml := hos.max
  refine Vs 13 O ?_
  refine ziB O (fun c1 => ?_) (fun c1 => ?_)
  ·
   refine Vs 8 O ?_
   refine ziY Tryz.results38 O O (fun w hI => ⟨_, rfl, by unfold xT; rw [if_pos hc, if_neg (by omega)], hI.k1⟩)
  ·
   have hel : r.length = (ze k vs).length := by omega
   refine Vs 14 O ?_
   refine zli (σ := Nat × Int) [2, 10] [] [] O (fun e ⟨i, n⟩ => (11, .int .i64 n) :: (12, .int .i64 i) :: e) (fun e ⟨i, n⟩ => e) (fun ⟨i, n⟩ => i <= (ze k vs).length /\ zcN ((ze k vs).drop i) (r.drop i) n = zcN (ze k vs) r 0 /\ ∃ m, yf k ((ze k vs).take i) 1 = some m /\ 0 <= n /\ n < m) (fun ⟨i, n⟩ => (ze k vs).length - i) ((0, 0)) (zkg O) (zkh O) (fun _ => rfl) (fun _ => rfl) (fun _ => rfl) (⟨Nat.zero_le _, rfl, 1, rfl, by omega, by omega⟩) ?_
   rintro ⟨i, n⟩ ⟨hi, hrk, m, hm, hn0, hn1⟩
   show V _ _ _ _ _ ((11, .int .i64 n) :: (12, .int .i64 i) :: _) _ (_) _
   refine Vs 9 O ?_
   refine ziB O (fun hlt => ?_) (fun hlt => ?_)
   ·
    refine Vs 6 O ?_
    obtain ⟨x, he_x, hm_x⟩ := gE_ (ze k vs) (i) (by omega)
    obtain ⟨b_x, o_x, c_x, ha_x, hd_x, hc_x, hR_x⟩ := hos.atD he_x
    obtain rfl := hR_x
    refine zlg 1000 0 O O (fun h_ => by have h1_ := hlow _ h_; have h2_ := hd_x; first | omega | exact h1_ h2_) hc_x ?_
    obtain ⟨y, he_y, hm_y⟩ := gE_ r (i) (by omega)
    obtain ⟨b_y, o_y, c_y, ha_y, _, hc_y, hR_y⟩ := hr.at he_y
    obtain rfl := hR_y
    refine zlf 2000 1 O O hc_y ?_
    have hgx := hg x (xC hm_x)
    unfold yn at hgx
    dsimp only at hgx
    have hdx := qx he_x
    have hdy := qx he_y
    refine Vq (by kernel_rfl) ?_
    refine Vs 2 O ?_
    refine zl1 2000 tR31 ts3 O ha_y (by omega) (_) (rfl) O ?_
    refine Vs 3 O ?_
    refine zl1 1000 tR52 ts120 O ha_x (by omega) (_) (rfl) O ?_
    refine Vs 4 O ?_
    refine zkt 46 O (fun b1 => ?_) (fun b1 => ?_)
    ·
     refine Vs 27 O ?_
     refine ziY Tryz.results38 O O (fun w hI => ⟨_, rfl, by unfold xT; rw [if_pos hc, if_pos hel, <- hrk, hdx, hdy]; unfold zcN; rw [if_pos (by omega)], hI.k1⟩)
    ·
     refine Vs 2 O ?_
     refine zl1 2000 tR31 ts3 O ha_y (by omega) (_) (rfl) O ?_
     refine Vs 3 O ?_
     refine zl1 1000 tR52 ts120 O ha_x (by omega) (_) (rfl) O ?_
     refine Vs 6 O ?_
     refine ziB O (fun d1 => ?_) (fun d1 => ?_)
     ·
      refine Vs 13 O ?_
      refine ziY Tryz.results38 O O (fun w hI => ⟨_, rfl, by unfold xT; rw [if_pos hc, if_pos hel, <- hrk, hdx, hdy]; unfold zcN; rw [if_pos (by omega)], hI.k1⟩)
     ·
      obtain ⟨m', hm'⟩ := zdR hc (i + 1)
      have hp := yq k ((ze k vs).take (i + 1)) 1 m' (fun v hv => hg v (xC (List.mem_of_mem_take hv))) (by omega) (by omega) hm'
      have hst := hm'
      rw [zg he_x, zU, hm] at hst
      have hkx : x.kind = k := of_decide_eq_true (List.mem_filter.1 hm_x).2
      have hmm : m * (x.high - x.low + 1) = m' := by
       simp only [Option.bind, yf] at hst
       rw [if_pos hkx] at hst
       split at hst
       . cases hst
       . exact Option.some.inj hst
      have hrs := zeN (s := x.high - x.low + 1) (x := y) (l := x.low) hn0 hn1 (by omega) (by omega) (by omega)
      refine Vs 2 O ?_
      refine Vq (by kernel_rfl) ?_
      refine Vs 3 O ?_
      refine zl1 1000 tR52 ts120 O ha_x (by omega) (_) (rfl) O ?_
      refine Vs 4 O ?_
      refine zl1 1000 tR52 ts120 O ha_x (by omega) (_) (rfl) O ?_
      refine Va 7 O (by omega) ?_
      refine zl1 2000 tR31 ts3 O ha_y (by omega) (_) (rfl) O ?_
      refine Va 4 O (by omega) ?_
      refine zl1 1000 tR52 ts120 O ha_x (by omega) (_) (rfl) O ?_
      refine Va 12 O (by omega) ?_
      refine ziM ((i + 1, n * (x.high - x.low + 1) + y - x.low)) (zkg O) (zkh O) (⟨by omega, by rw [<- hrk, hdx, hdy]; conv => rhs; unfold zcN; rw [if_neg (by omega)], m', hm', by omega, by omega⟩) (by first | omega | (dsimp only; omega)) 0 O O
   ·
    have : i = (ze k vs).length := by omega
    subst this
    rw [List.drop_length, <- hel, List.drop_length] at hrk
    refine Vs 13 O ?_
    refine ziY Tryz.results38 O O (fun w hI => ⟨_, rfl, by unfold xT; rw [if_pos hc, if_pos hel, <- hrk]; rfl, hI.k1⟩)
theorem zmh (vs : List Vr) (k r : Int) (vv : Value) (D : Nat -> Prop) (W : World) (hk : 0 <= k /\ k <= 3) (hg : ∀ v ∈ vs, yn (v.low, v.high)) (hlen : vs.length <= 1000000) (hvs : SlR 5 RVr D W vv vs) :
  Calls Tryz.prog 71 #[vv, .int .i64 k, .int .i64 r] W (Ret fun rr w' => (∃ u, rr = .tuple #[u, .int .i64 (yH k vs r)] /\ (yH k vs r ≠ 0 -> u = .slice none 0 0) /\ (yH k vs r = 0 -> SlR 1 zF (fun b => W.heap.size <= b) w' u (yy (ze k vs) r).1)) /\ Ext W w') := by
 have hgo : ∀ v ∈ ze k vs, yn (v.low, v.high) := fun v hv => hg v (List.mem_filter.1 hv).1
 have hgs : ∀ v ∈ ze k vs, 1 <= v.high - v.low + 1 := fun v hv => by have := hgo v hv; unfold yn at this; dsimp only at this; omega
 have hol := zme (xe k vs) hlen
 have hul := qS (ze k vs) r
 refine zkI Tryz.func71 O Tryz.ntmps71 O (zkS ?_)
 refine Vs 10 O ?_
 refine zl7 Tryz.call66 O (fun w hI => zmi vs k vv D w hk hg hlen (Tr1 hI.k0 hvs)) ?_
 refine Vs 14 O ?_
 refine ziB O (fun c0 => ?_) (fun c0 => ?_)
 ·
  have hc : ¬ (zp k vs).isSome = true := fun h => c0 (if_pos h)
  have hC : yH k vs r = 4 := by unfold yH; rw [if_neg hc]
  refine Vs 9 O ?_
  refine ziY Tryz.results71 O O (fun w hI => ⟨_, rfl, ⟨_, by rw [hC, if_neg hc], fun _ => rfl, fun h => by rw [hC] at h; cases h⟩, hI.k0⟩)
 ·
  have hc : (zp k vs).isSome = true := by
   cases h : (zp k vs).isSome with
   | true => rfl
   | false => rw [h] at c0; exact absurd (by decide) c0
  have hN := zfW hg hc
  obtain ⟨m, hm⟩ := Option.isSome_iff_exists.1 hc
  have hmp := zmT hm
  have hU : yH k vs r = if r < 0 \/ m <= r then 3 else 0 := by unfold yH; rw [if_pos hc, hm]; rfl
  rw [hm] at hN
  simp only [Option.getD_some] at hN
  rw [hm]
  simp only [Option.getD_some]
  refine Vs 8 O ?_
  refine zkt 25 O (fun r0 => ?_) (fun r0 => ?_)
  ·
   have hC : yH k vs r = 3 := by rw [hU, if_pos (.inl r0)]
   refine Vs 15 O ?_
   refine ziY Tryz.results71 O O (fun w hI => ⟨_, rfl, ⟨_, by rw [hC], fun _ => rfl, fun h => by rw [hC] at h; cases h⟩, hI.k0⟩)
  ·
   refine Vs 6 O ?_
   refine ziB O (fun r1 => ?_) (fun r1 => ?_)
   ·
    have hC : yH k vs r = 3 := by rw [hU, if_pos (.inr r1)]
    refine Vs 8 O ?_
    refine ziY Tryz.results71 O O (fun w hI => ⟨_, rfl, ⟨_, by rw [hC], fun _ => rfl, fun h => by rw [hC] at h; cases h⟩, hI.k0⟩)
   ·
    have hC : yH k vs r = 0 := by rw [hU, if_neg (by omega)]
    refine Vs 6 O ?_
    refine zl9 Tryz.call72 O (fun w hI => zfZ vs k vv D w (Tr1 hI.k0 hvs) hlen) ?_
    rintro l w1 w2 hI1 hk12 hos hlow
    obtain ⟨al, cl, rfl⟩ := hos.form
    have hml := hos.max
    refine Vs 5 O ?_
    refine V.bs0 33 tR31 ts3 O (fun b33 => ?_)
    refine Vs 10 O ?_
    refine zli (σ := Nat × Int × Value) [2, 10] [] [] O (fun e ⟨i, n, v⟩ => (12, .int .i64 i) :: (8, .int .i64 n) :: (11, v) :: e) (fun e ⟨i, n, v⟩ => (33, .row 3 1 v i (((yy (ze k vs) r).1.take i).map zi)) :: e) (fun ⟨i, n, v⟩ => i <= (ze k vs).length /\ n = zmk ((ze k vs).drop i) /\ n <= 4096) (fun ⟨i, n, v⟩ => (ze k vs).length - i) ((0, m, .slice (some ⟨b33, 0, none⟩) 0 0)) (zkg O) (zkh O) (fun _ => rfl) (fun _ => rfl) (fun _ => rfl) (⟨Nat.zero_le _, hmp, hN⟩) ?_
    rintro ⟨i, n, v⟩ ⟨hi, hn, hn4⟩
    show V _ _ _ _ _ ((12, .int .i64 i) :: (8, .int .i64 n) :: (11, v) :: _) _ ((33, .row 3 1 v i (((yy (ze k vs) r).1.take i).map zi)) :: _) _
    refine Vs 9 O ?_
    refine ziB O (fun hlt => ?_) (fun hlt => ?_)
    ·
     refine Vs 5 O ?_
     obtain ⟨x, he_x, hm_x⟩ := gE_ (ze k vs) (i) (by omega)
     obtain ⟨b_x, o_x, c_x, ha_x, hd_x, hc_x, hR_x⟩ := hos.atD he_x
     obtain rfl := hR_x
     refine zlg 1000 0 O O (fun h_ => by have h1_ := hlow _ h_; have h2_ := hd_x; first | omega | exact h1_ h2_) hc_x ?_
     have hgx := hgo x hm_x
     unfold yn at hgx
     dsimp only at hgx
     have hdx := qx he_x
     have hp1 := zml (vs := (ze k vs).drop (i + 1)) fun y hy => hgs y (List.mem_of_mem_drop hy)
     have hn' : n.tdiv (x.high - x.low + 1) = zmk ((ze k vs).drop (i + 1)) := by
      rw [hn, hdx, zmk, Int.mul_tdiv_cancel_left _ (by omega)]
     have hn1 : 1 <= n := by rw [hn]; exact zml fun y hy => hgs y (List.mem_of_mem_drop hy)
     have hle := Int.tdiv_le_self (x.high - x.low + 1) (show 0 <= n by omega)
     have hq0 := Int.tdiv_nonneg (show 0 <= r by omega) (show 0 <= n.tdiv (x.high - x.low + 1) by omega)
     have hq1 := Int.tdiv_le_self (n.tdiv (x.high - x.low + 1)) (show 0 <= r by omega)
     have hr0 := Int.tmod_nonneg (x.high - x.low + 1) hq0
     have hr1 := Int.tmod_lt_of_pos (r.tdiv (n.tdiv (x.high - x.low + 1))) (show 0 < x.high - x.low + 1 by omega)
     have zm := zmt (r := r) (by omega) hgs he_x
     rw [<- Int.tdiv_eq_ediv_of_nonneg (by omega), <- hn'] at zm
     refine Vq (by kernel_rfl) ?_
     refine Vs 2 O ?_
     refine zl1 1000 tR52 ts120 O ha_x (by omega) (_) (rfl) O ?_
     refine Vs 4 O ?_
     refine zl1 1000 tR52 ts120 O ha_x (by omega) (_) (rfl) O ?_
     refine Va 11 O (by omega) ?_
     refine zkx O (fun w hI => R.quo O O (by omega) (by omega)) ?_
     refine Vs 3 O ?_
     refine Vw [1000] [] O ?_
     refine Vd [0, 1, 2, 6, 7, 9] 0 (by kernel_rfl) O O O ?_
     refine zl0 3 1000 tR52 ts120 O (by kernel_rfl) O ha_x (by omega) (_) (rfl) O ?_
     refine Vd [4, 5] 0 (by kernel_rfl) O O O ?_
     refine zlp 8 O (by kernel_rfl) O (fun w => R.quo O O (by omega) (by omega)) ?_
     refine zlp 10 O (by kernel_rfl) O (fun w => R.rem O O (by omega) (by omega)) ?_
     refine Vb [11] 0 (by kernel_rfl) O O O (by omega) ?_
     refine zlm 12 67 0 [(0, _)] tR31 ts3 tz3 (by decide) O (by kernel_rfl) O O (by kernel_rfl) (fun b67 => ?_)
     refine zl3 13 33 67 0 tu31 Tryz.el3 O (by decide) O (by kernel_rfl) O O O (by omega) (by omega) (fun u33 => ?_)
     refine Vd [14] 0 (by kernel_rfl) O O O ?_
     refine zjI (by kernel_rfl) ?_
     refine Vs 2 O ?_
     refine zlh 33 O (e' := .row 3 1 u33 (i + 1) (((yy (ze k vs) r).1.take (i + 1)).map zi)) (by rw [List.take_add_one, zm, List.map_append]; rfl) ?_
     refine Va 5 O (by omega) ?_
     refine ziM (⟨i + 1, n.tdiv (x.high - x.low + 1), u33⟩) (zkg O) (zkh O) (⟨by omega, hn', by omega⟩) (by first | omega | (dsimp only; omega)) 0 O O
    ·
     have : i = (ze k vs).length := by omega
     subst this
     refine zlh 33 O (e' := .row 3 1 v (yy (ze k vs) r).1.length ((yy (ze k vs) r).1.map zi)) (by rw [<- hul, zmd]) ?_
     refine Vs 13 O ?_
     refine ziY Tryz.results71 O O (fun w hI => ⟨_, rfl, ⟨_, by rw [hC], fun h => absurd hC h, fun _ => zjO zi (fun _ _ => rfl) (hI.at 33 O) (fun b hb => hI.own 33 1 O O b hb)⟩, hI.k1⟩)
def zn8 (vs : List Vr) (s p r : Int) : Int := if yH 1 vs s ≠ 0 then yH 1 vs s else if yH 2 vs p ≠ 0 then yH 2 vs p else yH 3 vs r
theorem zmE (vs : List Vr) (s p r : Int) (vv : Value) (D : Nat -> Prop) (W : World) (hg : ∀ v ∈ vs, yn (v.low, v.high)) (hlen : vs.length <= 1000000) (hvs : SlR 5 RVr D W vv vs) :
  Calls Tryz.prog 74 #[vv, .int .i64 s, .int .i64 p, .int .i64 r] W (Ret fun rr w' => (∃ a b c, rr = .tuple #[.agg #[a, b, c], .int .i64 (zn8 vs s p r)] /\ (zn8 vs s p r ≠ 0 -> a = .slice none 0 0 /\ b = .slice none 0 0 /\ c = .slice none 0 0) /\ (zn8 vs s p r = 0 -> SlR 1 zF (fun q => W.heap.size <= q) w' a (yy (ze 1 vs) s).1 /\ SlR 1 zF (fun q => W.heap.size <= q) w' b (yy (ze 2 vs) p).1 /\ SlR 1 zF (fun q => W.heap.size <= q) w' c (yy (ze 3 vs) r).1)) /\ Ext W w') := by
 refine zkJ Tryz.func74 O Tryz.ntmps74 O (zkS ?_)
 refine Vs 2 O ?_
 refine V.alloc 8 Tryz.zeroValue123 O O (fun b8 => ?_)
 refine Vs 7 O ?_
 refine zl9 Tryz.call71 O (fun w hI => zmh vs 1 s vv D w (by decide) hg hlen (Tr1 hI.k0 hvs)) ?_
 rintro r1 w1 w2 hI1 hk12 ⟨a, rfl, ha0, ha1⟩ hlow
 refine Vs 14 O ?_
 refine ziB O (fun c1 => ?_) (fun c1 => ?_)
 ·
  have hc : zn8 vs s p r = yH 1 vs s := if_pos c1
  refine Vs 2 O ?_
  refine zln [Value.slice none 0 0, Value.slice none 0 0, Value.slice none 0 0] [(0, 1), (1, 1), (2, 1)] [] O O (fun _ => by kernel_rfl) ?_
  refine Vs 7 O ?_
  refine zj6 Tryz.results74 Tryz.isAgg123 Tryz.sizeOf123 O O O O (fun w hI => ⟨_, rfl, ⟨_, _, _, by rw [hc], fun _ => ⟨rfl, rfl, rfl⟩, fun h => absurd (hc ▸ h) c1⟩, hI.k1⟩)
 ·
  have ha := ha1 (Decidable.not_not.1 c1)
  obtain ⟨aa, ca, rfl⟩ := ha.form
  refine Vs 6 O ?_
  refine zl9 Tryz.call71 O (fun w hI => zmh vs 2 p vv D w (by decide) hg hlen (Tr1 hI.k1 hvs)) ?_
  rintro r2 w3 w4 hI3 hk34 ⟨b, rfl, hb0, hb1⟩ hlow2
  refine Vs 14 O ?_
  refine ziB O (fun c2 => ?_) (fun c2 => ?_)
  ·
   have hc : zn8 vs s p r = yH 2 vs p := by unfold zn8; rw [if_neg c1, if_pos c2]
   refine Vs 2 O ?_
   refine zln [Value.slice none 0 0, Value.slice none 0 0, Value.slice none 0 0] [(0, 1), (1, 1), (2, 1)] [] O O (fun _ => by kernel_rfl) ?_
   refine Vs 7 O ?_
   refine zj6 Tryz.results74 Tryz.isAgg123 Tryz.sizeOf123 O O O O (fun w hI => ⟨_, rfl, ⟨_, _, _, by rw [hc], fun _ => ⟨rfl, rfl, rfl⟩, fun h => absurd (hc ▸ h) c2⟩, hI.k2⟩)
  ·
   have hb := hb1 (Decidable.not_not.1 c2)
   obtain ⟨ab, cb, rfl⟩ := hb.form
   refine Vs 6 O ?_
   refine zl9 Tryz.call71 O (fun w hI => zmh vs 3 r vv D w (by decide) hg hlen (Tr1 hI.k2 hvs)) ?_
   rintro r3 w5 w6 hI5 hk56 ⟨c, rfl, hc0, hc1⟩ hlow3
   have hcc : zn8 vs s p r = yH 3 vs r := by unfold zn8; rw [if_neg c1, if_neg c2]
   refine Vs 14 O ?_
   refine ziB O (fun c3 => ?_) (fun c3 => ?_)
   ·
    refine Vs 2 O ?_
    refine zln [Value.slice none 0 0, Value.slice none 0 0, Value.slice none 0 0] [(0, 1), (1, 1), (2, 1)] [] O O (fun _ => by kernel_rfl) ?_
    refine Vs 7 O ?_
    refine zj6 Tryz.results74 Tryz.isAgg123 Tryz.sizeOf123 O O O O (fun w hI => ⟨_, rfl, ⟨_, _, _, by rw [hcc], fun _ => ⟨rfl, rfl, rfl⟩, fun h => absurd (hcc ▸ h) c3⟩, hI.k3⟩)
   ·
    have hc := hc1 (Decidable.not_not.1 c3)
    obtain ⟨ac, cc, rfl⟩ := hc.form
    have e1 : W.heap.size <= w1.heap.size := hI1.k0.size
    have e3 : W.heap.size <= w3.heap.size := hI3.k1.size
    have e5 : W.heap.size <= w5.heap.size := hI5.k2.size
    refine V.dat 900 2 O O O (ha) (fun q hq _ hs => by have := hlow q hs; omega) ?_
    refine V.dat 901 1 O O O (hb) (fun q hq _ hs => by have := hlow2 q hs; omega) ?_
    refine V.dat 902 0 O O O (hc) (fun q hq _ hs => by have := hlow3 q hs; omega) ?_
    refine Vs 7 O ?_
    refine zln [Value.slice none 0 0, Value.slice none 0 0, Value.slice none 0 0] [(0, 1), (1, 1), (2, 1)] [(0, _), (1, _), (2, _)] O O (fun _ => by kernel_rfl) ?_
    refine Vs 5 O ?_
    refine zj6 Tryz.results74 Tryz.isAgg123 Tryz.sizeOf123 O O O O (fun w hI => ⟨_, rfl, ⟨_, _, _, by rw [hcc, Decidable.not_not.1 c3], fun h => absurd (hcc ▸ Decidable.not_not.1 c3) h, fun _ => ⟨(hI.at 900 O).1.wide zc (fun q hq => by omega), (hI.at 901 O).1.wide zc (fun q hq => by omega), (hI.at 902 O).1.wide zc (fun q hq => by omega)⟩⟩, hI.k3⟩)
theorem zn3 {k : Int} {vs : List Vr} (hg : ∀ v ∈ vs, yn (v.low, v.high)) (h : (zp k vs).isSome = true) : yH k vs 0 = 0 := by
 obtain ⟨m, hm⟩ := Option.isSome_iff_exists.1 h
 have := yq k vs 1 m hg (by omega) (by omega) hm
 unfold yH
 rw [if_pos h, hm]
 simp only [Option.getD_some]
 rw [if_neg (by omega)]
theorem zix (f : Fl) (vd : Valid f) (hr : ze 3 f.vars = []) (hs2 : (zp 2 f.vars).isSome = true) (pub : List Int) (s : Int) (v1 v2 v3 pv : Value) (D D' : Nat -> Prop) (W : World) (hf : RFl D W f v1 v2 v3) (hp : SlR 1 zF D' W pv pub) :
  Calls Tryz.prog 40 #[.agg #[v1, v2, v3], pv, .int .i64 s] W (Ret fun r w' => (∃ ov, r = .agg #[ov, .int .i64 (obN f pub s).2] /\ SlR 1 zF (fun b => W.heap.size <= b) w' ov (obN f pub s).1) /\ Ext W w') := by
 have hl := vd.lens
 have hs3 : zp 3 f.vars = some 1 := by unfold zp; rw [<- yZ, hr]; rfl
 have hi : zn8 f.vars s 0 0 = yH 1 f.vars s := by
  unfold zn8
  rw [zn3 vd.good hs2, zn3 vd.good (by rw [hs3]; rfl)]
  by_cases h : yH 1 f.vars s = 0
  . rw [if_neg (not_not_intro h), if_neg (by decide), h]
  . rw [if_pos h]
 obtain ⟨ap, cp, rfl⟩ := hp.form
 refine zkI Tryz.func40 O Tryz.ntmps40 O (zkS ?_)
 refine Vs 2 O ?_
 refine V.box 3 O O (fun b3 => ?_)
 refine V.alloc 6 tz60 O O (fun b6 => ?_)
 refine Vs 7 O ?_
 refine zl9 Tryz.call74 O (fun w hI => zmE f.vars s 0 0 v1 D w vd.good (by omega) (Tr1 hI.k0 hf.vars)) ?_
 rintro r1 w1 w2 hI1 hk12 ⟨a, b, c, rfl, hu0, hu1⟩ hlow
 have hsec : SlR 1 zF (fun b => w1.heap.size <= b) w2 a (zh3 f s) /\ SlR 1 zF (fun b => w1.heap.size <= b) w2 c [] /\ ∃ (ab : Option Addr) (nb cb : Nat), b = .slice ab nb cb := by
  unfold zh3
  by_cases h : yH 1 f.vars s = 0
  ·
   obtain ⟨h1, h2, h3⟩ := hu1 (hi.trans h)
   obtain ⟨ab, cb, hb⟩ := h2.form
   rw [if_pos h]
   refine ⟨h1, ?_, _, _, _, hb⟩
   rw [hr] at h3
   exact h3
  ·
   obtain ⟨rfl, rfl, rfl⟩ := hu0 (fun h' => h (hi.symm.trans h'))
   rw [if_neg h]
   exact ⟨SlR.nil, SlR.nil, _, _, _, rfl⟩
 obtain ⟨hsec, hrnd, ab, nb, cb, rfl⟩ := hsec
 obtain ⟨au, cu, rfl⟩ := hsec.form
 obtain ⟨ac, cc, rfl⟩ := hrnd.form
 have e1 : W.heap.size <= w1.heap.size := hI1.k0.size
 refine Vs 3 O ?_
 refine V.alloc 7 Tryz.zeroValue123 O O (fun b7 => ?_)
 refine Vs 12 O ?_
 refine V.dat 900 0 O O O (hsec) (fun q hq _ hs => by have := hlow q hs; omega) ?_
 refine V.dat 902 0 O O O (hrnd) (fun q hq _ hs => by have := hlow q hs; omega) ?_
 refine Vs 3 O ?_
 refine zl9 Tryz.call75 O (fun w hI => zn2 f (qU f pub s) v1 v2 v3 _ _ _ D _ D' _ w (Tr1 hI.k1 hf) (hI.at 900 O).1 (Tr1 hI.k1 hp) (hI.at 902 O).1 vd.size vd.bulk) ?_
 rintro r2 w3 w4 hI3 hk34 ⟨ov, t, rfl, h1, h2⟩ hlow2
 obtain ⟨rfl, hov⟩ := zhL h1 h2
 obtain ⟨ao, co, rfl⟩ := hov.form
 have e3 : W.heap.size <= w3.heap.size := hI3.k1.size
 refine Vs 3 O ?_
 refine V.alloc 9 tz60 O O (fun b9 => ?_)
 refine Vs 11 O ?_
 refine V.dat 901 0 O O O (hov) (fun q hq _ hs => by have := hlow2 q hs; omega) ?_
 refine zj3 Tryz.results40 tg60 ts60 O O O (fun w hI => ⟨_, rfl, ⟨_, rfl, (hI.at 901 O).1.wide zc (fun q hq => by omega)⟩, hI.k2⟩)
end Go.Proofs.YtbkhagigkglgoaaGreatDoor
namespace Go.GL
section
variable {P : Program} {n : Nat} {Q : Exit -> Act -> World -> Prop} {ks : List Fr} {env : Env} {A : Tgs} {H Hs : Hp} {Bs B0 : ya} {ops : Array Oper} {L : List Nat} {fuel : Nat} {listed : Array Bool}
variable {d : Nat} {ty : TypeId} {ps : String} {aft : Array Edge}
theorem znp (i i2 k2 j : Nat) (kk : List Nat) {f : FuncId} {xs : Array Operand} {ts : Array TypeId} {vs : List Value} {α : Type} {Hn : α -> Hp} {Φ : Value -> α -> Prop} (A1 : Tgs) {e2 ty2 : TypeId} {ps2 : String} {aft2 : Array Edge} {d2 : Nat} {z : Value} {cs : List Value} (hf : ∀ args w, (callFunc f args).run P w = .ok (.enter f args) w)
  (hi : (ops[i]?, ops[i2]?) = (some ⟨some d, .call ⟨.value (.func f), xs, ts⟩, ty, ps, aft, none⟩, some ⟨some d2, .alloc e2, ty2, ps2, aft2, none⟩)) (hr : Region.ready .any ops listed = [i, i2]) (hn : (Nat.blt d n, Nat.blt d2 n, qA env xs.toList, (zm H k2).isNone, qs (Hs.map (·.1))) = (true, true, some vs, true, true)) (hB : Bs.drop j = B0)
  (hHs : ∀ x, Hs.map (fun y => zm (Hn x ++ yJ kk H) y.1) = Hs.map (fun y => some y.2))
  (hA1 : ∀ r x, A1.map (fun p => zdA ((d, r) :: env) p.1) = A1.map (fun p => kf (Hn x ++ yJ kk H) p.2)) (hA2 : ∀ x, A1.all (fun p => (kf (Hn x ++ yJ kk H) p.2).isSome) = true)
  (hz : ∀ w, (zeroValue e2).run P w = .ok z w) (hzc : z.cells = cs.toArray)
  (hc : ∀ w, VI Bs H w -> Calls P f vs.toArray w (Ret fun r w' => ∃ x, Φ r x /\ Hands H kk (Hn x) w w'))
  (h : ∀ r x, Φ r x -> VD P n Q ks ops Hs B0 L fuel (listed.setIfInBounds i true) ((d, r) :: env) A1 (Hn x ++ yJ kk H) Bs)
  (h2 : ∀ b, VD P n Q ks ops Hs B0 L fuel (listed.setIfInBounds i2 true) ((d2, .pointer (some ⟨b, 0, none⟩)) :: env) ((d2, some (k2, 0)) :: A) ((k2, .own b cs e2) :: H) Bs) : VD P n Q ks ops Hs B0 L (fuel + 1) listed env A H Bs := by
 simp only [Prod.mk.injEq, Option.isNone_iff_eq_none] at hi hn
 subst hB
 obtain ⟨hi1, hi2⟩ := hi
 obtain ⟨hb1, hb2, hv, hk2, hu0⟩ := hn
 intro hH hA w hI
 refine znn i i2 (R := fun r w' => ∃ x, Φ r x /\ Hands H kk (Hn x) w w') (Rj := fun r w' => ∃ b, r = .pointer (some ⟨b, 0, none⟩) /\ New w cs e2 b w') hi1 hi2 hr O O hb1 O O hb2 (.inr ⟨f, _, F.call hf (yg hv), hc w hI⟩) (.inl (M.alloc hz hzc)) ?_ ?_
 ·
  rintro r w1 ⟨x, hP, hh⟩
  have hI' := hI.hands hh
  exact ⟨fun _ => (hI'.drop j).pick (zkh (hHs x)) hu0, h r x hP (zkh (hHs x)) (zki (hA1 r x) (hA2 x)) w1 hI'⟩
 ·
  rintro _ w1 ⟨b, rfl, hb, hs, hB, hk⟩
  have hI1 : VI Bs ((k2, .own b cs e2) :: H) w1 := hI.new hk k2 hB trivial (fun _ h => h) (fun q hq => by have hq : q = b := hq; omega)
  have hH1 : Has Hs ((k2, .own b cs e2) :: H) := hH.new hk2
  refine ⟨fun _ => (hI1.drop j).pick hH1 hu0, h2 b hH1 ((hA.new hk2).push fun k' off hg => ?_) w1 hI1⟩
  cases hg
  exact ⟨b, 0, by simp [qD, zm, Nat.beq_refl], rfl⟩
theorem znj {H : Hp} {f : FuncId} {args : Array Value} {w : World} {v : Value} (hc : Calls P f args w (Ret fun r w' => r = v /\ Ext w w')) : Calls P f args w (Ret fun r w' => ∃ _x : Unit, r = v /\ Hands H [] [] w w') := by
 refine hc.mono ?_
 rintro _ w' ⟨r, rfl, rfl, hk⟩
 exact ⟨_, rfl, (), rfl, hk.mono (fun q _ h => h.elim), (fun x hx => by cases hx), List.Pairwise.nil⟩
end
end Go.GL
namespace Go.Proofs.YtbkhagigkglgoaaGreatDoor
open Go.GL
theorem zmV (x o : Ob) (u ov : Value) (b : Nat) (D D' : Nat -> Prop) (W : World) (hx : SlR 1 zF D W u x.1) (ho : SlR 1 zF D' W ov o.1) (hB : Cells W b 0 [ov, .int .i64 o.2]) :
  Calls Tryz.prog 92 #[.agg #[u, .int .i64 x.2], .pointer (some ⟨b, 0, none⟩)] W (Ret fun r w' => r = .bool (decide (x = o)) /\ Ext W w') := by
 obtain ⟨a1, c1, rfl⟩ := hx.form
 obtain ⟨a2, c2, rfl⟩ := ho.form
 refine zkH Tryz.func92 O Tryz.ntmps92 O (zkS ?_)
 refine zlg 900 0 O O (fun h => h) hB ?_
 refine zkY 1 900 0 O O ?_
 refine Vs 2 O ?_
 refine V.box 2 O O (fun b2 => ?_)
 refine Vs 7 O ?_
 refine zl7 Tryz.call39 O (fun w hI => ziv x o _ _ D D' w (Tr1 hI.k0 hx) (Tr1 hI.k0 ho)) ?_
 refine Vs 5 O ?_
 refine ziV Tryz.results92 O (fun w hI => ⟨_, rfl, by rw [decide_eq_decide.2 (cmpOb_iff (x := x) (y := o))], hI.k0⟩)
theorem zmF (l : List Ob) (o : Ob) (v ov : Value) (D D' : Nat -> Prop) (W : World) (hl : SlR 2 ROb D W v l) (ho : SlR 1 zF D' W ov o.1) :
  Calls Tryz.prog 60 #[v, .agg #[ov, .int .i64 o.2]] W (Ret fun r w' => r = .int .i64 (zh5 l o) /\ Ext W w') := by
 obtain ⟨a2, c2, rfl⟩ := ho.form
 refine zkH Tryz.func60 O Tryz.ntmps60 O (zkS ?_)
 refine Vs 2 O ?_
 refine V.box 3 O O (fun b3 => ?_)
 refine Vs 7 O ?_
 refine zl7 Tryz.call50 O (fun w hI => zg5 (fun x => decide (x = o)) l v D _ _ w Tryz.call92 (Tr1 hI.k0 hl) (fun x u w' hE _ hd => zmV x o u _ b3 D D' w' hd (Tr1 ((hI.k0).trans hE (fun _ _ h => h)) ho) (hE.cells (Blk.cells (hI.at 3 O)) (fun h => h)))) ?_
 refine Vs 4 O ?_
 refine ziV Tryz.results60 O (fun w hI => ⟨_, rfl, by rw [zhd], hI.k0⟩)
theorem idxOb_neg {l : List Ob} {o : Ob} : zh5 l o < 0 ↔ o ∉ l := by
 unfold zh5
 split
 . rename_i h; exact ⟨fun h' => by omega, fun h' => absurd h h'⟩
 . rename_i h; exact ⟨fun _ => h, fun _ => by omega⟩
theorem ziw (f : Fl) (vd : Valid f) (hr3 : ze 3 f.vars = []) (hs2 : (zp 2 f.vars).isSome = true) (pub rs : List Int) (v1 v2 v3 pv rv : Value) (D D' D2 : Nat -> Prop) (W : World) (hlen : rs.length <= 5000) (hf : RFl D W f v1 v2 v3) (hp : SlR 1 zF D' W pv pub) (hr : SlR 1 zF D2 W rv rs) :
  Calls Tryz.prog 35 #[.agg #[v1, v2, v3], pv, rv] W (Ret fun r w' => SlR 2 ROb (fun b => W.heap.size <= b) w' r (zg0 f pub rs) /\ Ext W w') := by
 obtain ⟨ap, cp, rfl⟩ := hp.form
 obtain ⟨ar, cr, rfl⟩ := hr.form
 refine zkI Tryz.func35 O Tryz.ntmps35 O (zkS ?_)
 refine Vs 2 O ?_
 refine V.box 3 O O (fun b3 => ?_)
 refine Vs 5 O ?_
 refine V.bs0 11 tR76 ts60 O (fun b11 => ?_)
 refine Vs 11 O ?_
 refine zlq 11 (e' := OwP 60 2 ROb (fun _ => False) (.slice (some ⟨b11, 0, none⟩) 0 0) []) O (fun w hI => ⟨⟨[], hI.at 11 rfl, fun i x h => by simp at h⟩, fun _ h => h.elim⟩) OwP.loc (fun _ h => h) (fun q hq => hq.elim id False.elim) ?_
 refine Vs 1 O ?_
 refine zli (σ := Nat × Value × (Nat -> Prop) × List Ob) [1, 3, 12, 13] [3] [3] O (fun e ⟨i, v, F, l⟩ => (14, .int .i64 i) :: (7, v) :: e) (fun e ⟨i, v, F, l⟩ => (11, OwP 60 2 ROb F v l) :: e) (fun ⟨i, v, F, l⟩ => i <= rs.length /\ l.Nodup /\ l.length <= i /\ (∀ o, o ∈ l ↔ o ∈ (rs.take i).map (obN f pub))) (fun ⟨i, v, F, l⟩ => rs.length - i) ((0, .slice (some ⟨b11, 0, none⟩) 0 0, fun _ => False, [])) (zkg O) (zkh O) (fun _ => rfl) (fun _ => rfl) (fun _ => rfl) (⟨Nat.zero_le _, List.Pairwise.nil, Nat.zero_le _, fun o => by simp⟩) ?_
 rintro ⟨i, v, F, l⟩ ⟨hi, hn, hli, hmem⟩
 show V _ _ _ _ _ ((14, .int .i64 i) :: (7, v) :: _) _ ((11, OwP 60 2 ROb F v l) :: _) _
 refine Vs 6 O ?_
 refine ziB O (fun hlt => ?_) (fun hlt => ?_)
 ·
  refine Vs 6 O ?_
  obtain ⟨x, he_x, hm_x⟩ := gE_ rs (i) (by omega)
  obtain ⟨b_x, o_x, c_x, ha_x, _, hc_x, hR_x⟩ := hr.at he_x
  obtain rfl := hR_x
  refine zlf 1000 0 O O hc_x ?_
  refine zkZ 1000 tR31 ts3 O ha_x (by omega) (_) (rfl) O ?_
  have htk : ∀ o, o ∈ (rs.take (i + 1)).map (obN f pub) ↔ o ∈ (rs.take i).map (obN f pub) \/ o = obN f pub x := fun o => by rw [zg he_x, List.map_append]; exact zbl
  refine Vs 9 O ?_
  refine zlw [] (Hn := fun y : Option Addr × Nat × (Nat -> Prop) => [(905, obE (obN f pub x) y)]) [(3, some (3, 0)), (16, some (1000, 0))] Tryz.call40 O (fun _ _ => rfl) (fun _ => rfl) (fun w hI => zha 905 (zix f vd hr3 hs2 pub x v1 v2 v3 _ D D' w (Tr1 hI.k0 hf) (Tr1 hI.k0 hp))) ?_
  rintro _ ⟨ao, co, G⟩ rfl
  refine V.alloc 10 tz60 O O (fun b10 => ?_)
  refine Vs 7 O ?_
  refine zl7 Tryz.call60 O (fun w hI => zmF l (obN f pub x) v _ _ G w ((show OwH _ _ _ _ _ _ _ from hI.at 11 O).sl (by omega) (fun q hq => hq)) (zf0 (hI.at 905 O))) ?_
  refine Vs 3 O ?_
  refine ziB O (fun c => ?_) (fun c => ?_)
  ·
   have c := idxOb_neg.1 c
   refine Vs 3 O ?_
   refine zll 28 [(0, _)] tR76 ts60 tz60 (by decide) O O (by kernel_rfl) (fun b28 => ?_)
   refine zlE [11, 905] (Hn := fun u => [(11, OwP 60 2 ROb (fun q => F q \/ G q) u (l ++ [obN f pub x]))]) (u := fun u => u) [(3, some (3, 0)), (10, some (10, 0)), (16, some (1000, 0))] O (fun _ => rfl) (fun _ => rfl) (fun w hI => zlG 11 905 28 hI O O O O Tryz.underlying76 Tryz.el60 O (by decide) O O O (fun D x cs h => zgy D x cs h) (by omega) (by omega)) (fun u11 => ?_)
   refine Va 8 O (by omega) ?_
   refine ziM (⟨i + 1, u11, fun q => F q \/ G q, l ++ [obN f pub x]⟩) (zkg O) (zkh O) (⟨by omega, List.nodup_append.2 ⟨hn, by simp, fun a ha b hb e => c (by rw [List.mem_singleton] at hb; rw [<- hb, <- e]; exact ha)⟩, by rw [zmg, List.length_singleton]; omega, fun o => by rw [zbl, hmem, htk]⟩) (by first | omega | (dsimp only; omega)) 0 O O
  ·
   have c := Decidable.not_not.1 (fun h => c (idxOb_neg.2 h))
   refine Va 7 O (by omega) ?_
   refine ziM (⟨i + 1, v, F, l⟩) (zkg O) (zkh O) (⟨by omega, hn, by omega, fun o => by rw [htk, <- hmem]; exact ⟨.inl, fun h => h.elim id (fun h => by rw [h]; exact c)⟩⟩) (by first | omega | (dsimp only; omega)) 0 O O
 ·
  obtain rfl : i = rs.length := by omega
  rw [zmd] at hmem
  refine Vs 8 O ?_
  refine zlb 11 (E := fun l' => OwP 60 2 ROb F v l') Tryz.call67 O (fun _ => ⟨OwP.loc, fun _ h => h⟩) (fun w hI => zhb (k := 11) hI O (by omega) Tryz.call39 (fun x y u v D D' W hx hy => ziv x y u v D D' W hx hy)) ?_
  rintro _ l' ⟨rfl, hperm, hpw⟩
  have hres := zc3 hperm hn hpw hmem
  refine Vs 9 O ?_
  refine ziV Tryz.results35 O (fun w hI => ⟨_, rfl, by show SlR 2 ROb _ _ _ (zcO _); rw [<- hres]; exact (show OwH _ _ _ _ _ _ _ from hI.at 11 O).sl (by omega) (fun q hq => hI.own 11 0 O O q hq), hI.k0⟩)
theorem zn4 (f : Fl) (hlen : f.vars.length <= 1000000) (v1 v2 v3 : Value) (D : Nat -> Prop) (W : World) (hf : RFl D W f v1 v2 v3) : Calls Tryz.prog 43 #[.agg #[v1, v2, v3]] W (Ret fun r w' => r = .bool (decide (ze 3 f.vars ≠ [])) /\ Ext W w') := by
 refine zkG Tryz.func43 O Tryz.ntmps43 O (zkS ?_)
 refine Vs 2 O ?_
 refine V.box 1 O O (fun b1 => ?_)
 refine Vs 7 O ?_
 refine zl9 Tryz.call72 O (fun w hI => zfZ f.vars 3 v1 D w (Tr1 hI.k0 hf.vars) hlen) ?_
 rintro l w1 w2 hI1 hk12 hos hlow
 obtain ⟨al, cl, rfl⟩ := hos.form
 refine Vs 6 O ?_
 refine ziV Tryz.results43 O (fun w hI => ⟨_, rfl, by rw [decide_eq_decide.2 (show (0 : Int) < ((ze 3 f.vars).length : Int) ↔ ze 3 f.vars ≠ [] by rw [<- List.length_pos_iff]; omega)], hI.k1⟩)
theorem zmW (f : Fl) (hz : SzOk f) (pub : List Int) (v1 v2 v3 pv : Value) (D D' : Nat -> Prop) (W : World) (hf : RFl D W f v1 v2 v3) (hp : SlR 1 zF D' W pv pub) : Calls Tryz.prog 32 #[.agg #[v1, v2, v3], pv] W (Ret fun r w' => r = .int .i64 (zc6 f pub) /\ Ext W w') := by
 refine zkH Tryz.func32 O Tryz.ntmps32 O (zkS ?_)
 refine Vs 2 O ?_
 refine V.box 2 O O (fun b2 => ?_)
 refine Vs 7 O ?_
 refine zl7 Tryz.call42 O (fun w hI => zab f v1 v2 v3 D w (Tr1 hI.k0 hf) hz.size hz.bulk) ?_
 refine Vs 9 O ?_
 refine ziB O (fun c0 => ?_) (fun c0 => ?_)
 ·
  have ha : zcq f = zZ f := if_pos c0
  refine Vs 8 O ?_
  refine ziV Tryz.results32 O (fun w hI => ⟨_, rfl, by unfold zc6; rw [ha, if_pos c0], hI.k0⟩)
 ·
  have c0 := Decidable.not_not.1 c0
  have vd := zic hz c0
  have hl := vd.lens
  refine Vs 6 O ?_
  refine zl7 Tryz.call43 O (fun w hI => zn4 f (by omega) v1 v2 v3 D w (Tr1 hI.k0 hf)) ?_
  refine Vs 2 O ?_
  refine ziB O (fun c1 => ?_) (fun c1 => ?_)
  ·
   have ha : zcq f = 14 := by unfold zcq; rw [if_neg (not_not_intro c0), if_pos c1]
   refine Vs 7 O ?_
   refine ziV Tryz.results32 O (fun w hI => ⟨_, rfl, by unfold zc6; rw [ha]; rfl, hI.k0⟩)
  ·
   have ha : zcq f = 0 := by unfold zcq; rw [if_neg (not_not_intro c0), if_neg c1]
   refine Vs 7 O ?_
   refine zl7 Tryz.call38 O (fun w hI => zmU f.vars 2 pub v1 pv D D' w (by decide) vd.good (by omega) (Tr1 hI.k0 hf.vars) (Tr1 hI.k0 hp)) ?_
   refine Vs 14 O ?_
   refine ziV Tryz.results32 O (fun w hI => ⟨_, rfl, by unfold zc6; rw [ha]; rfl, hI.k0⟩)
theorem zmu (f : Fl) (vd : Valid f) (v1 v2 v3 : Value) (D : Nat -> Prop) (W : World) (hf : RFl D W f v1 v2 v3) : Calls Tryz.prog 33 #[.agg #[v1, v2, v3]] W (Ret fun r w' => r = .int .i64 (spN f) /\ Ext W w') := by
 have hl := vd.lens
 have hsp : (zp 1 f.vars).getD 0 = (spN f : Int) := by
  unfold spN
  cases h : zp 1 f.vars with
  | none => rfl
  | some m =>
   have := yq 1 f.vars 1 m vd.good (by omega) (by omega) h
   simp only [Option.getD_some]
   omega
 refine zkG Tryz.func33 O Tryz.ntmps33 O (zkS ?_)
 refine Vs 2 O ?_
 refine V.box 1 O O (fun b1 => ?_)
 refine Vs 7 O ?_
 refine zl7 Tryz.call66 O (fun w hI => zmi f.vars 1 v1 D w (by decide) vd.good (by omega) (Tr1 hI.k0 hf.vars)) ?_
 refine Vs 14 O ?_
 refine ziV Tryz.results33 O (fun w hI => ⟨_, rfl, by rw [hsp], hI.k0⟩)
theorem zmP (f : Fl) (vd : Valid f) (v1 v2 v3 : Value) (D : Nat -> Prop) (W : World) (hf : RFl D W f v1 v2 v3) : Calls Tryz.prog 48 #[.agg #[v1, v2, v3]] W (Ret fun r w' => SlR 1 zF (fun b => W.heap.size <= b) w' r (zax f) /\ Ext W w') := by
 have hsp := zeW vd
 have hla : (zax f).length = spN f := by simp [zax]
 refine zkG Tryz.func48 O Tryz.ntmps48 O (zkS ?_)
 refine Vs 2 O ?_
 refine V.box 1 O O (fun b1 => ?_)
 refine Vs 5 O ?_
 refine V.bs0 5 tR31 ts3 O (fun b5 => ?_)
 refine Vs 7 O ?_
 refine zl7 Tryz.call33 O (fun w hI => zmu f vd v1 v2 v3 D w (Tr1 hI.k0 hf)) ?_
 refine Vs 4 O ?_
 refine zli (σ := Nat × Value) [7] [] [] O (fun e ⟨i, v⟩ => (8, .int .i64 i) :: (3, v) :: e) (fun e ⟨i, v⟩ => (5, .row 3 1 v i (((zax f).take i).map zi)) :: e) (fun ⟨i, v⟩ => i <= spN f) (fun ⟨i, v⟩ => spN f - i) ((0, .slice (some ⟨b5, 0, none⟩) 0 0)) (zkg O) (zkh O) (fun _ => rfl) (fun _ => rfl) (fun _ => rfl) (Nat.zero_le _) ?_
 rintro ⟨i, v⟩ hi
 show V _ _ _ _ _ ((8, .int .i64 i) :: (3, v) :: _) _ ((5, .row 3 1 v i (((zax f).take i).map zi)) :: _) _
 refine Vs 6 O ?_
 refine ziB O (fun hlt => ?_) (fun hlt => ?_)
 ·
  have zm : (zax f)[i]? = some (i : Int) := by simp [zax, List.getElem?_range (show i < spN f by omega)]
  refine Vs 13 O ?_
  refine zll 13 [(0, _)] tR31 ts3 tz3 (by decide) O O (by kernel_rfl) (fun b13 => ?_)
  refine V.ap 5 13 tu31 Tryz.el3 O (by decide) O O (by omega) (by omega) (fun u5 => ?_)
  refine Va 8 O (by omega) ?_
  refine zlh 5 O (e' := .row 3 1 u5 (i + 1) (((zax f).take (i + 1)).map zi)) (by rw [List.take_add_one, zm, List.map_append]; rfl) ?_
  refine ziM (⟨i + 1, u5⟩) (zkg O) (zkh O) (by omega) (by first | omega | (dsimp only; omega)) 0 O O
 ·
  obtain rfl : i = spN f := by omega
  refine zlh 5 O (e' := .row 3 1 v (zax f).length ((zax f).map zi)) (by rw [<- hla, zmd]) ?_
  refine Vs 12 O ?_
  refine ziV Tryz.results48 O (fun w hI => ⟨_, rfl, zjO zi (fun _ _ => rfl) (hI.at 5 O) (fun b hb => hI.own 5 0 O O b hb), hI.k0⟩)
theorem zmQ {α : Type} {R : Rel α} {D : Nat -> Prop} {w : World} (h1 : ∀ x cs, R D w x cs -> ∀ u ∈ cs, u.oneCell' = true) {ao : Option Addr} : ∀ (l : List α) (k : Nat), (∀ (i : Nat) x, l[i]? = some x -> ∃ b o cs, ao = some ⟨b, o, none⟩ /\ D b /\ cs.length = 2 /\ Cells w b (o + (k + i) * 2) cs /\ R D w x cs) -> ∃ css : List Cl2, css.length = l.length /\ (∀ (i : Nat) c, css[i]? = some c -> ∃ b o, ao = some ⟨b, o, none⟩ /\ D b /\ Cells w b (o + (k + i) * 2) c.1) /\ ∀ (i : Nat) x, l[i]? = some x -> R D w x (((css.flatMap Subtype.val).drop (i * 2)).take 2)
 | [], k, _ => ⟨[], rfl, fun i c h => by simp at h, fun i x h => by simp at h⟩
 | x :: l, k, h => by
  obtain ⟨b, o, cs, e1, e2, e3, e4, e5⟩ := h 0 x rfl
  obtain ⟨css, g1, g2, g3⟩ := zmQ h1 l (k + 1) (fun i y hy => by
   obtain ⟨b, o, cs, e1, e2, e3, e4, e5⟩ := h (i + 1) y (by simpa using hy)
   exact ⟨b, o, cs, e1, e2, e3, by rw [show k + 1 + i = k + (i + 1) by omega]; exact e4, e5⟩)
  refine ⟨⟨cs, e3, h1 x cs e5⟩ :: css, by simp [g1], fun i c hc => ?_, fun i y hy => ?_⟩
  ·
   cases i with
   | zero =>
    simp only [List.getElem?_cons_zero, Option.some.injEq] at hc
    subst hc
    exact ⟨b, o, e1, e2, e4⟩
   | succ i =>
    obtain ⟨b, o, a1, a2, a3⟩ := g2 i c (by simpa using hc)
    exact ⟨b, o, a1, a2, by rw [show k + (i + 1) = k + 1 + i by omega]; exact a3⟩
  ·
   cases i with
   | zero =>
    simp only [List.getElem?_cons_zero, Option.some.injEq] at hy
    subst hy
    simp only [List.flatMap_cons, Nat.zero_mul, List.drop_zero]
    rw [List.take_append_of_le_length (by omega), List.take_of_length_le (by omega)]
    exact e5
   | succ i =>
    have := g3 i y (by simpa using hy)
    simp only [List.flatMap_cons]
    rw [Nat.succ_mul, List.drop_append, List.drop_of_length_le (by omega), List.nil_append, e3, Nat.add_sub_cancel]
    exact this
theorem znl {l : List (Int × List Int)} {v : Value} {D : Nat -> Prop} {W : World} (hl : SlR 2 RQu D W v l) : ∃ css : List Cl2, css.length = l.length /\ SlR 2 RCl D W v css /\ ∀ (i : Nat) x, l[i]? = some x -> RQu D W x (((css.flatMap Subtype.val).drop (i * 2)).take 2) := by
 obtain ⟨ao, cap, rfl, q2, q3, q4⟩ := hl
 obtain ⟨css, c1, c2, c3⟩ := zmQ (fun x cs h => zgz D x cs h) l 0 (fun i x hx => by rw [Nat.zero_add]; exact q4 i x hx)
 exact ⟨css, c1, ⟨_, _, by rw [c1], by rw [c1]; exact q2, q3, fun i c hc => by
  obtain ⟨b, o, a1, a2, a3⟩ := c2 i c hc
  rw [Nat.zero_add] at a3
  exact ⟨b, o, c.1, a1, a2, c.2.1, a3, rfl⟩⟩, c3⟩
theorem zn5 (l : List Cl2) (hlen : l.length <= 1048576) (v : Value) (D : Nat -> Prop) (W : World) (hl : SlR 2 RCl D W v l) : Calls Tryz.prog 91 #[v] W (Ret fun r w' => (w'.ownsRow 0 33 2 r l.length (l.flatMap Subtype.val) /\ ∀ q, r.ownBlock = some q -> W.heap.size <= q) /\ Ext W w') := by
 obtain ⟨ao, co, rfl⟩ := hl.form
 refine zkG Tryz.func91 O Tryz.ntmps91 O (zkS ?_)
 refine Vs 9 O ?_
 refine zkx O (fun w hI => zjU tu24 O) ?_
 cases ao
 ·
  obtain rfl := zgf hl
  refine Vs 2 O ?_
  refine V.bool O (fun h => ?_) (fun h => ?_)
  ·
   refine Vs 7 O ?_
   refine ziV Tryz.results91 O (fun w hI => ⟨_, rfl, ⟨kC _ _ _, (fun q hq => by cases hq)⟩, hI.k0⟩)
  . cases h
 ·
  refine Vs 2 O ?_
  refine V.bool O (fun h => ?_) (fun h => ?_)
  . cases h
  ·
   refine Vs 4 O ?_
   refine V.bs0 5 tR24 ts33 O (fun b5 => ?_)
   refine Vs 1 O ?_
   refine V.apS 5 Subtype.val (fun x => x.2.1) (fun x => x.2.2) (fun _ _ _ _ h => h) tu24 Tryz.el33 O (by decide) O (fun w hI => ⟨_, Tr1 hI.k0 hl⟩) (by omega) (by omega) (fun u5 => ?_)
   refine zlh 5 O (e' := .row 33 2 u5 l.length (l.flatMap Subtype.val)) (by rw [Nat.zero_add, List.nil_append]) ?_
   refine Vs 4 O ?_
   refine ziV Tryz.results91 O (fun w hI => ⟨_, rfl, ⟨hI.at 5 rfl, fun b hb => hI.own 5 0 O O b hb⟩, hI.k0⟩)
theorem zmr {H : Hp} {l : List Cl2} (k : Nat) (hlen : l.length <= 1048576) {v : Value} {D : Nat -> Prop} {w : World} (hl : SlR 2 RCl D w v l) : Calls Tryz.prog 91 #[v] w (Ret fun r w' => ∃ y : Option Addr × Nat, r = .slice y.1 l.length y.2 /\ Hands H [] [(k, .row 33 2 (.slice y.1 l.length y.2) l.length (l.flatMap Subtype.val))] w w') := by
 refine (zn5 l hlen v D w hl).mono ?_
 rintro _ w' ⟨r, rfl, ⟨h1, h2⟩, hk⟩
 obtain ⟨ao, co, rfl⟩ := zaN h1
 refine ⟨_, rfl, (ao, co), rfl, hk.mono fun q _ h => h.elim, fun x hx => ?_, List.pairwise_singleton _ _⟩
 rw [List.mem_singleton] at hx
 subst hx
 exact ⟨h1, trivial, fun _ h => h, fun q hq => ⟨.inr (h2 q hq), xi h1 hq⟩⟩
theorem zmI (a : Ac) (u1 u2 : Value) (D : Nat -> Prop) (W : World) (ha : RAc D W a u1 u2) : Calls Tryz.prog 23 #[.agg #[.int .i64 a.mode, .int .i64 a.budget, .int .i64 a.spent, u1, u2]] W (Ret fun r w' => r = .bool (decide (ValidA a)) /\ Ext W w') := by
 have hl := ha.left
 obtain ⟨al, cl, rfl⟩ := hl.form
 obtain ⟨aq, cq, hq⟩ := ha.asked.form
 subst hq
 have hmx := hl.max
 refine zkG Tryz.func23 O Tryz.ntmps23 O (zkS ?_)
 refine Vs 2 O ?_
 refine V.box 1 O O (fun b1 => ?_)
 refine Vs 5 O ?_
 refine zlj (σ := Unit) [1] [1] [1] O (fun e u => (46, .bool (decide (zhg a \/ a.left.length < 1 \/ 4096 < a.left.length))) :: e) (fun e u => e) (fun u => True) (fun _ => rfl) (fun _ => rfl) ?_ ?_
 ·
  refine Vs 5 O ?_
  refine zkt 8 O (fun k1_ => ?_) (fun k1_ => ?_)
  ·
   refine Vs 5 O ?_
   refine zkt 13 O (fun k2_ => ?_) (fun k2_ => ?_)
   ·
    refine Vs 34 O ?_
    refine ziR (()) (Sub.cons (by first | exact xp (by omega) | exact xq (by omega) | exact xr (by omega)) (zkg O)) (zkh O) (trivial) 0 O O
   ·
    refine Vs 5 O ?_
    refine zkt 18 O (fun k3_ => ?_) (fun k3_ => ?_)
    ·
     refine Vs 29 O ?_
     refine ziR (()) (Sub.cons (by first | exact xp (by omega) | exact xq (by omega) | exact xr (by omega)) (zkg O)) (zkh O) (trivial) 0 O O
    ·
     refine Vs 5 O ?_
     refine zkt 23 O (fun k4_ => ?_) (fun k4_ => ?_)
     ·
      refine Vs 24 O ?_
      refine ziR (()) (Sub.cons (by first | exact xp (by omega) | exact xq (by omega) | exact xr (by omega)) (zkg O)) (zkh O) (trivial) 0 O O
     ·
      refine Vs 5 O ?_
      refine zkt 28 O (fun k5_ => ?_) (fun k5_ => ?_)
      ·
       refine Vs 19 O ?_
       refine ziR (()) (Sub.cons (by first | exact xp (by omega) | exact xq (by omega) | exact xr (by omega)) (zkg O)) (zkh O) (trivial) 0 O O
      ·
       refine Vs 7 O ?_
       refine zkt 35 O (fun k6_ => ?_) (fun k6_ => ?_)
       ·
        refine Vs 12 O ?_
        refine ziR (()) (Sub.cons (by first | exact xp (by omega) | exact xq (by omega) | exact xr (by omega)) (zkg O)) (zkh O) (trivial) 0 O O
       ·
        refine Vs 6 O ?_
        refine zkt 41 O (fun k7_ => ?_) (fun k7_ => ?_)
        ·
         refine Vs 6 O ?_
         refine ziR (()) (Sub.cons (by first | exact xp (by omega) | exact xq (by omega) | exact xr (by omega)) (zkg O)) (zkh O) (trivial) 0 O O
        ·
         refine Vs 6 O ?_
         refine ziR (()) (Sub.cons (by first | exact xp (by omega) | exact xq (by omega) | exact xr (by omega)) (zkg O)) (zkh O) (trivial) 0 O O
  ·
   refine Vs 10 O ?_
   refine zkt 18 O (fun k2_ => ?_) (fun k2_ => ?_)
   ·
    refine Vs 29 O ?_
    refine ziR (()) (Sub.cons (by first | exact xp (by omega) | exact xq (by omega) | exact xr (by omega)) (zkg O)) (zkh O) (trivial) 0 O O
   ·
    refine Vs 5 O ?_
    refine zkt 23 O (fun k3_ => ?_) (fun k3_ => ?_)
    ·
     refine Vs 24 O ?_
     refine ziR (()) (Sub.cons (by first | exact xp (by omega) | exact xq (by omega) | exact xr (by omega)) (zkg O)) (zkh O) (trivial) 0 O O
    ·
     refine Vs 5 O ?_
     refine zkt 28 O (fun k4_ => ?_) (fun k4_ => ?_)
     ·
      refine Vs 19 O ?_
      refine ziR (()) (Sub.cons (by first | exact xp (by omega) | exact xq (by omega) | exact xr (by omega)) (zkg O)) (zkh O) (trivial) 0 O O
     ·
      refine Vs 7 O ?_
      refine zkt 35 O (fun k5_ => ?_) (fun k5_ => ?_)
      ·
       refine Vs 12 O ?_
       refine ziR (()) (Sub.cons (by first | exact xp (by omega) | exact xq (by omega) | exact xr (by omega)) (zkg O)) (zkh O) (trivial) 0 O O
      ·
       refine Vs 6 O ?_
       refine zkt 41 O (fun k6_ => ?_) (fun k6_ => ?_)
       ·
        refine Vs 6 O ?_
        refine ziR (()) (Sub.cons (by first | exact xp (by omega) | exact xq (by omega) | exact xr (by omega)) (zkg O)) (zkh O) (trivial) 0 O O
       ·
        refine Vs 6 O ?_
        refine ziR (()) (Sub.cons (by first | exact xp (by omega) | exact xq (by omega) | exact xr (by omega)) (zkg O)) (zkh O) (trivial) 0 O O
 rintro u _
 refine Vs 1 O ?_
 refine ziB O (fun c0 => ?_) (fun c0 => ?_)
 ·
  rcases c0 with c1 | c2
  ·
   refine Vs 7 O ?_
   refine ziV Tryz.results23 O (fun w hI => ⟨_, rfl, by rw [zhh c1], hI.k0⟩)
  ·
   refine Vs 7 O ?_
   refine ziV Tryz.results23 O (fun w hI => ⟨_, rfl, by rw [zhP c2], hI.k0⟩)
 ·
  have c1 : ¬ zhg a := fun h => c0 (.inl h)
  have c2 : ¬ (a.left.length < 1 \/ 4096 < a.left.length) := fun h => c0 (.inr h)
  refine Vs 12 O ?_
  refine zli (σ := Nat) [1, 48, 49] [1] [1] O (fun e i => (50, .int .i64 i) :: e) (fun e i => e) (fun i => AscT a.left i) (fun i => a.left.length - i) (0) (zkg O) (zkh O) (fun _ => rfl) (fun _ => rfl) (fun _ => rfl) (⟨Nat.zero_le _, by simp, by simp⟩) ?_
  rintro i hA
  have hle := hA.le
  refine Vs 6 O ?_
  refine ziB O (fun hlt => ?_) (fun hlt => ?_)
  ·
   refine Vs 7 O ?_
   obtain ⟨x, he_x, hm_x⟩ := gE_ a.left (i) (by omega)
   obtain ⟨b_x, o_x, c_x, ha_x, _, hc_x, hR_x⟩ := hl.at he_x
   obtain rfl := hR_x
   refine zlf 1000 0 O O hc_x ?_
   refine zkZ 1000 tR31 ts3 O ha_x (by omega) (_) (rfl) O ?_
   refine Vs 10 O ?_
   refine zkt 57 O (fun b1 => ?_) (fun b1 => ?_)
   ·
    refine Vs 31 O ?_
    refine ziV Tryz.results23 O (fun w hI => ⟨_, rfl, by rw [zgC he_x (.inl b1)], hI.k0⟩)
   ·
    refine Vs 4 O ?_
    refine zkt 61 O (fun b2 => ?_) (fun b2 => ?_)
    ·
     refine Vs 27 O ?_
     refine ziV Tryz.results23 O (fun w hI => ⟨_, rfl, by rw [zgC he_x (.inr b2)], hI.k0⟩)
    ·
     refine Vs 3 O ?_
     refine zkt 64 O (fun b3 => ?_) (fun b3 => ?_)
     ·
      obtain ⟨y, he_y, hm_y⟩ := gE_ a.left (i-1) (by omega)
      obtain ⟨b_y, o_y, c_y, ha_y, _, hc_y, hR_y⟩ := hl.at he_y
      obtain rfl := hR_y
      refine zlf 2000 0 O O hc_y ?_
      refine Va 5 O (by omega) ?_
      refine zkZ 2000 tR31 ts3 O ha_y (by omega) (i - 1) (by omega) O ?_
      refine Vs 6 O ?_
      refine ziB O (fun b4 => ?_) (fun b4 => ?_)
      ·
       refine Vs 11 O ?_
       refine ziV Tryz.results23 O (fun w hI => ⟨_, rfl, by rw [zhQ (by omega) he_x he_y b4], hI.k0⟩)
      ·
       refine Va 7 O (by omega) ?_
       refine ziM (i + 1) (zkg O) (zkh O) (hA.next he_x (by omega) fun p _ hp => by rw [he_y] at hp; cases hp; omega) (by first | omega | (dsimp only; omega)) 0 O O
     ·
      refine Va 20 O (by omega) ?_
      refine ziM (i + 1) (zkg O) (zkh O) (hA.next he_x (by omega) fun p h0 _ => absurd h0 (by omega)) (by first | omega | (dsimp only; omega)) 0 O O
  ·
   obtain rfl : i = a.left.length := by omega
   refine Vs 11 O ?_
   refine ziV Tryz.results23 O (fun w hI => ⟨_, rfl, by rw [zf8 c1 c2 hA], hI.k0⟩)
theorem zn6 (p q : Int × List Int) (u v : Value) (b : Nat) (D D' : Nat -> Prop) (W : World) (hp : SlR 1 zF D W u p.2) (hq : SlR 1 zF D' W v q.2) (hB : Cells W b 0 [.int .i64 q.1, v]) : Calls Tryz.prog 85 #[.agg #[.int .i64 p.1, u], .pointer (some ⟨b, 0, none⟩)] W (Ret fun r w' => r = .bool (decide (p = q)) /\ Ext W w') := by
 obtain ⟨a1, c1, rfl⟩ := hp.form
 obtain ⟨a2, c2, rfl⟩ := hq.form
 refine zkH Tryz.func85 O Tryz.ntmps85 O (zkS ?_)
 refine zlg 900 0 O O (fun h => h) hB ?_
 refine zkY 1 900 0 O O ?_
 refine Vs 2 O ?_
 refine V.box 2 O O (fun b2 => ?_)
 refine Vs 11 O ?_
 refine zkt 9 O (fun e => ?_) (fun e => ?_)
 ·
  refine Vs 4 O ?_
  refine zl7 tc18 O (fun w hI => qz p.2 q.2 _ _ D D' w (Tr1 hI.k0 hp) (Tr1 hI.k0 hq)) ?_
  refine Vs 5 O ?_
  refine ziV Tryz.results85 O (fun w hI => ⟨_, rfl, by rw [decide_eq_decide.2]; rw [Prod.ext_iff]; simp [e], hI.k0⟩)
 ·
  refine Vs 10 O ?_
  refine ziV Tryz.results85 O (fun w hI => ⟨_, rfl, by rw [decide_eq_false (fun h => e (by rw [h]))], hI.k0⟩)
theorem zmR (l : List (Int × List Int)) (q : Int × List Int) (lv v : Value) (D D' : Nat -> Prop) (W : World) (hl : SlR 2 RQu D W lv l) (hq : SlR 1 zF D' W v q.2) : Calls Tryz.prog 47 #[lv, .agg #[.int .i64 q.1, v]] W (Ret fun r w' => r = .bool (decide (q ∈ l)) /\ Ext W w') := by
 obtain ⟨a2, c2, rfl⟩ := hq.form
 refine zkH Tryz.func47 O Tryz.ntmps47 O (zkS ?_)
 refine Vs 2 O ?_
 refine V.box 3 O O (fun b3 => ?_)
 refine Vs 7 O ?_
 refine zl7 Tryz.call84 O (fun w hI => zg7 (fun p => decide (p = q)) l lv D _ _ w Tryz.call85 (Tr1 hI.k0 hl) (fun x u w' hE _ hd => zn6 x q u _ b3 D D' w' hd (Tr1 ((hI.k0).trans hE (fun _ _ h => h)) hq) (hE.cells (Blk.cells (hI.at 3 O)) (fun h => h)))) ?_
 refine Vs 4 O ?_
 refine ziV Tryz.results47 O (fun w hI => ⟨_, rfl, by rw [zhi], hI.k0⟩)
theorem zmJ {a : Ac} {f : Fl} {y : Int} (hv : ValidA a) (hy : a.left[a.left.length - 1]? = some y) : xU f a.left ↔ y < (spN f : Int) := by
 have hl := hv.l1
 constructor
 . intro h; exact (h y (zm9 hy)).2
 ·
  intro h x hx
  refine ⟨(hv.rng x hx).1, ?_⟩
  obtain ⟨i, hi⟩ := List.mem_iff_getElem?.1 hx
  obtain ⟨l1, e1⟩ := List.getElem?_eq_some_iff.1 hi
  obtain ⟨l2, e2⟩ := List.getElem?_eq_some_iff.1 hy
  rcases Nat.lt_or_ge i (a.left.length - 1) with h3 | h3
  ·
   have := List.pairwise_iff_getElem.1 hv.asc i (a.left.length - 1) l1 l2 h3
   omega
  ·
   have : i = a.left.length - 1 := by omega
   subst this
   omega
theorem zmK (a : Ac) (ps : List Fl) (hz : ∀ f ∈ ps, SzOk f) (q : Qu) (u1 u2 pv qv : Value) (D D1 D2 : Nat -> Prop) (W : World) (ha : RAc D W a u1 u2) (hps : SlR 3 RPg D1 W pv ps) (hq : SlR 1 zF D2 W qv q.2) :
  Calls Tryz.prog 21 #[.agg #[.int .i64 a.mode, .int .i64 a.budget, .int .i64 a.spent, u1, u2], pv, .agg #[.int .i64 q.1, qv]] W (Ret fun r w' => r = .int .i64 (yU a ps q) /\ Ext W w') := by
 obtain ⟨qp, pub⟩ := q
 dsimp only at hq
 obtain ⟨a1, c1, h1⟩ := ha.left.form
 obtain ⟨a2, c2, h2⟩ := ha.asked.form
 have hal := ha.left
 subst h1 h2
 obtain ⟨ap, cp, rfl⟩ := hps.form
 obtain ⟨aq, cq, rfl⟩ := hq.form
 have hmp := hps.max
 have hma := hal.max
 refine zkI Tryz.func21 O Tryz.ntmps21 O (zkS ?_)
 refine Vs 2 O ?_
 refine V.box 3 O O (fun b3 => ?_)
 refine V.box 5 O O (fun b5 => ?_)
 refine Vs 7 O ?_
 refine zl7 Tryz.call23 O (fun w hI => zmI a _ _ D w (Tr1 hI.k0 ha)) ?_
 refine zkx O (fun w hI => zk0 O (by first | exact za | rfl)) ?_
 refine Vs 2 O ?_
 refine ziB O (fun v0 => ?_) (fun v0 => ?_)
 ·
  refine Vs 7 O ?_
  refine ziV Tryz.results21 O (fun w hI => ⟨_, rfl, by rw [zdX v0], hI.k0⟩)
 ·
  have v0 := Decidable.not_not.1 v0
  have hl1 := v0.l1
  refine Vs 4 O ?_
  refine zlj (σ := Unit) [1, 3, 5] [3, 5] [3, 5] O (fun e u => (21, .bool (decide (qp < 0 \/ (ps.length : Int) <= qp))) :: e) (fun e u => e) (fun u => True) (fun _ => rfl) (fun _ => rfl) ?_ ?_
  ·
   refine Vs 5 O ?_
   refine zkt 15 O (fun k1_ => ?_) (fun k1_ => ?_)
   ·
    refine Vs 7 O ?_
    refine ziR (()) (Sub.cons (by first | exact xp (by omega) | exact xq (by omega) | exact xr (by omega)) (zkg O)) (zkh O) (trivial) 0 O O
   ·
    refine Vs 7 O ?_
    refine ziR (()) (Sub.cons (by first | exact xp (by omega) | exact xq (by omega) | exact xr (by omega)) (zkg O)) (zkh O) (trivial) 0 O O
  rintro u _
  refine Vs 1 O ?_
  refine ziB O (fun q0 => ?_) (fun q0 => ?_)
  ·
   refine Vs 7 O ?_
   refine ziV Tryz.results21 O (fun w hI => ⟨_, rfl, by rw [zdY v0 q0], hI.k0⟩)
  ·
   obtain ⟨k, rfl⟩ : ∃ k : Nat, qp = (k : Int) := ⟨qp.toNat, by omega⟩
   refine Vs 7 O ?_
   obtain ⟨f, he_f, hm_f⟩ := gE_ ps (k) (by omega)
   obtain ⟨b_f, o_f, c_f, ha_f, _, hc_f, hR_f⟩ := hps.at he_f
   obtain ⟨v1_f, v2_f, v3_f, rfl, hf_f⟩ := hR_f
   obtain ⟨a1_f, n1_f, rfl⟩ := hf_f.vars.form
   obtain ⟨a2_f, n2_f, rfl⟩ := hf_f.hatches.form
   obtain ⟨a3_f, n3_f, rfl⟩ := hf_f.body.form
   refine zlf 1000 0 O O hc_f ?_
   refine zkZ 1000 tR23 ts56 O ha_f (by omega) (_) (rfl) O ?_
   have hzf := hz f hm_f
   rw [zf9 v0 he_f]
   refine Vs 1 O ?_
   refine V.alloc 7 tz56 O O (fun b7 => ?_)
   refine Vs 9 O ?_
   refine zl7 Tryz.call32 O (fun w hI => zmW f hzf pub _ _ _ _ D1 D2 w (Tr1 hI.k0 hf_f) (Tr1 hI.k0 hq)) ?_
   refine Vs 9 O ?_
   refine ziB O (fun p0 => ?_) (fun p0 => ?_)
   ·
    refine Vs 8 O ?_
    refine ziV Tryz.results21 O (fun w hI => ⟨_, rfl, by unfold qPC; rw [if_pos p0], hI.k0⟩)
   ·
    have p0 := Decidable.not_not.1 p0
    have vd := (zam hzf (zf3 p0).1).1
    refine Vs 4 O ?_
    obtain ⟨y, he_y, hm_y⟩ := gE_ a.left (a.left.length-1) (by omega)
    obtain ⟨b_y, o_y, c_y, ha_y, _, hc_y, hR_y⟩ := hal.at he_y
    obtain rfl := hR_y
    refine zlf 2000 0 O O hc_y ?_
    refine Vw [3, 5, 1000, 7, 2000] [] O ?_
    refine Vb [0, 1, 2, 3, 4, 5, 8] 0 (by kernel_rfl) O O O (by omega) ?_
    refine zl0 6 2000 tR31 ts3 O (by kernel_rfl) O ha_y (by omega) (a.left.length - 1) (by omega) O ?_
    refine Vd [7] 0 (by kernel_rfl) O O O ?_
    refine zl8 9 0 Tryz.call33 O (by kernel_rfl) O O (fun w hI => zmu f vd _ _ _ D1 w (Tr1 hI.k0 hf_f)) ?_
    have hil := zmJ (f := f) v0 he_y
    refine Vd [10] 0 (by kernel_rfl) O O O ?_
    refine zjI (by kernel_rfl) ?_
    refine Vs 1 O ?_
    refine ziB O (fun i0 => ?_) (fun i0 => ?_)
    ·
     refine Vs 7 O ?_
     refine ziV Tryz.results21 O (fun w hI => ⟨_, rfl, by unfold qPC; rw [if_neg (not_not_intro p0), if_neg (fun h => by have := hil.1 h; omega)], hI.k0⟩)
    ·
     refine Vs 8 O ?_
     refine ziV Tryz.results21 O (fun w hI => ⟨_, rfl, by unfold qPC; rw [if_neg (not_not_intro p0), if_pos (hil.2 (by omega))], hI.k0⟩)
theorem zmj (a : Ac) (hla : a.left.length <= 5000) (f : Fl) (vd : Valid f) (hr3 : ze 3 f.vars = []) (hs2 : (zp 2 f.vars).isSome = true) (q : Qu) (u1 u2 v1 v2 v3 qv : Value) (D D1 D2 : Nat -> Prop) (W : World) (ha : RAc D W a u1 u2) (hf : RFl D1 W f v1 v2 v3) (hq : SlR 1 zF D2 W qv q.2) :
  Calls Tryz.prog 22 #[.agg #[.int .i64 a.mode, .int .i64 a.budget, .int .i64 a.spent, u1, u2], .agg #[v1, v2, v3], .agg #[.int .i64 q.1, qv]] W (Ret fun r w' => r = .int .i64 (yi a f q) /\ Ext W w') := by
 obtain ⟨a1, c1, h1⟩ := ha.left.form
 obtain ⟨a2, c2, h2⟩ := ha.asked.form
 subst h1 h2
 obtain ⟨aq, cq, rfl⟩ := hq.form
 have hsp := zeW vd
 have hal := zdw f
 refine zkI Tryz.func22 O Tryz.ntmps22 O (zkS ?_)
 refine Vs 2 O ?_
 refine V.box 3 O O (fun b3 => ?_)
 refine V.box 4 O O (fun b4 => ?_)
 refine V.box 5 O O (fun b5 => ?_)
 refine Vs 11 O ?_
 refine ziB O (fun m0 => ?_) (fun m0 => ?_)
 ·
  refine Vs 7 O ?_
  refine zl9 Tryz.call35 O (fun w hI => ziw f vd hr3 hs2 q.2 a.left v1 v2 v3 _ _ D1 D2 D w hla (Tr1 hI.k0 hf) (Tr1 hI.k0 hq) (Tr1 hI.k0 ha.left)) ?_
  rintro r2 w3 w4 hI3 hk34 hobs hlow2
  obtain ⟨ao, co, rfl⟩ := hobs.form
  refine Vs 6 O ?_
  refine ziV Tryz.results22 O (fun w hI => ⟨_, rfl, by unfold yi; rw [if_pos m0], hI.k1⟩)
 ·
  refine Vs 8 O ?_
  refine zl7 Tryz.call47 O (fun w hI => zmR a.asked q _ _ D D2 w (Tr1 hI.k0 ha.asked) (Tr1 hI.k0 hq)) ?_
  refine Vs 2 O ?_
  refine ziB O (fun b0 => ?_) (fun b0 => ?_)
  ·
   refine Vs 7 O ?_
   refine ziV Tryz.results22 O (fun w hI => ⟨_, rfl, by unfold yi; rw [if_neg m0, if_pos b0], hI.k0⟩)
  ·
   refine Vs 3 O ?_
   refine Vw [3, 4, 5] [] O ?_
   refine Vd [0, 1, 2, 3] 0 (by kernel_rfl) O O O ?_
   refine zla 4 0 Tryz.call48 O (by kernel_rfl) O O (fun w hI => zmP f vd v1 v2 v3 D1 w (Tr1 hI.k0 hf)) ?_
   rintro r1 w1 w2 hI1 hk12 hall hlow
   obtain ⟨al, cl, rfl⟩ := hall.form
   refine zla 5 1 Tryz.call35 O (by kernel_rfl) O O (fun w hI => ziw f vd hr3 hs2 q.2 (zax f) v1 v2 v3 _ _ D1 D2 _ w (by omega) (Tr1 hI.k1 hf) (Tr1 hI.k1 hq) (hall.keep zc hI.k0 (fun b hb _ hs => by have := hlow b hs; omega))) ?_
   rintro r2 w3 w4 hI3 hk34 hobs hlow2
   obtain ⟨ao, co, rfl⟩ := hobs.form
   refine Vd [6, 7] 2 (by kernel_rfl) O O O ?_
   refine zjI (by kernel_rfl) ?_
   refine Vs 2 O ?_
   refine ziV Tryz.results22 O (fun w hI => ⟨_, rfl, by unfold yi; rw [if_neg m0, if_neg b0], hI.k2⟩)
theorem zng {w : World} {D : Nat -> Prop} {W : World} {v : Value} {l : List Qu} {xs : List Value} (hk : Ext W w) (h : w.ownsRow 0 33 2 v l.length xs) (hx : ∀ (i : Nat) x, l[i]? = some x -> RQu D W x ((xs.drop (i * 2)).take 2)) {D' : Nat -> Prop} (h1 : ∀ q, D q -> D' q) (h2 : ∀ q, v.ownBlock = some q -> D' q) : SlR 2 RQu D' w v l :=
 OwnR.sl (e := 33) (D := D) ⟨xs, h, fun i x hi => xD D D W w (fun _ h => h) (fun b _ hb => hk.block b hb (fun h => h)) x _ (hx i x hi)⟩ (by omega) xD h1 h2
theorem znd {D D2 : Nat -> Prop} {W : World} {l : List Qu} {xs : List Value} {q : Qu} {v : Value} (hl : xs.length = l.length * 2) (hx : ∀ (i : Nat) x, l[i]? = some x -> RQu D W x ((xs.drop (i * 2)).take 2)) (hq : SlR 1 zF D2 W v q.2) : ∀ (i : Nat) x, (l ++ [q])[i]? = some x -> RQu (fun b => D b \/ D2 b) W x (((xs ++ [.int .i64 q.1, v]).drop (i * 2)).take 2) := by
 intro i x hi
 by_cases h : i < l.length
 ·
  rw [List.getElem?_append_left h] at hi
  have := hx i x hi
  rw [List.drop_append_of_le_length (by omega), List.take_append_of_le_length (by rw [List.length_drop]; omega)]
  exact xD D _ W W (fun _ h => .inl h) (fun _ _ _ => rfl) x _ this
 ·
  rw [List.getElem?_append_right (by omega)] at hi
  have h0 : i - l.length = 0 := by
   have := (List.getElem?_eq_some_iff.1 hi).1
   simp at this
   omega
  rw [h0] at hi
  simp only [List.getElem?_cons_zero, Option.some.injEq] at hi
  subst hi
  have hi2 : i = l.length := by omega
  subst hi2
  rw [<- hl, List.drop_append_of_le_length (by omega), List.drop_length]
  exact ⟨v, rfl, hq.wide zc (fun _ h => .inr h)⟩
theorem zmL (a : Ac) (hB : AcB a) (f : Fl) (vd : Valid f) (hr3 : ze 3 f.vars = []) (hs2 : (zp 2 f.vars).isSome = true) (q : Qu) (hsn : 0 <= a.spent * yi a f q /\ a.spent * yi a f q <= 1048576) (o : Ob) (u1 u2 v1 v2 v3 qv ov : Value) (D D1 D2 D3 : Nat -> Prop) (W : World) (ha : RAc D W a u1 u2) (hf : RFl D1 W f v1 v2 v3) (hq : SlR 1 zF D2 W qv q.2) (ho : SlR 1 zF D3 W ov o.1) :
  Calls Tryz.prog 59 #[.agg #[.int .i64 a.mode, .int .i64 a.budget, .int .i64 a.spent, u1, u2], .agg #[v1, v2, v3], .agg #[.int .i64 q.1, qv], .agg #[ov, .int .i64 o.2]] W (Ret fun r w' => (∃ r1 r2, r = .agg #[.int .i64 a.mode, .int .i64 a.budget, .int .i64 (a.spent * yi a f q), r1, r2] /\ RAc (fun b => D b \/ D2 b \/ W.heap.size <= b) w' (zeQ a f q (yi a f q) o) r1 r2) /\ Ext W w') := by
 have hl := ha.left
 have hqs := ha.asked
 obtain ⟨a1, c1, rfl⟩ := hl.form
 obtain ⟨css, k1, k2, k3⟩ := znl hqs
 obtain ⟨a2, c2, rfl⟩ := hqs.form
 obtain ⟨aq, cq, rfl⟩ := hq.form
 obtain ⟨ao, co, rfl⟩ := ho.form
 have hb1 := hB.ll
 have hb2 := hB.al
 have hml := hl.max
 have hmq := hqs.max
 have hxl : (css.flatMap Subtype.val).length = a.asked.length * 2 := by rw [yC (enc := Subtype.val) (c := 2) (fun x : Cl2 => x.2.1), k1]
 generalize hxs : css.flatMap Subtype.val = xs at hxl k3
 refine zkJ Tryz.func59 O Tryz.ntmps59 O (zkS ?_)
 refine Vs 2 O ?_
 refine V.box 4 O O (fun b4 => ?_)
 refine V.box 5 O O (fun b5 => ?_)
 refine V.box 6 O O (fun b6 => ?_)
 refine V.box 7 O O (fun b7 => ?_)
 refine V.alloc 8 tz37 O O (fun b8 => ?_)
 refine Vs 3 O ?_
 refine zlj (σ := Nat × Option Addr × Nat) [4, 5, 6, 7, 8] [4, 5, 6, 7, 8] [4, 5, 6, 7, 8] O (fun e ⟨b9, ay, cy⟩ => (9, .pointer (some ⟨b9, 0, none⟩)) :: e) (fun e ⟨b9, ay, cy⟩ => (9, .own b9 [.int .i64 a.mode, .int .i64 a.budget, .int .i64 (a.spent * yi a f q), .slice none 0 0, .slice ay css.length cy] 37) :: (901, .row 33 2 (.slice ay css.length cy) css.length (css.flatMap Subtype.val)) :: e) (fun ⟨b9, ay, cy⟩ => True) (fun _ => rfl) (fun _ => rfl) ?_ ?_
 ·
  refine Vw [4, 5, 6, 7, 8] [] O ?_
  refine Vd [0, 1, 2, 3, 4, 5, 6, 7, 8, 11, 12] 0 (by kernel_rfl) O O O ?_
  refine znp 9 15 9 0 [] (Hn := fun _x : Unit => []) [(4, some (4, 0)), (5, some (5, 0)), (6, some (6, 0)), (7, some (7, 0)), (8, some (8, 0)), (12, some (4, 0)), (14, some (4, 1)), (16, some (4, 2)), (23, some (4, 4))] Tryz.call22 O (by kernel_rfl) O O (fun _ => rfl) (fun _ _ => rfl) (fun _ => rfl) tz37 O (fun w hI => znj (zmj a hb1 f vd hr3 hs2 q _ _ _ _ _ _ D D1 D2 w (Tr1 hI.k0 ha) (Tr1 hI.k0 hf) (Tr1 hI.k0 hq))) ?_ (fun b9 => ?_)
  ·
   rintro _ ⟨⟩ rfl
   refine Vb [10] 0 (by kernel_rfl) O O O (by omega) ?_
   refine znp 13 15 9 0 [] (Hn := fun y : Option Addr × Nat => [(901, .row 33 2 (.slice y.1 css.length y.2) css.length (css.flatMap Subtype.val))]) [(4, some (4, 0)), (5, some (5, 0)), (6, some (6, 0)), (7, some (7, 0)), (8, some (8, 0)), (12, some (4, 0)), (14, some (4, 1)), (16, some (4, 2)), (23, some (4, 4))] Tryz.call91 O (by kernel_rfl) O O (fun _ => rfl) (fun _ _ => rfl) (fun _ => rfl) tz37 O (fun w hI => zmr 901 (by omega) (k2.ext zf6 hI.k0)) ?_ (fun b9 => ?_)
   ·
    rintro _ ⟨ay, cy⟩ rfl
    refine zlo 14 [Value.int IntKind.i64 0, Value.int IntKind.i64 0, Value.int IntKind.i64 0, Value.slice none 0 0, Value.slice none 0 0] [(0, 1), (1, 1), (2, 1), (3, 1), (4, 1)] [(0, _), (1, _), (2, _), (4, _)] O (by kernel_rfl) O O (fun _ => by kernel_rfl) ?_
    refine VD.newP 15 9 0 O (by kernel_rfl) O O (fun _ _ => M.alloc tz37 O) (fun b9 => ?_)
    refine Ve 16 0 O (by kernel_rfl) O O O ?_
    refine zjI (by kernel_rfl) ?_
    refine ziR (⟨_, ay, cy⟩) (zkg O) (zkh O) (trivial) 0 O O
   ·
    refine zlx 13 0 [] (Hn := fun y : Option Addr × Nat => [(901, .row 33 2 (.slice y.1 css.length y.2) css.length (css.flatMap Subtype.val))]) [(4, some (4, 0)), (5, some (5, 0)), (6, some (6, 0)), (7, some (7, 0)), (8, some (8, 0)), (9, some (9, 0)), (12, some (4, 0)), (14, some (4, 1)), (16, some (4, 2)), (23, some (4, 4))] Tryz.call91 O (by kernel_rfl) O O (fun _ => rfl) (fun _ _ => rfl) (fun _ => rfl) (fun w hI => zmr 901 (by omega) (k2.ext zf6 hI.k0)) ?_
    rintro _ ⟨ay, cy⟩ rfl
    refine zlo 14 [Value.int IntKind.i64 0, Value.int IntKind.i64 0, Value.int IntKind.i64 0, Value.slice none 0 0, Value.slice none 0 0] [(0, 1), (1, 1), (2, 1), (3, 1), (4, 1)] [(0, _), (1, _), (2, _), (4, _)] O (by kernel_rfl) O O (fun _ => by kernel_rfl) ?_
    refine Ve 16 0 O (by kernel_rfl) O O O ?_
    refine zjI (by kernel_rfl) ?_
    refine ziR (⟨_, ay, cy⟩) (zkg O) (zkh O) (trivial) 0 O O
  ·
   refine zl8 9 0 Tryz.call22 O (by kernel_rfl) O O (fun w hI => zmj a hb1 f vd hr3 hs2 q _ _ _ _ _ _ D D1 D2 w (Tr1 hI.k0 ha) (Tr1 hI.k0 hf) (Tr1 hI.k0 hq)) ?_
   refine Vb [10] 0 (by kernel_rfl) O O O (by omega) ?_
   refine zlx 13 0 [] (Hn := fun y : Option Addr × Nat => [(901, .row 33 2 (.slice y.1 css.length y.2) css.length (css.flatMap Subtype.val))]) [(4, some (4, 0)), (5, some (5, 0)), (6, some (6, 0)), (7, some (7, 0)), (8, some (8, 0)), (9, some (9, 0)), (12, some (4, 0)), (14, some (4, 1)), (16, some (4, 2)), (23, some (4, 4))] Tryz.call91 O (by kernel_rfl) O O (fun _ => rfl) (fun _ _ => rfl) (fun _ => rfl) (fun w hI => zmr 901 (by omega) (k2.ext zf6 hI.k0)) ?_
   rintro _ ⟨ay, cy⟩ rfl
   refine zlo 14 [Value.int IntKind.i64 0, Value.int IntKind.i64 0, Value.int IntKind.i64 0, Value.slice none 0 0, Value.slice none 0 0] [(0, 1), (1, 1), (2, 1), (3, 1), (4, 1)] [(0, _), (1, _), (2, _), (4, _)] O (by kernel_rfl) O O (fun _ => by kernel_rfl) ?_
   refine Ve 16 0 O (by kernel_rfl) O O O ?_
   refine zjI (by kernel_rfl) ?_
   refine ziR (⟨_, ay, cy⟩) (zkg O) (zkh O) (trivial) 0 O O
 rintro ⟨b9, ay, cy⟩ _
 show V _ _ _ _ _ ((9, .pointer (some ⟨b9, 0, none⟩)) :: _) _ ((9, .own b9 [.int .i64 a.mode, .int .i64 a.budget, .int .i64 (a.spent * yi a f q), .slice none 0 0, .slice ay css.length cy] 37) :: (901, .row 33 2 (.slice ay css.length cy) css.length (css.flatMap Subtype.val)) :: _) _
 refine zkY 9 9 0 O O ?_
 refine Vs 10 O ?_
 refine zlh 901 O (e' := .row 33 2 (.slice ay css.length cy) a.asked.length xs) (by rw [hxs, <- k1]) ?_
 refine zl2 900 3 1 O ?_
 refine Vs 1 O ?_
 refine zli (σ := Nat × Value) [4, 5, 6, 7, 8, 9, 28, 29] [4, 5, 6, 7, 8] [4, 5, 6, 7, 8, 9] O (fun e ⟨i, v⟩ => (30, .int .i64 i) :: e) (fun e ⟨i, v⟩ => (9, .own b9 [.int .i64 a.mode, .int .i64 a.budget, .int .i64 (a.spent * yi a f q), v, (.slice ay css.length cy)] 37) :: (900, .row 3 1 v (yK f q.2 o (a.left.take i)).length ((yK f q.2 o (a.left.take i)).map zi)) :: (901, .row 33 2 (.slice ay css.length cy) a.asked.length xs) :: e) (fun ⟨i, v⟩ => i <= a.left.length) (fun ⟨i, v⟩ => a.left.length - i) ((0, .slice none 0 0)) (zkg O) (zkh O) (fun _ => rfl) (fun _ => rfl) (fun _ => rfl) (Nat.zero_le _) ?_
 rintro ⟨i, v⟩ hi
 show V _ _ _ _ _ ((30, .int .i64 i) :: _) _ ((9, .own b9 [.int .i64 a.mode, .int .i64 a.budget, .int .i64 (a.spent * yi a f q), v, (.slice ay css.length cy)] 37) :: (900, .row 3 1 v (yK f q.2 o (a.left.take i)).length ((yK f q.2 o (a.left.take i)).map zi)) :: (901, .row 33 2 (.slice ay css.length cy) a.asked.length xs) :: _) _
 have hlo := zfd f q.2 o (a.left.take i)
 rw [List.length_take] at hlo
 refine Vs 6 O ?_
 refine ziB O (fun hlt => ?_) (fun hlt => ?_)
 ·
  refine Vs 6 O ?_
  obtain ⟨x, he_x, hm_x⟩ := gE_ a.left (i) (by omega)
  obtain ⟨b_x, o_x, c_x, ha_x, _, hc_x, hR_x⟩ := hl.at he_x
  obtain rfl := hR_x
  refine zlf 1000 0 O O hc_x ?_
  refine zkZ 1000 tR31 ts3 O ha_x (by omega) (_) (rfl) O ?_
  have hto := ze0 (f := f) (pub := q.2) (o := o) he_x
  refine Vs 5 O ?_
  refine Vw [4, 5, 6, 7, 8, 9, 1000] [] O ?_
  refine Vd [0, 1, 2, 3, 5] 0 (by kernel_rfl) O O O ?_
  refine zlx 4 0 [] (Hn := fun y : Option Addr × Nat × (Nat -> Prop) => [(905, obE (obN f q.2 x) y)]) [(4, some (4, 0)), (5, some (5, 0)), (6, some (6, 0)), (7, some (7, 0)), (8, some (8, 0)), (9, some (9, 0)), (32, some (1000, 0)), (35, some (6, 1))] Tryz.call40 O (by kernel_rfl) O O (fun _ => rfl) (fun _ _ => rfl) (fun _ => rfl) (fun w hI => zha 905 (zix f vd hr3 hs2 q.2 x v1 v2 v3 _ D1 D2 w (Tr1 hI.k0 hf) (Tr1 hI.k0 hq))) ?_
  rintro _ ⟨ax, cx, G⟩ rfl
  refine zl8 6 0 Tryz.call39 O (by kernel_rfl) O O (fun w hI => ziv (obN f q.2 x) o _ _ G D3 w (zf0 (hI.at 905 O)) (Tr1 hI.k0 ho)) ?_
  refine Vd [7] 0 (by kernel_rfl) O O O ?_
  refine zjI (by kernel_rfl) ?_
  refine Vs 1 O ?_
  refine ziB O (fun c => ?_) (fun c => ?_)
  ·
   rw [if_pos (cmpOb_iff.1 c)] at hto
   refine Vs 4 O ?_
   refine zll 45 [(0, _)] tR31 ts3 tz3 (by decide) O O (by kernel_rfl) (fun b45 => ?_)
   refine V.ap 900 45 tu31 Tryz.el3 O (by decide) O O (by omega) (by omega) (fun u900 => ?_)
   refine Vs 1 O ?_
   refine zl4 900 O (by omega) ?_
   rintro bq cq2 rfl hcap_900
   refine Va 8 O (by omega) ?_
   refine zlh 900 O (e' := .row 3 1 (.slice (some ⟨bq, 0, none⟩) ((yK f q.2 o (a.left.take i)).length + 1) cq2) (yK f q.2 o (a.left.take (i + 1))).length ((yK f q.2 o (a.left.take (i + 1))).map zi)) (by rw [hto, zmg, List.map_append]; rfl) ?_
   refine ziM (⟨i + 1, _⟩) (zkg O) (zkh O) (by omega) (by first | omega | (dsimp only; omega)) 0 O O
  ·
   rw [if_neg (fun e => c (cmpOb_iff.2 e)), List.append_nil] at hto
   refine zlh 900 O (e' := .row 3 1 v (yK f q.2 o (a.left.take (i + 1))).length ((yK f q.2 o (a.left.take (i + 1))).map zi)) (by rw [hto]) ?_
   refine Va 7 O (by omega) ?_
   refine ziM (⟨i + 1, v⟩) (zkg O) (zkh O) (by omega) (by first | omega | (dsimp only; omega)) 0 O O
 ·
  obtain rfl : i = a.left.length := by omega
  rw [zmd] at *
  refine Vs 7 O ?_
  refine zkT (fun w hI => zaN (show w.ownsRow 0 3 1 v _ _ from hI.at 900 O)) ?_
  rintro ⟨av, cv, rfl⟩
  refine Vs 4 O ?_
  refine zl7 Tryz.call47 O (fun w hI => zmR a.asked q _ _ D D2 w (Tr1 hI.k0 ha.asked) (Tr1 hI.k0 hq)) ?_
  refine zkx O (fun w hI => zk0 O (by first | exact za | rfl)) ?_
  refine Vs 2 O ?_
  refine ziB O (fun b0 => ?_) (fun b0 => ?_)
  ·
   have hA : zeQ a f q (yi a f q) o = ⟨a.mode, a.budget, a.spent * yi a f q, yK f q.2 o a.left, a.asked ++ [q]⟩ := by unfold zeQ; rw [if_neg b0]
   rw [hA]
   refine Vs 4 O ?_
   refine zll 57 [(0, _)] tR24 ts33 tz33 (by decide) O O (by kernel_rfl) (fun b57 => ?_)
   refine V.ap 901 57 tu24 Tryz.el33 O (by decide) O O (by omega) (by omega) (fun u901 => ?_)
   refine Vs 1 O ?_
   refine zl4 901 O (by omega) ?_
   rintro bz cz rfl hcap_901
   refine Vs 10 O ?_
   refine zlh 901 O (e' := .row 33 2 (.slice (some ⟨bz, 0, none⟩) (a.asked.length + 1) cz) (a.asked ++ [q]).length (xs ++ [.int .i64 q.1, .slice aq q.2.length cq])) (by rw [zmg]; rfl) ?_
   refine zj3 Tryz.results59 tg37 ts37 O O O (fun w hI => ⟨_, rfl, ⟨_, _, rfl, ⟨zjO zi (fun _ _ => rfl) (hI.at 900 O) (fun b hb => .inr (.inr (hI.own 900 0 O O b hb))), zng hI.k0 (hI.at 901 O) (znd hxl k3 hq) (fun b hb => hb.elim .inl (fun h => .inr (.inl h))) (fun b hb => .inr (.inr (hI.own 901 0 O O b hb)))⟩⟩, hI.k0⟩)
  ·
   have hA : zeQ a f q (yi a f q) o = ⟨a.mode, a.budget, a.spent * yi a f q, yK f q.2 o a.left, a.asked⟩ := by unfold zeQ; rw [if_pos (Decidable.not_not.1 b0)]
   rw [hA]
   refine Vs 9 O ?_
   refine zj3 Tryz.results59 tg37 ts37 O O O (fun w hI => ⟨_, rfl, ⟨_, _, rfl, ⟨zjO zi (fun _ _ => rfl) (hI.at 900 O) (fun b hb => .inr (.inr (hI.own 900 0 O O b hb))), zng hI.k0 (hI.at 901 O) k3 (fun b hb => .inl hb) (fun b hb => .inr (.inr (hI.own 901 0 O O b hb)))⟩⟩, hI.k0⟩)
abbrev resV (r : Res) (r1 r2 ov : Value) : Value := .agg #[.int .i64 r.ac.mode, .int .i64 r.ac.budget, .int .i64 r.ac.spent, r1, r2, .int .i64 r.answer, .int .i64 r.charge, ov, .int .i64 r.ob.2, .int .i64 r.code]
theorem zn7 (a : Ac) (hA : AcB a) (ps : List Fl) (hz : ∀ f ∈ ps, SzOk f) (q : Qu) (s : Int) (u1 u2 pv qv : Value) (D D1 D2 : Nat -> Prop) (W : World) (ha : RAc D W a u1 u2) (hps : SlR 3 RPg D1 W pv ps) (hq0 : SlR 1 zF D2 W qv q.2) :
  Calls Tryz.prog 28 #[.agg #[.int .i64 a.mode, .int .i64 a.budget, .int .i64 a.spent, u1, u2], pv, .agg #[.int .i64 q.1, qv], .int .i64 s] W (Ret fun r w' => (∃ r1 r2 ov, r = resV (zc7 a ps q s) r1 r2 ov /\ RAc (fun b => D b \/ D2 b \/ W.heap.size <= b) w' (zc7 a ps q s).ac r1 r2 /\ SlR 1 zF (fun b => W.heap.size <= b) w' ov (zc7 a ps q s).ob.1) /\ Ext W w') := by
 obtain ⟨qp, pub⟩ := q
 dsimp only at hq0
 have han := ha.narrow
 have hq := hq0.narrow (by omega) yj
 obtain ⟨a1, c1, h1⟩ := ha.left.form
 obtain ⟨a2, c2, h2⟩ := ha.asked.form
 subst h1 h2
 obtain ⟨ap, cp, rfl⟩ := hps.form
 obtain ⟨aq, cq, rfl⟩ := hq.form
 have hmp := hps.max
 refine zkJ Tryz.func28 O Tryz.ntmps28 O (zkS ?_)
 refine Vs 2 O ?_
 refine V.box 4 O O (fun b4 => ?_)
 refine V.box 6 O O (fun b6 => ?_)
 refine V.alloc 8 Tryz.zeroValue71 O O (fun b8 => ?_)
 refine Vs 8 O ?_
 refine zl7 Tryz.call21 O (fun w hI => zmK a ps hz (qp, pub) _ _ _ _ D D1 _ w (Tr1 hI.k0 ha) (Tr1 hI.k0 hps) (Tr1 hI.k0 hq)) ?_
 refine Vs 9 O ?_
 refine ziB O (fun e0 => ?_) (fun e0 => ?_)
 ·
  rw [zgk e0]
  refine Vs 3 O ?_
  refine zln [Value.int IntKind.i64 0, Value.int IntKind.i64 0, Value.int IntKind.i64 0, Value.slice none 0 0, Value.slice none 0 0, Value.int IntKind.i64 0, Value.int IntKind.i64 0, Value.slice none 0 0, Value.int IntKind.i64 0, Value.int IntKind.i64 0] [(0, 5), (5, 1), (6, 1), (7, 2), (9, 1)] [(4, _)] O O (fun _ => by kernel_rfl) ?_
  refine Vs 5 O ?_
  refine zj3 Tryz.results28 Tryz.isAgg71 Tryz.sizeOf71 O O O (fun w hI => ⟨_, rfl, ⟨_, _, _, rfl, ⟨SlR.nil, SlR.nil⟩, SlR.nil⟩, hI.k0⟩)
 ·
  have e0 := Decidable.not_not.1 e0
  obtain ⟨v0, f', hg, ha0, hr0, hi0⟩ := jW e0
  refine Vs 8 O ?_
  refine zl7 Tryz.call25 O (fun w hI => jY a.left s _ D w (Tr1 hI.k0 ha.left)) ?_
  refine zkx O (fun w hI => zk0 O (by first | exact za | rfl)) ?_
  refine Vs 2 O ?_
  refine ziB O (fun l0 => ?_) (fun l0 => ?_)
  ·
   rw [zfe e0 l0]
   refine Vs 2 O ?_
   refine zln [Value.int IntKind.i64 0, Value.int IntKind.i64 0, Value.int IntKind.i64 0, Value.slice none 0 0, Value.slice none 0 0, Value.int IntKind.i64 0, Value.int IntKind.i64 0, Value.slice none 0 0, Value.int IntKind.i64 0, Value.int IntKind.i64 0] [(0, 5), (5, 1), (6, 1), (7, 2), (9, 1)] [(4, _)] O O (fun _ => by kernel_rfl) ?_
   refine Vs 5 O ?_
   refine zj3 Tryz.results28 Tryz.isAgg71 Tryz.sizeOf71 O O O (fun w hI => ⟨_, rfl, ⟨_, _, _, rfl, ⟨SlR.nil, SlR.nil⟩, SlR.nil⟩, hI.k0⟩)
  ·
   have l0 := Decidable.not_not.1 l0
   obtain ⟨k, hk, hgk⟩ := zgj hg
   dsimp only at hk
   subst hk
   have hkl := (List.getElem?_eq_some_iff.1 hgk).1
   refine Vs 7 O ?_
   obtain ⟨f, he_f, hm_f⟩ := gE_ ps (k) (by omega)
   obtain ⟨b_f, o_f, c_f, ha_f, _, hc_f, hR_f⟩ := hps.at he_f
   obtain ⟨v1_f, v2_f, v3_f, rfl, hf_f⟩ := hR_f
   obtain ⟨a1_f, n1_f, rfl⟩ := hf_f.vars.form
   obtain ⟨a2_f, n2_f, rfl⟩ := hf_f.hatches.form
   obtain ⟨a3_f, n3_f, rfl⟩ := hf_f.body.form
   refine zlf 1000 0 O O hc_f ?_
   refine zkZ 1000 tR23 ts56 O ha_f (by omega) (_) (rfl) O ?_
   rw [he_f] at hgk
   have hfe := Option.some.inj hgk
   subst hfe
   obtain ⟨vd, hr3⟩ := zam (hz f hm_f) ha0
   have hs2 : (zp 2 f.vars).isSome = true := by
    have : zc6 f pub = 0 := by unfold zc6; rw [if_neg (not_not_intro ha0)]; exact hr0
    exact (zf3 this).2.1
   have b1 := v0.b1
   have b2 := v0.b2
   have s1 := v0.s1
   have s2 := v0.s2
   have hsp := zeW vd
   have hal := zdw f
   refine Vs 1 O ?_
   refine V.alloc 10 tz56 O O (fun b10 => ?_)
   refine Vs 8 O ?_
   refine zl7 Tryz.call22 O (fun w hI => zmj a hA.ll f vd hr3 hs2 ((k : Int), pub) _ _ _ _ _ _ D D1 _ w (Tr1 hI.k0 ha) (Tr1 hI.k0 hf_f) (Tr1 hI.k0 hq)) ?_
   refine Vs 11 O ?_
   refine zkx O (fun w hI => R.quo O O (by omega) (by omega)) ?_
   refine Vs 3 O ?_
   refine ziB O (fun n0 => ?_) (fun n0 => ?_)
   ·
    rw [zff e0 l0 hg n0]
    refine Vs 2 O ?_
    refine zln [Value.int IntKind.i64 0, Value.int IntKind.i64 0, Value.int IntKind.i64 0, Value.slice none 0 0, Value.slice none 0 0, Value.int IntKind.i64 0, Value.int IntKind.i64 0, Value.slice none 0 0, Value.int IntKind.i64 0, Value.int IntKind.i64 0] [(0, 5), (5, 1), (6, 1), (7, 2), (9, 1)] [(4, _)] O O (fun _ => by kernel_rfl) ?_
    refine Vs 5 O ?_
    refine zj3 Tryz.results28 Tryz.isAgg71 Tryz.sizeOf71 O O O (fun w hI => ⟨_, rfl, ⟨_, _, _, rfl, ⟨SlR.nil, SlR.nil⟩, SlR.nil⟩, hI.k0⟩)
   ·
    rw [zgl e0 l0 hg n0]
    have hpp := zc8 (q := ((k : Int), pub)) v0 hi0
    have hsn := zal (b := a.budget) (s := a.spent) (p := yi a f ((k : Int), pub)) (by omega) s1 (by omega)
    have hsn0 : 0 <= a.spent * yi a f ((k : Int), pub) := Int.mul_nonneg (by omega) (by omega)
    refine Vs 8 O ?_
    refine zlw [] (Hn := fun y : Option Addr × Nat × (Nat -> Prop) => [(905, obE (obN f pub s) y)]) [(4, some (4, 0)), (6, some (6, 0)), (8, some (8, 0)), (10, some (10, 0)), (21, some (4, 3)), (28, some (6, 0)), (30, some (1000, 0)), (37, some (4, 1)), (39, some (4, 2)), (45, some (6, 1))] Tryz.call40 O (fun _ _ => rfl) (fun _ => rfl) (fun w hI => zha 905 (zix f vd hr3 hs2 pub s _ _ _ _ D1 _ w (Tr1 hI.k0 hf_f) (Tr1 hI.k0 hq))) ?_
    rintro _ ⟨ax, cx, G⟩ rfl
    refine V.alloc 12 tz60 O O (fun b12 => ?_)
    refine Vs 4 O ?_
    refine Vw [4, 6, 1000, 10, 12] [] O ?_
    refine Vd [0, 1, 2, 3, 5, 6, 7, 8, 11, 13, 14] 0 (by kernel_rfl) O O O ?_
    refine zla 4 0 Tryz.call59 O (by kernel_rfl) O O (fun w hI => zmL a hA f vd hr3 hs2 ((k : Int), pub) ⟨hsn0, by omega⟩ (obN f pub s) _ _ _ _ _ _ _ _ D1 _ _ w (Tr1 hI.k0 han) (Tr1 hI.k0 hf_f) (Tr1 hI.k0 hq) (zf0 (hI.at 905 O))) ?_
    rintro r3 w5 w6 hI5 hk56 ⟨r1, r2, rfl, hac⟩ hlow3
    obtain ⟨al1, cl1, hl1⟩ := hac.left.form
    obtain ⟨al2, cl2, hl2⟩ := hac.asked.form
    subst hl1 hl2
    refine zla 9 1 Tryz.call48 O (by kernel_rfl) O O (fun w hI => zmP f vd _ _ _ D1 w (Tr1 hI.k1 hf_f)) ?_
    rintro r1 w1 w2 hI1 hk12 hall hlow
    obtain ⟨al, cl, rfl⟩ := hall.form
    refine zla 10 2 Tryz.call35 O (by kernel_rfl) O O (fun w hI => ziw f vd hr3 hs2 pub (zax f) _ _ _ _ _ D1 _ _ w (by omega) (Tr1 hI.k2 hf_f) (Tr1 hI.k2 hq) (hall.keep zc hI.k0 (fun b hb _ hs => by have := hlow b hs; omega))) ?_
    rintro r2 w3 w4 hI3 hk34 hobs hlow2
    obtain ⟨ao, co, rfl⟩ := hobs.form
    refine zl8 12 3 Tryz.call60 O (by kernel_rfl) O O (fun w hI => zmF (zg0 f pub (zax f)) (obN f pub s) _ _ _ _ w (hobs.keep zaj hI.k0 (fun b hb _ hs => by have := hlow2 b hs; omega)) (zf0 (hI.at 905 O))) ?_
    have e5 : W.heap.size <= w5.heap.size := hI5.k0.size
    have hW : ∀ b, HS _ b -> W.heap.size <= b := fun b hb => VI.hs hI5 (zmc ..) hb
    refine zlo 15 [Value.int IntKind.i64 0, Value.int IntKind.i64 0, Value.int IntKind.i64 0, Value.slice none 0 0, Value.slice none 0 0, Value.int IntKind.i64 0, Value.int IntKind.i64 0, Value.slice none 0 0, Value.int IntKind.i64 0, Value.int IntKind.i64 0] [(0, 5), (5, 1), (6, 1), (7, 2), (9, 1)] [(0, _), (1, _), (2, _), (3, _)] O (by kernel_rfl) O O (fun _ => by kernel_rfl) ?_
    refine Ve 16 3 O (by kernel_rfl) O O O ?_
    refine zjI (by kernel_rfl) ?_
    refine Vs 2 O ?_
    refine V.dat 910 2 O O O (hac.left) (fun q hq _ hs => by have := hlow3 q hs; have := hW q hs; omega) ?_
    refine V.dat 911 2 O O O (hac.asked) (fun q hq _ hs => by have := hlow3 q hs; have := hW q hs; omega) ?_
    refine zj3 Tryz.results28 Tryz.isAgg71 Tryz.sizeOf71 O O O (fun w hI => ⟨_, rfl, ⟨_, _, _, rfl, ⟨(hI.at 910 O).1.wide zc (fun q hq => hq.1.elim (fun h => .inl h.1) fun h => h.elim (fun h => .inr (.inl h.1)) fun h => .inr (.inr (by omega))), (hI.at 911 O).1.wide xD (fun q hq => hq.1.elim (fun h => .inl h.1) fun h => h.elim (fun h => .inr (.inl h.1)) fun h => .inr (.inr (by omega)))⟩, (zf0 (hI.at 905 O)).wide zc (fun q hq => hI.own 905 3 O O q hq)⟩, hI.k3⟩)
open Go.GL Go.ChangeShapes Go.WideShapes Go.ChangeAt Go.RowKit
section
variable {H : Type} {enc : TypeId × Value -> H} {w : World} {base : Nat} {sp : Nat -> Bool} {held : Bool}
set_option maxRecDepth 100000 in
theorem zne {r : Reach} {b0 : Nat} {v : Value} {d : DataW H} {ps : List MemPlace} (hval : Value.okWide Tryz.prog w r b0 69 v) (hd : DataW.Trod enc Tryz.prog w base sp held 69 v d ps) :
  ∃ (q : Int × List Int) (u : Value) (s : Int), v = .agg #[.int .i64 q.1, u, .int .i64 s] /\ SlR 1 zF (fun _ => True) w u q.2 := by
 unfold Value.okWide at hval
 rw [Tryz.underlying69] at hval
 obtain ⟨cs, rfl, hsz, _⟩ := hval
 obtain ⟨k, hn⟩ := hd
 obtain ⟨xs, m, hk, _, hl, hx, hat⟩ := DataW.trod_struct Tryz.underlying69 hn
 rw [show Tryz.prog.cellsOf 69 = 3 by kernel_rfl] at hl
 obtain ⟨l⟩ := cs
 match l, hl with
 | [c0, c1, c2], _ =>
  obtain ⟨y0, h0⟩ := zq hx hat 0 rfl (c := 2) (by kernel_rfl)
  obtain ⟨y1, h1⟩ := zq hx hat 1 rfl (c := 1) (by kernel_rfl)
  obtain ⟨q, ⟨u, e0, ha⟩, _⟩ := zfm _ _ _ h0
  obtain ⟨n1, e1, _⟩ := DataW.trod_int tu3 h1
  simp [Value.cells] at e0 e1
  obtain ⟨rfl, rfl⟩ := e0
  subst e1
  exact ⟨q, _, _, rfl, ha⟩
end
open Go.GL
theorem zmX (a : Ac) (ps : List Fl) (q : Qu) (s : Int) (u1 u2 pv qv : Value) (D D1 D2 : Nat -> Prop) (W : World) (ha : RAc D W a u1 u2) (hps : SlR 3 RPg D1 W pv ps) (hq : SlR 1 zF D2 W qv q.2) (ht : Tab W) (hql : ∀ p ∈ a.asked, p.2.length <= 17592186044416) :
  Calls Tryz.prog 8 #[.agg #[.int .i64 a.mode, .int .i64 a.budget, .int .i64 a.spent, u1, u2], pv, .agg #[.int .i64 q.1, qv, .int .i64 s]] W (Ret fun r w' => r = .bool true /\ Ext W w') := by
 obtain ⟨qp, pub⟩ := q
 dsimp only at hq
 have han := ha.narrow
 have hqn := hq.narrow (by omega) yj
 obtain ⟨a1, c1, h1⟩ := ha.left.form
 obtain ⟨a2, c2, h2⟩ := ha.asked.form
 subst h1 h2
 obtain ⟨ap, cp, rfl⟩ := hps.form
 obtain ⟨aq, cq, rfl⟩ := hq.form
 have hmp := hps.max
 refine zkI Tryz.func8 O Tryz.ntmps8 O (zkS ?_)
 refine Vs 2 O ?_
 refine V.box 3 O O (fun b3 => ?_)
 refine V.box 5 O O (fun b5 => ?_)
 refine Vs 6 O ?_
 refine zl7 Tryz.call12 O (fun w hI => ze4 w (Tr1 hI.k0 ht)) ?_
 refine zkx O (fun w hI => zk0 O (by first | exact za | rfl)) ?_
 refine Vs 2 O ?_
 refine V.bool O (fun k0 => ?_) (fun k0 => ?_)
 . cases k0
 ·
  refine Vs 3 O ?_
  refine zlj (σ := Unit) [1, 3, 5] [3, 5] [3, 5] O (fun e u => e) (fun e u => e) (fun u => (a.left.length <= 20 /\ a.asked.length <= 8 /\ ∀ f ∈ ps, SzOk f) /\ pub.length <= 20) (fun _ => rfl) (fun _ => rfl) ?_ ?_
  ·
   refine Vs 4 O ?_
   refine zl9 Tryz.call19 O (fun w hI => zge a ps a.mode a.budget a.spent _ _ _ D D1 w (Tr1 hI.k0 ha) (Tr1 hI.k0 hps)) ?_
   rintro rr w1 w2 hI1 hk12 ⟨b0, rfl, hb0⟩ hlow
   refine zkx O (fun w hI => zk0 O (by first | exact za | rfl)) ?_
   refine Vs 1 O ?_
   refine V.sb 19 O (fun q1 => ?_) (fun q1 => ?_)
   ·
    refine Vs 17 O ?_
    refine ziV Tryz.results8 O (fun w hI => ⟨_, rfl, rfl, hI.k1⟩)
   ·
    have hb := hb0 (by simpa using q1)
    refine Vs 8 O ?_
    refine ziB O (fun q2 => ?_) (fun q2 => ?_)
    ·
     refine Vs 8 O ?_
     refine ziV Tryz.results8 O (fun w hI => ⟨_, rfl, rfl, hI.k1⟩)
    ·
     refine Vs 1 O ?_
     refine ziR (()) (zkg O) (zkh O) (⟨⟨hb.2.1, hb.2.2.1, hb.2.2.2⟩, by omega⟩) 1 O O
  rintro u ⟨⟨hl, hal, hz⟩, hpl⟩
  have hA : AcB a := ⟨by omega, by omega, hql⟩
  generalize hR : zc7 a ps (qp, pub) s = R
  refine Vs 9 O ?_
  refine zlw [] (Hn := fun y : Y8 => [(910, aoY y.2.2.2.2.2.2 R y)]) [(3, some (3, 0)), (5, some (5, 0)), (29, some (5, 0)), (31, some (5, 2))] Tryz.call24 O (fun _ _ => rfl) (fun _ => rfl) (fun w hI => (by have h := zcl a hA ps hz (qp, pub) (by dsimp only; omega) s _ _ _ _ D D1 D2 w (Tr1 hI.k0 ha) (Tr1 hI.k0 hps) (Tr1 hI.k0 hq) (Tr1 hI.k0 ht); rw [hR] at h; exact zgE 910 h)) ?_
  rintro _ ⟨x1, x2, x3, x4, x5, x6, G⟩ rfl
  refine Vs 6 O ?_
  refine V.alloc 7 tz37 O O (fun b7 => ?_)
  refine V.alloc 10 tz60 O O (fun b10 => ?_)
  refine Vs 15 O ?_
  refine zl9 Tryz.call28 O (fun w hI => zn7 a hA ps hz (qp, pub) s _ _ _ _ _ D1 _ w (Tr1 hI.k0 han) (Tr1 hI.k0 hps) (Tr1 hI.k0 hqn)) ?_
  rintro rA wA wB hIA hkAB ⟨r1, r2, r3, rfl, hacc, hob⟩ hlowA
  rw [hR] at hacc hob ⊢
  obtain ⟨aL, cL, hL⟩ := hacc.left.form
  obtain ⟨aQ, cQ, hQ⟩ := hacc.asked.form
  obtain ⟨aO, cO, hO⟩ := hob.form
  subst hL hQ hO
  have hW : ∀ b, HS _ b -> W.heap.size <= b := fun b hb => VI.hs hIA (zmc ..) hb
  have hfew : ∀ b, ((D b /\ b < W.heap.size) \/ (D2 b /\ b < W.heap.size) \/ wA.heap.size <= b) -> ¬ HS _ b := fun b hb hs => by
   have h1 := hW b hs
   have h2 := hlowA b hs
   omega
  refine V.alloc 12 Tryz.zeroValue71 O O (fun b12 => ?_)
  refine Vs 10 O ?_
  refine zkt 50 O (fun k1 => ?_) (fun k1 => ?_)
  ·
   refine Vs 3 O ?_
   refine zl7 Tryz.call27 O (fun w hI => zgh R.ac R.ac _ _ _ _ _ _ w (show RAc _ _ _ _ _ /\ _ from hI.at 910 O).1 (hacc.stable (fun _ h => h) (fun b hb hlt => hI.k0.block b hlt (hfew b hb)))) ?_
   refine Vs 2 O ?_
   refine zkt 56 O (fun k2 => ?_) (fun k2 => ?_)
   ·
    refine Vs 6 O ?_
    refine zkt 62 O (fun k3 => ?_) (fun k3 => ?_)
    ·
     refine Vs 6 O ?_
     refine zkt 68 O (fun k4 => ?_) (fun k4 => ?_)
     ·
      refine Vs 3 O ?_
      refine zl7 Tryz.call29 O (fun w hI => zhf R.ob.1 R.ob.1 R.ob.2 R.ob.2 _ _ _ _ w (show RAc _ _ _ _ _ /\ SlR 1 zF _ _ _ _ from hI.at 910 O).2 (hob.keep zc hI.k0 (fun b hb _ hs => by have := hlowA b hs; omega))) ?_
      refine Vs 5 O ?_
      refine ziV Tryz.results8 O (fun w hI => ⟨_, rfl, by rw [decide_eq_true ⟨rfl, rfl⟩], hI.k1⟩)
     . exact absurd O k4
    . exact absurd O k3
   . exact absurd O k2
  . exact absurd O k1
end Go.Proofs.YtbkhagigkglgoaaGreatDoor
