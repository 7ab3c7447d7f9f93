/-
  Contracts and the mathematics that the proof needs. Nothing here is a claim.
-/
import Derived.Test.YtaenledoagbddaaGreatDoorKU2
namespace Go.Proofs.YtaenledoagbddaaGreatDoor
open Go.GL
def zcv (s : St) : Bool := decide ((s.thn.length : Int) = 0) && decide ((s.els.length : Int) = 0)
def xv (vs : List Vr) (n : Int) : Bool := decide (0 <= n) && decide (n < (vs.length : Int)) && zaO vs n
def zT (vs : List Vr) (nh : Nat) (s : St) (last : Bool) : Bool :=
 if s.act = 0 then zcv s && xv vs s.var && decide (s.n = 0) && decide ((s.bounds.length : Int) = 0)
 else if s.act = 1 then zcv s && decide (s.var = 0) && decide (s.n = 0) && decide ((s.bounds.length : Int) = 0)
 else if s.act = 2 then zcv s && decide (s.var = 0) && decide (s.n = 0) && decide ((s.bounds.length : Int) = 0) && plainB s.term
 else if s.act = 3 then decide (s.var = 0) && decide (s.n = 0) && decide ((s.bounds.length : Int) = 0)
 else if s.act = 4 then decide (s.var = 0) && decide ((s.els.length : Int) = 0) && decide ((s.bounds.length : Int) = 0)
 else if s.act = 5 then zcv s && xv vs s.var && decide (0 <= s.n) && decide (s.n < (nh : Int)) && decide ((s.bounds.length : Int) = 0) && plainB s.term
 else if s.act = 6 then zcv s && last && decide (s.var = 0) && decide (s.n = 0) && plainB s.term && xd s.bounds
 else false
theorem kO (vs : List Vr) (nh : Nat) (s : St) (last : Bool) : zT vs nh s last = (!(decide (s.act < 0) || decide (6 < s.act)) && !(!uvB s.act && decide (s.var ≠ 0)) && !(!unB s.act && decide (s.n ≠ 0)) && !(!utB s.act && !plainB s.term)
  && !(decide (s.act ≠ 3) && decide (s.act ≠ 4) && decide (0 < (s.thn.length : Int))) && !(decide (s.act ≠ 3) && decide (0 < (s.els.length : Int))) && !(decide (s.act ≠ 6) && decide (0 < (s.bounds.length : Int)))
  && !(uvB s.act && !xv vs s.var) && !(decide (s.act = 5) && (decide (s.n < 0) || decide ((nh : Int) <= s.n)))
  && (decide (s.act ≠ 6) || (last && xd s.bounds))) := by
 have c0 : ∀ n : Nat, decide ((n : Int) = 0) = !decide (0 < (n : Int)) := by intro n; rw [zb]; congr 1; simp
 have c1 : decide (s.var = 0) = !decide (s.var ≠ 0) := by rw [zb]; congr 1; simp
 have c2 : decide (s.n = 0) = !decide (s.n ≠ 0) := by rw [zb]; congr 1; simp
 have c3 : decide (0 <= s.n) = !decide (s.n < 0) := by rw [zb]; congr 1; simp
 have c4 : decide (s.n < (nh : Int)) = !decide ((nh : Int) <= s.n) := by rw [zb]; congr 1; simp
 unfold zT zcv uvB unB utB
 simp only [c0, c1, c2, c3, c4]
 generalize decide (0 < (s.thn.length : Int)) = p1
 generalize decide (0 < (s.els.length : Int)) = p2
 generalize decide (0 < (s.bounds.length : Int)) = p3
 generalize decide (s.var ≠ 0) = p4
 generalize decide (s.n ≠ 0) = p5
 generalize decide (s.n < 0) = p6
 generalize decide ((nh : Int) <= s.n) = p7
 generalize plainB s.term = p8
 generalize xv vs s.var = p9
 generalize xd s.bounds = p10
 rcases (show s.act < 0 \/ s.act = 0 \/ s.act = 1 \/ s.act = 2 \/ s.act = 3 \/ s.act = 4 \/ s.act = 5 \/ s.act = 6 \/ 6 < s.act by omega) with h | h | h | h | h | h | h | h | h
 . rw [znn (by omega), znn (by omega), znn (by omega), znn (by omega), znn (by omega), znn (by omega), znn (by omega), znp h]; rfl
 . rw [h]; revert p1 p2 p3 p4 p5 p6 p7 p8 p9 p10 last; decide
 . rw [h]; revert p1 p2 p3 p4 p5 p6 p7 p8 p9 p10 last; decide
 . rw [h]; revert p1 p2 p3 p4 p5 p6 p7 p8 p9 p10 last; decide
 . rw [h]; revert p1 p2 p3 p4 p5 p6 p7 p8 p9 p10 last; decide
 . rw [h]; revert p1 p2 p3 p4 p5 p6 p7 p8 p9 p10 last; decide
 . rw [h]; revert p1 p2 p3 p4 p5 p6 p7 p8 p9 p10 last; decide
 . rw [h]; revert p1 p2 p3 p4 p5 p6 p7 p8 p9 p10 last; decide
 . rw [znn (by omega), znn (by omega), znn (by omega), znn (by omega), znn (by omega), znn (by omega), znn (by omega), znp h]; simp
theorem jc (f : Fl) (s : St) (last : Bool) (v1 v2 v3 : Value) (cs : List Value) (D D' : Nat -> Prop) (w : World) (hf : RFl D w f v1 v2 v3) (hs : RSt D' w s cs) : Calls Tryz.prog 150 #[.agg #[v1, v2, v3], .agg cs.toArray, .bool last] w (Ret fun r w' => r = .bool (zT f.vars f.hatches.length s last) /\ Ext w w') := by
 obtain ⟨hvs, hhs, hbd⟩ := hf
 obtain ⟨a1, n1, rfl⟩ := hvs.form
 obtain ⟨a2, n2, rfl⟩ := hhs.form
 obtain ⟨u1, u2, u3, u4, rfl, hk, ht, he, hb⟩ := hs.get
 obtain ⟨a4, n4, rfl⟩ := hk.form
 obtain ⟨a5, n5, rfl⟩ := ht.form
 obtain ⟨a6, n6, rfl⟩ := he.form
 obtain ⟨a7, n7, rfl⟩ := hb.form
 rw [kO]
 have hE := Keep.refl (fun _ => False) w
 refine zlv Tryz.func150 O Tryz.ntmps150 O (Gs 2 O (G.mem O O (M.box O O) ?_))
 rintro _ w_b ⟨b, rfl, hg_b, hs_b, hB_b, hk_b⟩
 have hge_b : _ <= b := znj hE.size (Nat.le_of_eq hg_b.symm)
 obtain ⟨hE, hvs, hk, hb⟩ := Tr4 hk_b hE hvs hk hb
 refine G.mem O O (M.box O O) ?_
 rintro _ w_c ⟨c, rfl, hg_c, hs_c, hB_c, hk_c⟩
 have hn_b_c : b ≠ c := by have := hB_b.lt; omega
 have hge_c : _ <= c := znj hE.size (Nat.le_of_eq hg_c.symm)
 obtain ⟨hE, hvs, hk, hb, hB_b⟩ := Tr5 hk_c hE hvs hk hb hB_b
 refine Gs 6 O (zlo O tg90 (hB_c.cells 0 _ O) (Gs 7 O ?_))
 have hC2 := Keep.refl (fun _ => False) w_c
 refine zjA (σ := Bool) (fun q => [(2, .bool last), (3, .pointer (some ⟨b, 0, none⟩)), (4, .pointer (some ⟨c, 0, none⟩)), (7, .int .i64 s.act), (10, .bool q)]) (fun q => fun w' => q = (decide (s.act < 0) || decide (6 < s.act)) /\ Ext w_c w') ?_ ?_
 ·
  refine Gs 4 O (zlf 13 O (fun hh1 => ?_) (fun hh1 => ?_))
  ·
   refine Gs 5 O ?_
   refine zjC (_) (Sub.cons O (Sub.cons O (Sub.cons O (Sub.cons O (Sub.cons (by first | rfl | (show some (Value.bool true) = some (Value.bool _); simp [*])) Sub.nil))))) (⟨by first | (simp only [hh1, decide_true, Bool.true_or]; done) | (exfalso; omega), hC2⟩)
  ·
   refine Gs 5 O ?_
   refine zjC (_) (zl4 O) (⟨by first | (simp only [hh1, decide_false, Bool.false_or]; done) | (exfalso; omega), hC2⟩)
 rintro q x2 ⟨hq2, hX2⟩
 subst hq2
 obtain ⟨hE, hvs, hk, hb, hB_b, hB_c⟩ := Tr6 hX2 hE hvs hk hb hB_b hB_c
 refine Gs 1 O (G.bool O (fun hh102 => ?_) (fun hh102 => ?_))
 . refine Gs 11 O (zjG tr150 O ⟨_, rfl, by simp only [hh102, Bool.not_true, Bool.false_and], hE⟩)
 ·
  refine Gs 1 O ?_
  have hC3 := Keep.refl (fun _ => False) x2
  refine zjA (σ := Bool) (fun q => [(2, .bool last), (3, .pointer (some ⟨b, 0, none⟩)), (4, .pointer (some ⟨c, 0, none⟩)), (7, .int .i64 s.act), (10, .bool q)]) (fun q => fun w' => q = (!uvB s.act && decide (s.var ≠ 0)) /\ Ext x2 w') ?_ ?_
  ·
   refine Gs 2 O (G.call O Tryz.call199 (ju s.act _) ?_)
   rintro _ wz2 ⟨rfl, hz2⟩
   obtain ⟨hE, hvs, hk, hb, hB_b, hB_c, hC3⟩ := Tr7 hz2 hE hvs hk hb hB_b hB_c hC3
   refine zlk O O (zkO O (by first | exact zb | rfl)) (Gs 1 O (zli 20 O (fun hh3 => ?_) (fun hh3 => ?_)))
   ·
    refine Gs 1 O (zlo O tg3 (hB_c.cells 2 _ O) (Gs 4 O ?_))
    refine zjC (_) (zl4 O) (⟨by first | (simp only [hh3, Bool.true_and, ne_eq, decide_not]; done) | (exfalso; omega), hC3⟩)
   ·
    refine Gs 6 O ?_
    refine zjC (_) (Sub.cons O (Sub.cons O (Sub.cons O (Sub.cons O (Sub.cons (by first | rfl | (show some (Value.bool false) = some (Value.bool _); simp [*])) Sub.nil))))) (⟨by first | (simp only [hh3, Bool.false_and, ne_eq, decide_not]; done) | (exfalso; omega), hC3⟩)
  rintro q x3 ⟨hq3, hX3⟩
  subst hq3
  obtain ⟨hE, hvs, hk, hb, hB_b, hB_c⟩ := Tr6 hX3 hE hvs hk hb hB_b hB_c
  refine Gs 1 O (G.bool O (fun hh103 => ?_) (fun hh103 => ?_))
  . refine Gs 11 O (zjG tr150 O ⟨_, rfl, by simp only [hh102, hh103, Bool.not_true, Bool.and_false, Bool.false_and], hE⟩)
  ·
   refine Gs 1 O ?_
   have hC4 := Keep.refl (fun _ => False) x3
   refine zjA (σ := Bool) (fun q => [(2, .bool last), (3, .pointer (some ⟨b, 0, none⟩)), (4, .pointer (some ⟨c, 0, none⟩)), (7, .int .i64 s.act), (10, .bool q)]) (fun q => fun w' => q = (!unB s.act && decide (s.n ≠ 0)) /\ Ext x3 w') ?_ ?_
   ·
    refine Gs 2 O (G.call O Tryz.call200 (zfX s.act _) ?_)
    rintro _ wz4 ⟨rfl, hz4⟩
    obtain ⟨hE, hvs, hk, hb, hB_b, hB_c, hC4⟩ := Tr7 hz4 hE hvs hk hb hB_b hB_c hC4
    refine zlk O O (zkO O (by first | exact zb | rfl)) (Gs 1 O (zli 28 O (fun hh5 => ?_) (fun hh5 => ?_)))
    ·
     refine Gs 1 O (zlo O tg3 (hB_c.cells 3 _ O) (Gs 4 O ?_))
     refine zjC (_) (zl4 O) (⟨by first | (simp only [hh5, Bool.true_and, ne_eq, decide_not]; done) | (exfalso; omega), hC4⟩)
    ·
     refine Gs 6 O ?_
     refine zjC (_) (Sub.cons O (Sub.cons O (Sub.cons O (Sub.cons O (Sub.cons (by first | rfl | (show some (Value.bool false) = some (Value.bool _); simp [*])) Sub.nil))))) (⟨by first | (simp only [hh5, Bool.false_and, ne_eq, decide_not]; done) | (exfalso; omega), hC4⟩)
   rintro q x4 ⟨hq4, hX4⟩
   subst hq4
   obtain ⟨hE, hvs, hk, hb, hB_b, hB_c⟩ := Tr6 hX4 hE hvs hk hb hB_b hB_c
   refine Gs 1 O (G.bool O (fun hh104 => ?_) (fun hh104 => ?_))
   . refine Gs 11 O (zjG tr150 O ⟨_, rfl, by simp only [hh102, hh103, hh104, Bool.not_true, Bool.and_false, Bool.false_and], hE⟩)
   ·
    refine Gs 1 O ?_
    have hC5 := Keep.refl (fun _ => False) x4
    refine zjA (σ := Bool) (fun q => [(2, .bool last), (3, .pointer (some ⟨b, 0, none⟩)), (4, .pointer (some ⟨c, 0, none⟩)), (7, .int .i64 s.act), (10, .bool q)]) (fun q => fun w' => q = (!utB s.act && !plainB s.term) /\ Ext x4 w') ?_ ?_
    ·
     refine Gs 2 O (G.call O Tryz.call201 (zcu s.act _) ?_)
     rintro _ wz6 ⟨rfl, hz6⟩
     obtain ⟨hE, hvs, hk, hb, hB_b, hB_c, hC5⟩ := Tr7 hz6 hE hvs hk hb hB_b hB_c hC5
     refine zlk O O (zkO O (by first | exact zb | rfl)) (Gs 1 O (zli 36 O (fun hh7 => ?_) (fun hh7 => ?_)))
     ·
      refine Gs 1 O (zlq O tg86 ts86 (hB_c.cells.sub 4 3) O (G.call O Tryz.call202 (zct s.term _ D' _ (RTm.put hk)) ?_))
      rintro _ wz8 ⟨rfl, hz8⟩
      obtain ⟨hE, hvs, hk, hb, hB_b, hB_c, hC5⟩ := Tr7 hz8 hE hvs hk hb hB_b hB_c hC5
      refine zlk O O (zkO O (by first | exact zb | rfl)) (Gs 3 O ?_)
      refine zjC (_) (zl4 O) (⟨by first | (simp only [hh7, Bool.true_and]; done) | (exfalso; omega), hC5⟩)
     ·
      refine Gs 7 O ?_
      refine zjC (_) (Sub.cons O (Sub.cons O (Sub.cons O (Sub.cons O (Sub.cons (by first | rfl | (show some (Value.bool false) = some (Value.bool _); simp [*])) Sub.nil))))) (⟨by first | (simp only [hh7, Bool.false_and]; done) | (exfalso; omega), hC5⟩)
    rintro q x5 ⟨hq5, hX5⟩
    subst hq5
    obtain ⟨hE, hvs, hk, hb, hB_b, hB_c⟩ := Tr6 hX5 hE hvs hk hb hB_b hB_c
    refine Gs 1 O (G.bool O (fun hh105 => ?_) (fun hh105 => ?_))
    . refine Gs 11 O (zjG tr150 O ⟨_, rfl, by simp only [hh102, hh103, hh104, hh105, Bool.not_true, Bool.and_false, Bool.false_and], hE⟩)
    ·
     refine Gs 1 O ?_
     have hC6 := Keep.refl (fun _ => False) x5
     refine zjA (σ := Bool) (fun q => [(2, .bool last), (3, .pointer (some ⟨b, 0, none⟩)), (4, .pointer (some ⟨c, 0, none⟩)), (7, .int .i64 s.act), (10, .bool q)]) (fun q => fun w' => q = (decide (s.act ≠ 3) && decide (s.act ≠ 4) && decide (0 < (s.thn.length : Int))) /\ Ext x5 w') ?_ ?_
     ·
      refine Gs 4 O (zlf 44 O (fun hh9 => ?_) (fun hh9 => ?_))
      ·
       refine Gs 4 O (zlf 48 O (fun hh10 => ?_) (fun hh10 => ?_))
       ·
        refine Gs 1 O (zlo O tg24 (hB_c.cells 7 _ O) (Gs 5 O ?_))
        refine zjC (_) (zl4 O) (⟨by first | (simp only [hh9, hh10, decide_true, Bool.and_true, Bool.true_and, not_false_eq_true, ne_eq]; done) | (exfalso; omega), hC6⟩)
       ·
        refine Gs 7 O ?_
        refine zjC (_) (Sub.cons O (Sub.cons O (Sub.cons O (Sub.cons O (Sub.cons (by first | rfl | (show some (Value.bool false) = some (Value.bool _); simp [*])) Sub.nil))))) (⟨by first | (simp only [hh9, hh10, decide_true, decide_false, Bool.and_false, Bool.false_and, not_false_eq_true, ne_eq]; done) | (exfalso; omega), hC6⟩)
      ·
       refine Gs 11 O ?_
       refine zjC (_) (Sub.cons O (Sub.cons O (Sub.cons O (Sub.cons O (Sub.cons (by first | rfl | (show some (Value.bool false) = some (Value.bool _); simp [*])) Sub.nil))))) (⟨by first | (simp only [hh9, decide_false, Bool.false_and, ne_eq, decide_not]; done) | (exfalso; omega), hC6⟩)
     rintro q x6 ⟨hq6, hX6⟩
     subst hq6
     obtain ⟨hE, hvs, hk, hb, hB_b, hB_c⟩ := Tr6 hX6 hE hvs hk hb hB_b hB_c
     refine Gs 1 O (G.bool O (fun hh106 => ?_) (fun hh106 => ?_))
     . refine Gs 11 O (zjG tr150 O ⟨_, rfl, by simp only [hh102, hh103, hh104, hh105, hh106, Bool.not_true, Bool.and_false, Bool.false_and], hE⟩)
     ·
      refine Gs 1 O ?_
      have hC7 := Keep.refl (fun _ => False) x6
      refine zjA (σ := Bool) (fun q => [(2, .bool last), (3, .pointer (some ⟨b, 0, none⟩)), (4, .pointer (some ⟨c, 0, none⟩)), (7, .int .i64 s.act), (10, .bool q)]) (fun q => fun w' => q = (decide (s.act ≠ 3) && decide (0 < (s.els.length : Int))) /\ Ext x6 w') ?_ ?_
      ·
       refine Gs 4 O (zlf 56 O (fun hh11 => ?_) (fun hh11 => ?_))
       ·
        refine Gs 1 O (zlo O tg24 (hB_c.cells 8 _ O) (Gs 5 O ?_))
        refine zjC (_) (zl4 O) (⟨by first | (simp only [hh11, decide_true, Bool.true_and, not_false_eq_true, ne_eq]; done) | (exfalso; omega), hC7⟩)
       ·
        refine Gs 7 O ?_
        refine zjC (_) (Sub.cons O (Sub.cons O (Sub.cons O (Sub.cons O (Sub.cons (by first | rfl | (show some (Value.bool false) = some (Value.bool _); simp [*])) Sub.nil))))) (⟨by first | (simp only [hh11, decide_false, Bool.false_and]; done) | (exfalso; omega), hC7⟩)
      rintro q x7 ⟨hq7, hX7⟩
      subst hq7
      obtain ⟨hE, hvs, hk, hb, hB_b, hB_c⟩ := Tr6 hX7 hE hvs hk hb hB_b hB_c
      refine Gs 1 O (G.bool O (fun hh107 => ?_) (fun hh107 => ?_))
      . refine Gs 11 O (zjG tr150 O ⟨_, rfl, by simp only [hh102, hh103, hh104, hh105, hh106, hh107, Bool.not_true, Bool.and_false, Bool.false_and], hE⟩)
      ·
       refine Gs 1 O ?_
       have hC8 := Keep.refl (fun _ => False) x7
       refine zjA (σ := Bool) (fun q => [(2, .bool last), (3, .pointer (some ⟨b, 0, none⟩)), (4, .pointer (some ⟨c, 0, none⟩)), (7, .int .i64 s.act), (10, .bool q)]) (fun q => fun w' => q = (decide (s.act ≠ 6) && decide (0 < (s.bounds.length : Int))) /\ Ext x7 w') ?_ ?_
       ·
        refine Gs 4 O (zlf 64 O (fun hh12 => ?_) (fun hh12 => ?_))
        ·
         refine Gs 1 O (zlo O tg27 (hB_c.cells 9 _ O) (Gs 5 O ?_))
         refine zjC (_) (zl4 O) (⟨by first | (simp only [hh12, decide_true, Bool.true_and, not_false_eq_true, ne_eq]; done) | (exfalso; omega), hC8⟩)
        ·
         refine Gs 7 O ?_
         refine zjC (_) (Sub.cons O (Sub.cons O (Sub.cons O (Sub.cons O (Sub.cons (by first | rfl | (show some (Value.bool false) = some (Value.bool _); simp [*])) Sub.nil))))) (⟨by first | (simp only [hh12, decide_false, Bool.false_and]; done) | (exfalso; omega), hC8⟩)
       rintro q x8 ⟨hq8, hX8⟩
       subst hq8
       obtain ⟨hE, hvs, hk, hb, hB_b, hB_c⟩ := Tr6 hX8 hE hvs hk hb hB_b hB_c
       refine Gs 1 O (G.bool O (fun hh108 => ?_) (fun hh108 => ?_))
       . refine Gs 11 O (zjG tr150 O ⟨_, rfl, by simp only [hh102, hh103, hh104, hh105, hh106, hh107, hh108, Bool.not_true, Bool.and_false, Bool.false_and], hE⟩)
       ·
        refine Gs 1 O ?_
        have hC9 := Keep.refl (fun _ => False) x8
        refine zjA (σ := Bool) (fun q => [(2, .bool last), (3, .pointer (some ⟨b, 0, none⟩)), (4, .pointer (some ⟨c, 0, none⟩)), (7, .int .i64 s.act), (10, .bool q)]) (fun q => fun w' => q = (uvB s.act && !xv f.vars s.var) /\ Ext x8 w') ?_ ?_
        ·
         by_cases hv : 0 <= s.var /\ s.var < f.vars.length
         ·
          obtain ⟨x, he_x, hm_x⟩ := gE_ f.vars (s.var.toNat) (by omega)
          obtain ⟨b_x, o_x, c_x, ha_x, _, hc_x, hR_x⟩ := hvs.at he_x
          have h1_x := RVr.one hR_x
          obtain rfl := hR_x
          have hlt_x : b_x < _ := znf _ _ (hc_x 0 _ rfl)
          have hil : xv f.vars s.var = decide (x.kind = 0) := by unfold xv zaO; rw [he_x, znp hv.1, znp hv.2]; rfl
          refine Gs 2 O (G.call O Tryz.call199 (ju s.act _) ?_)
          rintro _ wz13 ⟨rfl, hz13⟩
          obtain ⟨hE, hvs, hk, hb, hB_b, hB_c, hC9⟩ := Tr7 hz13 hE hvs hk hb hB_b hB_c hC9
          replace hc_x := Tr1 hz13 hc_x
          refine Gs 1 O (zli 72 O (fun hh14 => ?_) (fun hh14 => ?_))
          ·
           refine Gs 1 O (zlo O tg3 (hB_c.cells 2 _ O) (Gs 2 O (zlf 76 O (fun hh15 => ?_) (fun hh15 => ?_))))
           ·
            refine Gs 20 O ?_
            refine zjC (_) (Sub.cons O (Sub.cons O (Sub.cons O (Sub.cons O (Sub.cons (by first | rfl | (show some (Value.bool true) = some (Value.bool _); simp [*])) Sub.nil))))) (⟨by first | (simp only [hil, hh14, Bool.true_and]; done) | (simp only [hh14, Bool.true_and]; done) | (exfalso; omega), hC9⟩)
           ·
            refine Gs 1 O (zlo O tg3 (hB_c.cells 2 _ O) (Gs 1 O (zlo O tg22 (hB_b.cells 0 _ O) (Gs 4 O (zlf 84 O (fun hh16 => ?_) (fun hh16 => ?_))))))
            ·
             refine Gs 12 O ?_
             refine zjC (_) (Sub.cons O (Sub.cons O (Sub.cons O (Sub.cons O (Sub.cons (by first | rfl | (show some (Value.bool true) = some (Value.bool _); simp [*])) Sub.nil))))) (⟨by first | (simp only [hil, hh14, Bool.true_and]; done) | (simp only [hh14, Bool.true_and]; done) | (exfalso; omega), hC9⟩)
            ·
             refine Gs 1 O (zlo O tg22 (hB_b.cells 0 _ O) (Gs 1 O (zlo O tg3 (hB_c.cells 2 _ O) (zlk O O (zk5 tR22 ts89 O O ha_x (by omega)) (Gs 1 O (zlo O tg53 (hc_x 1 _ O) (Gs 5 O ?_)))))))
             refine zjC (_) (zl4 O) (⟨by first | (simp only [hil, hh14, Bool.true_and, ne_eq, decide_not]; done) | (simp only [hh102, hh103, hh104, hh105, hh106, hh107, hh108, hh14, hh15, hh16, decide_true, decide_false, Bool.and_true, Bool.true_and, Bool.and_false, Bool.false_and, Bool.or_true, Bool.true_or, Bool.or_false, Bool.false_or, Bool.not_true, Bool.not_false, not_true, not_false_eq_true, ne_eq, decide_not]; done) | (exfalso; omega), hC9⟩)
          ·
           refine Gs 24 O ?_
           refine zjC (_) (Sub.cons O (Sub.cons O (Sub.cons O (Sub.cons O (Sub.cons (by first | rfl | (show some (Value.bool false) = some (Value.bool _); simp [*])) Sub.nil))))) (⟨by first | (simp only [hil, hh14, Bool.false_and]; done) | (simp only [hh102, hh103, hh104, hh105, hh106, hh107, hh108, hh14, decide_true, decide_false, Bool.and_true, Bool.true_and, Bool.and_false, Bool.false_and, Bool.or_true, Bool.true_or, Bool.or_false, Bool.false_or, Bool.not_true, Bool.not_false, not_true, not_false_eq_true, ne_eq, decide_not]; done) | (exfalso; omega), hC9⟩)
         ·
          have hil : xv f.vars s.var = false := by unfold xv; by_cases h0 : 0 <= s.var <;> simp [h0] <;> omega
          refine Gs 2 O (G.call O Tryz.call199 (ju s.act _) ?_)
          rintro _ wz17 ⟨rfl, hz17⟩
          obtain ⟨hE, hvs, hk, hb, hB_b, hB_c, hC9⟩ := Tr7 hz17 hE hvs hk hb hB_b hB_c hC9
          refine Gs 1 O (zli 72 O (fun hh18 => ?_) (fun hh18 => ?_))
          ·
           refine Gs 1 O (zlo O tg3 (hB_c.cells 2 _ O) (Gs 2 O (zlf 76 O (fun hh19 => ?_) (fun hh19 => ?_))))
           ·
            refine Gs 20 O ?_
            refine zjC (_) (Sub.cons O (Sub.cons O (Sub.cons O (Sub.cons O (Sub.cons (by first | rfl | (show some (Value.bool true) = some (Value.bool _); simp [*])) Sub.nil))))) (⟨by first | (simp only [hil, hh18, Bool.and_true, Bool.not_false]; done) | (simp only [hh102, hh103, hh104, hh105, hh106, hh107, hh108, hh18, hh19, decide_true, decide_false, Bool.and_true, Bool.true_and, Bool.and_false, Bool.false_and, Bool.or_true, Bool.true_or, Bool.or_false, Bool.false_or, Bool.not_true, Bool.not_false, not_true, not_false_eq_true, ne_eq, decide_not]; done) | (exfalso; omega), hC9⟩)
           ·
            refine Gs 1 O (zlo O tg3 (hB_c.cells 2 _ O) (Gs 1 O (zlo O tg22 (hB_b.cells 0 _ O) (Gs 4 O (zlf 84 O (fun hh20 => ?_) (fun hh20 => ?_))))))
            ·
             refine Gs 12 O ?_
             refine zjC (_) (Sub.cons O (Sub.cons O (Sub.cons O (Sub.cons O (Sub.cons (by first | rfl | (show some (Value.bool true) = some (Value.bool _); simp [*])) Sub.nil))))) (⟨by first | (simp only [hil, hh18, Bool.and_true, Bool.not_false]; done) | (simp only [hh102, hh103, hh104, hh105, hh106, hh107, hh108, hh18, hh19, hh20, decide_true, decide_false, Bool.and_true, Bool.true_and, Bool.and_false, Bool.false_and, Bool.or_true, Bool.true_or, Bool.or_false, Bool.false_or, Bool.not_true, Bool.not_false, not_true, not_false_eq_true, ne_eq, decide_not]; done) | (exfalso; omega), hC9⟩)
            ·
             refine Gs 1 O (zlo O tg22 (hB_b.cells 0 _ O) (Gs 1 O (zlo O tg3 (hB_c.cells 2 _ O) ?_)))
             exfalso
             omega
          ·
           refine Gs 24 O ?_
           refine zjC (_) (Sub.cons O (Sub.cons O (Sub.cons O (Sub.cons O (Sub.cons (by first | rfl | (show some (Value.bool false) = some (Value.bool _); simp [*])) Sub.nil))))) (⟨by first | (simp only [hil, hh18, Bool.and_true, Bool.not_false]; done) | (simp only [hh102, hh103, hh104, hh105, hh106, hh107, hh108, hh18, decide_true, decide_false, Bool.and_true, Bool.true_and, Bool.and_false, Bool.false_and, Bool.or_true, Bool.true_or, Bool.or_false, Bool.false_or, Bool.not_true, Bool.not_false, not_true, not_false_eq_true, ne_eq, decide_not]; done) | (exfalso; omega), hC9⟩)
        rintro q x9 ⟨hq9, hX9⟩
        subst hq9
        obtain ⟨hE, hvs, hk, hb, hB_b, hB_c⟩ := Tr6 hX9 hE hvs hk hb hB_b hB_c
        refine Gs 1 O (G.bool O (fun hh109 => ?_) (fun hh109 => ?_))
        . refine Gs 11 O (zjG tr150 O ⟨_, rfl, by simp only [hh102, hh103, hh104, hh105, hh106, hh107, hh108, hh109, Bool.not_true, Bool.and_false, Bool.false_and], hE⟩)
        ·
         have hC10 := Keep.refl (fun _ => False) x9
         refine zjA (σ := Bool) (fun q => [(2, .bool last), (3, .pointer (some ⟨b, 0, none⟩)), (4, .pointer (some ⟨c, 0, none⟩)), (7, .int .i64 s.act), (10, .bool q)]) (fun q => fun w' => q = (decide (s.act = 5) && (decide (s.n < 0) || decide ((f.hatches.length : Int) <= s.n))) /\ Ext x9 w') ?_ ?_
         ·
          refine Gs 4 O (zlf 97 O (fun hh21 => ?_) (fun hh21 => ?_))
          ·
           refine Gs 1 O (zlo O tg3 (hB_c.cells 3 _ O) (Gs 2 O (zlf 101 O (fun hh22 => ?_) (fun hh22 => ?_))))
           ·
            refine Gs 10 O ?_
            refine zjC (_) (Sub.cons O (Sub.cons O (Sub.cons O (Sub.cons O (Sub.cons (by first | rfl | (show some (Value.bool true) = some (Value.bool _); simp [*])) Sub.nil))))) (⟨by first | (simp only [hh21, hh22, decide_true, Bool.and_true, Bool.true_or]; done) | (exfalso; omega), hC10⟩)
           ·
            refine Gs 1 O (zlo O tg3 (hB_c.cells 3 _ O) (Gs 1 O (zlo O tg23 (hB_b.cells 1 _ O) (Gs 6 O ?_))))
            refine zjC (_) (zl4 O) (⟨by first | (simp only [hh21, hh22, decide_true, decide_false, Bool.true_and, Bool.false_or]; done) | (exfalso; omega), hC10⟩)
          ·
           refine Gs 14 O ?_
           refine zjC (_) (Sub.cons O (Sub.cons O (Sub.cons O (Sub.cons O (Sub.cons (by first | rfl | (show some (Value.bool false) = some (Value.bool _); simp [*])) Sub.nil))))) (⟨by first | (simp only [hh21, decide_false, Bool.false_and]; done) | (exfalso; omega), hC10⟩)
         rintro q x10 ⟨hq10, hX10⟩
         subst hq10
         obtain ⟨hE, hvs, hk, hb, hB_b, hB_c⟩ := Tr6 hX10 hE hvs hk hb hB_b hB_c
         refine Gs 1 O (G.bool O (fun hh110 => ?_) (fun hh110 => ?_))
         . refine Gs 8 O (zjG tr150 O ⟨_, rfl, by simp only [hh102, hh103, hh104, hh105, hh106, hh107, hh108, hh109, hh110, Bool.not_true, Bool.and_false, Bool.false_and], hE⟩)
         ·
          have hres : ∀ q : Bool, q = (decide (s.act ≠ 6) || (last && xd s.bounds)) -> ∀ {w' : World}, Ext w w' -> ∃ v, Ending.returned (.bool q) = .returned v /\ v = .bool (!(decide (s.act < 0) || decide (6 < s.act)) && !(!uvB s.act && decide (s.var ≠ 0)) && !(!unB s.act && decide (s.n ≠ 0)) && !(!utB s.act && !plainB s.term)
  && !(decide (s.act ≠ 3) && decide (s.act ≠ 4) && decide (0 < (s.thn.length : Int))) && !(decide (s.act ≠ 3) && decide (0 < (s.els.length : Int))) && !(decide (s.act ≠ 6) && decide (0 < (s.bounds.length : Int)))
  && !(uvB s.act && !xv f.vars s.var) && !(decide (s.act = 5) && (decide (s.n < 0) || decide ((f.hatches.length : Int) <= s.n)))
  && (decide (s.act ≠ 6) || (last && xd s.bounds))) /\ Ext w w' := by
           intro q hq w' hw
           refine ⟨_, rfl, ?_, hw⟩
           rw [hq]
           simp only [hh102, hh103, hh104, hh105, hh106, hh107, hh108, hh109, hh110, Bool.not_false, Bool.true_and, Bool.and_true]
          by_cases hbl : 0 < s.bounds.length
          ·
           obtain ⟨x0, hx0⟩ : ∃ x, s.bounds[0]? = some x := ⟨_, znd hbl⟩
           obtain ⟨b_e0, o_e0, c_e0, ha_e0, _, hc_e0, hR_e0⟩ := hb.at (hx0)
           obtain rfl := hR_e0
           have hlt_e0 : b_e0 < _ := znf _ _ (hc_e0 0 _ rfl)
           have hg : xd s.bounds = (decide ((s.bounds.length : Int) <= 32) && decide (0 <= x0) && xc s.bounds) := by
            unfold xd
            rw [hx0, znp (show 1 <= s.bounds.length from hbl)]
            congr 2
            simp; omega
           refine Gs 8 O (zlf 112 O (fun hh23 => ?_) (fun hh23 => ?_))
           . refine Gs 30 O (zjG tr150 O (hres _ (by first | (simp only [hg, hh23, decide_true, Bool.true_or, not_false_eq_true, ne_eq]; done) | (exfalso; omega)) hE))
           ·
            refine Gs 2 O (zli 114 O (fun hh24 => ?_) (fun hh24 => ?_))
            ·
             refine Gs 1 O (zlo O tg27 (hB_c.cells 9 _ O) (Gs 4 O (zlf 120 O (fun hh25 => ?_) (fun hh25 => ?_))))
             ·
              refine Gs 1 O (zlo O tg27 (hB_c.cells 9 _ O) (Gs 4 O (zlf 126 O (fun hh26 => ?_) (fun hh26 => ?_))))
              ·
               refine Gs 1 O (zlo O tg27 (hB_c.cells 9 _ O) (zlk O O (zk5 tR27 ts3 O O ha_e0 (by omega)) (zlo O tg3 (hc_e0 0 _ O) (Gs 3 O (zlf 133 O (fun hh27 => ?_) (fun hh27 => ?_))))))
               ·
                refine Gs 1 O (zlo O tg27 (hB_c.cells 9 _ O) (G.call O Tryz.call203 (zaS s.bounds _ D' _ hb) ?_))
                rintro _ wz28 ⟨rfl, hz28⟩
                obtain ⟨hE, hvs, hk, hb, hB_b, hB_c, hc_e0⟩ := Tr7 hz28 hE hvs hk hb hB_b hB_c hc_e0
                refine Gs 6 O (zjG tr150 O (hres _ (by first | (simp only [hg, hh23, hh24, hh26, hh27, decide_true, decide_false, Bool.and_true, Bool.true_and, Bool.false_or]; done) | (exfalso; omega)) hE))
               . refine Gs 9 O (zjG tr150 O (hres _ (by first | (simp only [hg, hh23, hh24, hh26, hh27, decide_true, decide_false, Bool.and_false, Bool.false_and, Bool.or_false]; done) | (exfalso; omega)) hE))
              . refine Gs 16 O (zjG tr150 O (hres _ (by first | (simp only [hg, hh23, hh24, hh26, decide_false, Bool.and_false, Bool.false_and, Bool.or_false]; done) | (exfalso; omega)) hE))
             . refine Gs 22 O (zjG tr150 O (hres _ (by first | (simp only [hg, hh23, hh24, decide_false, Bool.true_and, Bool.false_or]; done) | (exfalso; omega)) hE))
            . refine Gs 28 O (zjG tr150 O (hres _ (by first | (simp only [hg, hh23, hh24, decide_false, Bool.false_and, Bool.or_false]; done) | (exfalso; omega)) hE))
          ·
           have hg : xd s.bounds = false := by unfold xd; rw [znq (show ¬ 1 <= s.bounds.length by omega)]; rfl
           refine Gs 8 O (zlf 112 O (fun hh29 => ?_) (fun hh29 => ?_))
           . refine Gs 30 O (zjG tr150 O (hres _ (by first | (simp only [hg, hh29, decide_true, Bool.and_false, Bool.or_false, not_false_eq_true, ne_eq]; done) | (exfalso; omega)) hE))
           ·
            refine Gs 2 O (zli 114 O (fun hh30 => ?_) (fun hh30 => ?_))
            ·
             refine Gs 1 O (zlo O tg27 (hB_c.cells 9 _ O) (Gs 4 O (zlf 120 O (fun hh31 => ?_) (fun hh31 => ?_))))
             ·
              refine Gs 1 O (zlo O tg27 (hB_c.cells 9 _ O) (Gs 4 O (zlf 126 O (fun hh32 => ?_) (fun hh32 => ?_))))
              ·
               refine Gs 1 O (zlo O tg27 (hB_c.cells 9 _ O) ?_)
               exfalso
               omega
              . refine Gs 16 O (zjG tr150 O (hres _ (by first | (simp only [hg, hh29, hh30, decide_false, Bool.and_false, Bool.or_false]; done) | (exfalso; omega)) hE))
             . refine Gs 22 O (zjG tr150 O (hres _ (by first | (simp only [hg, hh29, hh30, decide_false, Bool.and_false, Bool.or_false]; done) | (exfalso; omega)) hE))
            . refine Gs 28 O (zjG tr150 O (hres _ (by first | (simp only [hg, hh29, hh30, decide_false, Bool.and_false, Bool.or_false]; done) | (exfalso; omega)) hE))
def jv (a : Int) : Int := if a = 2 then 67108864 else 10000
def yw (s : St) : Bool := !(decide (s.cost < 0) || decide (jv s.act < s.cost) || (decide (s.act = 4) && (decide (s.n < 0) || decide (4096 < s.n)))) && (decide (s.act ≠ 6) || decide (s.bounds[s.bounds.length - 1]?.getD 0 <= 67108864))
theorem zcw (s : St) (cs : List Value) (D : Nat -> Prop) (w : World) (hs : RSt D w s cs) (hb : s.act = 6 -> 0 < s.bounds.length) : Calls Tryz.prog 151 #[.agg cs.toArray] w (Ret fun r w' => r = .bool (yw s) /\ Ext w w') := by
 obtain ⟨v1, v2, v3, v4, rfl, hk, ht, he, hbd⟩ := hs.get
 have hmx := hbd.max
 obtain ⟨av4, nv4, rfl⟩ := hbd.form
 have hlc := hbd.len_cap.2
 have hE := Keep.refl (fun _ => False) w
 refine zlt Tryz.func151 O Tryz.ntmps151 O (Gs 2 O (G.mem O O (M.box O O) ?_))
 rintro _ w_b ⟨b, rfl, hg_b, hs_b, hB_b, hk_b⟩
 have hge_b : _ <= b := znj hE.size (Nat.le_of_eq hg_b.symm)
 obtain ⟨hE, hbd⟩ := Tr2 hk_b hE hbd
 refine Gs 12 O (zlo O tg90 (hB_b.cells 0 _ O) (Gs 3 O (zjm O (fun a2 => ?_) (fun a2 => ?_))))
 ·
  have hct : jv s.act = 67108864 := by rw [jv, zno a2]
  have NB : yw s = (!((decide (s.cost < 0) || decide (67108864 < s.cost) || (decide (s.act = 4) && (decide (s.n < 0) || decide (4096 < s.n))))) && (decide (s.act ≠ 6) || decide (s.bounds[s.bounds.length - 1]?.getD 0 <= 67108864))) := by rw [yw, hct]
  refine Gs 6 O ?_
  have hC := Keep.refl (fun _ => False) w_b
  refine zjA (σ := Bool) (fun q => [(1, .pointer (some ⟨b, 0, none⟩)), (30, .bool q)]) (fun q => fun w' => q = (decide (s.cost < 0) || decide (67108864 < s.cost) || (decide (s.act = 4) && (decide (s.n < 0) || decide (4096 < s.n)))) /\ Ext w_b w') ?_ ?_
  ·
   refine Gs 2 O (zlo O tg3 (hB_b.cells 1 _ O) (Gs 2 O (zlf 10 O (fun hh1 => ?_) (fun hh1 => ?_))))
   ·
    refine Gs 21 O ?_
    refine zjC (_) (Sub.cons O (Sub.cons (by first | rfl | (show some (Value.bool true) = some (Value.bool _); simp [*])) Sub.nil)) (⟨by first | (simp only [a2, hh1, decide_true, Bool.true_or]; done) | (simp [a2, hh1]; done) | (exfalso; omega), hC⟩)
   ·
    refine Gs 1 O (zlo O tg3 (hB_b.cells 1 _ O) (Gs 4 O (zlf 16 O (fun hh2 => ?_) (fun hh2 => ?_))))
    ·
     refine Gs 15 O ?_
     refine zjC (_) (Sub.cons O (Sub.cons (by first | rfl | (show some (Value.bool true) = some (Value.bool _); simp [*])) Sub.nil)) (⟨by first | (simp only [a2, hh1, hh2, decide_true, decide_false, Bool.or_true, Bool.true_or]; done) | (simp [a2, hh1, hh2]; done) | (exfalso; omega), hC⟩)
    ·
     refine Gs 1 O (zlo O tg90 (hB_b.cells 0 _ O) (Gs 2 O (zlf 20 O (fun hh3 => ?_) (fun hh3 => ?_))))
     ·
      refine Gs 1 O (zlo O tg3 (hB_b.cells 3 _ O) (Gs 2 O (zlf 24 O (fun hh4 => ?_) (fun hh4 => ?_))))
      ·
       refine Gs 7 O ?_
       refine zjC (_) (Sub.cons O (Sub.cons (by first | rfl | (show some (Value.bool true) = some (Value.bool _); simp [*])) Sub.nil)) (⟨by first | (simp only [a2, hh1, hh2, hh4, decide_true, decide_false, Bool.and_true, Bool.true_or, Bool.or_false, Bool.false_or]; done) | (simp [a2, hh1, hh2, hh4]; done) | (exfalso; omega), hC⟩)
      ·
       refine Gs 1 O (zlo O tg3 (hB_b.cells 3 _ O) (Gs 5 O ?_))
       refine zjC (_) (zl4 O) (⟨by first | (simp only [a2, hh1, hh2, hh4, decide_false, Bool.or_false, Bool.false_or]; done) | (simp [a2, hh1, hh2, hh4]; done) | (exfalso; omega), hC⟩)
     ·
      refine Gs 11 O ?_
      refine zjC (_) (Sub.cons O (Sub.cons (by first | rfl | (show some (Value.bool false) = some (Value.bool _); simp [*])) Sub.nil)) (⟨by first | (simp only [a2, hh1, hh2, decide_false, Bool.or_false, Bool.false_or]; done) | (simp [a2, hh1, hh2]; done) | (exfalso; omega), hC⟩)
  rintro q x1 ⟨hq1, hX1⟩
  subst hq1
  obtain ⟨hE, hbd, hB_b⟩ := Tr3 hX1 hE hbd hB_b
  refine Gs 1 O (G.bool O (fun hh1 => ?_) (fun hh1 => ?_))
  . refine Gs 7 O (zjG tr151 O ⟨_, rfl, by rw [NB, hh1]; rfl, hE⟩)
  ·
   refine Gs 5 O (zlo O tg90 (hB_b.cells 0 _ O) (Gs 2 O (zlf 34 O (fun a6 => ?_) (fun a6 => ?_))))
   . refine Gs 14 O (zjG tr151 O ⟨_, rfl, by rw [NB, hh1]; simp [a6], hE⟩)
   ·
    have h6 : s.act = 6 := by omega
    have hb0 := hb h6
    obtain ⟨x, hx⟩ : ∃ x, s.bounds[s.bounds.length - 1]? = some x := ⟨_, znd (by omega)⟩
    obtain ⟨b_e, o_e, c_e, ha_e, _, hc_e, hR_e⟩ := hbd.at hx
    obtain rfl := hR_e
    have hto : ((s.bounds.length : Int) - 1).toNat = s.bounds.length - 1 := by omega
    refine Gs 1 O (zlo O tg27 (hB_b.cells 9 _ O) (Gs 1 O (zlo O tg27 (hB_b.cells 9 _ O) (Ga 2 O (by omega) (zlk O O (zk5 tR27 ts3 O O ha_e (by omega)) (zlo O tg3 (by rw [hto]; exact hc_e 0 _ O) (Gs 6 O (zjG tr151 O ⟨_, rfl, by rw [NB, hh1, hx]; simp [h6], hE⟩))))))))
 ·
  have hct : jv s.act = 10000 := by rw [jv, znn a2]
  have NB : yw s = (!((decide (s.cost < 0) || decide (10000 < s.cost) || (decide (s.act = 4) && (decide (s.n < 0) || decide (4096 < s.n))))) && (decide (s.act ≠ 6) || decide (s.bounds[s.bounds.length - 1]?.getD 0 <= 67108864))) := by rw [yw, hct]
  refine Gs 4 O ?_
  have hC := Keep.refl (fun _ => False) w_b
  refine zjA (σ := Bool) (fun q => [(1, .pointer (some ⟨b, 0, none⟩)), (30, .bool q)]) (fun q => fun w' => q = (decide (s.cost < 0) || decide (10000 < s.cost) || (decide (s.act = 4) && (decide (s.n < 0) || decide (4096 < s.n)))) /\ Ext w_b w') ?_ ?_
  ·
   refine Gs 2 O (zlo O tg3 (hB_b.cells 1 _ O) (Gs 2 O (zlf 10 O (fun hh5 => ?_) (fun hh5 => ?_))))
   ·
    refine Gs 21 O ?_
    refine zjC (_) (Sub.cons O (Sub.cons (by first | rfl | (show some (Value.bool true) = some (Value.bool _); simp [*])) Sub.nil)) (⟨by first | (simp only [hh5, decide_true, Bool.true_or]; done) | (simp [a2, hh5]; done) | (exfalso; omega), hC⟩)
   ·
    refine Gs 1 O (zlo O tg3 (hB_b.cells 1 _ O) (Gs 4 O (zlf 16 O (fun hh6 => ?_) (fun hh6 => ?_))))
    ·
     refine Gs 15 O ?_
     refine zjC (_) (Sub.cons O (Sub.cons (by first | rfl | (show some (Value.bool true) = some (Value.bool _); simp [*])) Sub.nil)) (⟨by first | (simp only [hh5, hh6, decide_true, decide_false, Bool.or_true, Bool.true_or]; done) | (simp [a2, hh5, hh6]; done) | (exfalso; omega), hC⟩)
    ·
     refine Gs 1 O (zlo O tg90 (hB_b.cells 0 _ O) (Gs 2 O (zlf 20 O (fun hh7 => ?_) (fun hh7 => ?_))))
     ·
      refine Gs 1 O (zlo O tg3 (hB_b.cells 3 _ O) (Gs 2 O (zlf 24 O (fun hh8 => ?_) (fun hh8 => ?_))))
      ·
       refine Gs 7 O ?_
       refine zjC (_) (Sub.cons O (Sub.cons (by first | rfl | (show some (Value.bool true) = some (Value.bool _); simp [*])) Sub.nil)) (⟨by first | (simp only [hh5, hh6, hh7, hh8, decide_true, decide_false, Bool.and_true, Bool.or_true, Bool.true_or, Bool.or_false]; done) | (simp [a2, hh5, hh6, hh7, hh8]; done) | (exfalso; omega), hC⟩)
      ·
       refine Gs 1 O (zlo O tg3 (hB_b.cells 3 _ O) (Gs 5 O ?_))
       refine zjC (_) (zl4 O) (⟨by first | (simp only [hh5, hh6, hh7, hh8, decide_true, decide_false, Bool.true_and, Bool.or_false, Bool.false_or]; done) | (simp [a2, hh5, hh6, hh7, hh8]; done) | (exfalso; omega), hC⟩)
     ·
      refine Gs 11 O ?_
      refine zjC (_) (Sub.cons O (Sub.cons (by first | rfl | (show some (Value.bool false) = some (Value.bool _); simp [*])) Sub.nil)) (⟨by first | (simp only [hh5, hh6, hh7, decide_false, Bool.false_and, Bool.or_false]; done) | (simp [a2, hh5, hh6, hh7]; done) | (exfalso; omega), hC⟩)
  rintro q x2 ⟨hq2, hX2⟩
  subst hq2
  obtain ⟨hE, hbd, hB_b⟩ := Tr3 hX2 hE hbd hB_b
  refine Gs 1 O (G.bool O (fun hh2 => ?_) (fun hh2 => ?_))
  . refine Gs 7 O (zjG tr151 O ⟨_, rfl, by rw [NB, hh2]; rfl, hE⟩)
  ·
   refine Gs 5 O (zlo O tg90 (hB_b.cells 0 _ O) (Gs 2 O (zlf 34 O (fun a6 => ?_) (fun a6 => ?_))))
   . refine Gs 14 O (zjG tr151 O ⟨_, rfl, by rw [NB, hh2]; simp [a6], hE⟩)
   ·
    have h6 : s.act = 6 := by omega
    have hb0 := hb h6
    obtain ⟨x, hx⟩ : ∃ x, s.bounds[s.bounds.length - 1]? = some x := ⟨_, znd (by omega)⟩
    obtain ⟨b_e, o_e, c_e, ha_e, _, hc_e, hR_e⟩ := hbd.at hx
    obtain rfl := hR_e
    have hto : ((s.bounds.length : Int) - 1).toNat = s.bounds.length - 1 := by omega
    refine Gs 1 O (zlo O tg27 (hB_b.cells 9 _ O) (Gs 1 O (zlo O tg27 (hB_b.cells 9 _ O) (Ga 2 O (by omega) (zlk O O (zk5 tR27 ts3 O O ha_e (by omega)) (zlo O tg3 (by rw [hto]; exact hc_e 0 _ O) (Gs 6 O (zjG tr151 O ⟨_, rfl, by rw [NB, hh2, hx]; simp [h6], hE⟩))))))))
theorem zeq (vs : List Ht) (vv : Value) (D : Nat -> Prop) (w : World) (hvs : SlR 6 RHt D w vv vs) (p : Ht -> Bool) (g : FuncId) (cp : Value) (hf : ∀ args w, (callFunc g args).run Tryz.prog w = .ok (.enter g args) w)
  (hc : ∀ x ∈ vs, ∀ kv w', Ext w w' -> Calls Tryz.prog g #[.agg #[.string x.name, .int .i64 x.low, .int .i64 x.high, .int .i64 x.term.op, .int .i64 x.term.n, kv], cp] w' (Ret fun r w'' => r = .bool (p x) /\ Ext w' w'')) :
  Calls Tryz.prog 196 #[vv, .func (.func g) #[] #[cp]] w (Ret fun r w' => (∃ i : Int, r = .int .i64 i /\ (0 <= i ↔ vs.any p = true)) /\ Ext w w') := by
 have hmx := hvs.max
 obtain ⟨av, nv, rfl⟩ := hvs.form
 refine zlu Tryz.func196 O Tryz.ntmps196 O (Gs 14 O (G.loop (σ := Nat) (fun i => [(0, .slice av vs.length nv), (1, .func (.func g) #[] #[cp]), (7, .int .i64 vs.length), (8, .int .i64 i)]) (fun i => fun w' => i <= vs.length /\ (vs.take i).any p = false /\ Ext w w') (fun i => vs.length - i) (0) (zl4 O) (⟨zns _, rfl, Keep.refl _ _⟩) ?_))
 rintro i w1 ⟨hi, hno, hL1⟩
 replace hvs := Tr1 hL1 hvs
 refine Gs 6 O (zjm O (fun hlt => ?_) (fun hlt => ?_))
 ·
  obtain ⟨x, he_x, hm_x⟩ := gE_ vs (i) (by omega)
  obtain ⟨b_x, o_x, c_x, ha_x, _, hc_x, hR_x⟩ := hvs.at he_x
  have h1_x := RHt.one hR_x
  obtain ⟨v1_x, rfl, hk_x⟩ := hR_x
  obtain ⟨a1_x, n1_x, rfl⟩ := hk_x.form
  have hlt_x : b_x < _ := znf _ _ (hc_x 0 _ rfl)
  refine Gs 15 O (zlk O O (zk5 tR23 ts95 O O ha_x (by omega)) (zlq O tg95 ts95 hc_x O (zkb O hf (hc x hm_x _ _ hL1) ?_)))
  rintro _ wz1 ⟨rfl, hz1⟩
  obtain ⟨hvs, hL1, hc_x, hk_x⟩ := Tr4 hz1 hvs hL1 hc_x hk_x
  refine Gs 2 O (G.bool O (fun hp => ?_) (fun hp => ?_))
  . refine Gs 12 O (zjG Tryz.results196 O ⟨_, rfl, ⟨_, rfl, by rw [zgT hm_x hp]; simp⟩, hL1⟩)
  . refine Ga 7 O (by omega) (zjx (i + 1) (zl4 O) (⟨by omega, jK he_x hno hp, hL1⟩) (by first | omega | (dsimp only; omega)))
 ·
  have : i = vs.length := by omega
  subst this
  rw [zni] at hno
  refine Gs 11 O (zjG Tryz.results196 O ⟨_, rfl, ⟨_, rfl, by rw [hno]; simp⟩, hL1⟩)
theorem zbK (vs : List Ht) (vv : Value) (D : Nat -> Prop) (w : World) (hvs : SlR 6 RHt D w vv vs) (p : Ht -> Bool) (g : FuncId) (cp : Value) (hf : ∀ args w, (callFunc g args).run Tryz.prog w = .ok (.enter g args) w)
  (hc : ∀ x ∈ vs, ∀ kv w', Ext w w' -> Calls Tryz.prog g #[.agg #[.string x.name, .int .i64 x.low, .int .i64 x.high, .int .i64 x.term.op, .int .i64 x.term.n, kv], cp] w' (Ret fun r w'' => r = .bool (p x) /\ Ext w' w'')) :
  Calls Tryz.prog 148 #[vv, .func (.func g) #[] #[cp]] w (Ret fun r w' => r = .bool (vs.any p) /\ Ext w w') := by
 have hE := Keep.refl (fun _ => False) w
 refine zlu Tryz.func148 O Tryz.ntmps148 O (Gs 9 O (G.call O Tryz.call196 (zeq vs vv D w hvs p g cp hf hc) ?_))
 rintro _ wz1 ⟨⟨i, rfl, hi⟩, hz1⟩
 replace hE := Tr1 hz1 hE
 refine Gs 5 O (zjG Tryz.results148 O ⟨_, rfl, by cases h : vs.any p <;> simp [h] at hi ⊢ <;> omega, hE⟩)
theorem zfY (h x : Ht) (kv kx : Value) (c : Nat) (w : World) (hB : Blk w c [.string x.name, .int .i64 x.low, .int .i64 x.high, .int .i64 x.term.op, .int .i64 x.term.n, kx] 95) : Calls Tryz.prog 147 #[.agg #[.string h.name, .int .i64 h.low, .int .i64 h.high, .int .i64 h.term.op, .int .i64 h.term.n, kv], .pointer (some ⟨c, 0, none⟩)] w (Ret fun r w' => r = .bool (xn h.name x.name) /\ Ext w w') := by
 have hE := Keep.refl (fun _ => False) w
 refine zlu Tryz.func147 O Tryz.ntmps147 O (Gs 2 O (G.mem O O (M.box O O) ?_))
 rintro _ w_b ⟨b, rfl, hg_b, hs_b, hB_b, hk_b⟩
 have hge_b : _ <= b := znj hE.size (Nat.le_of_eq hg_b.symm)
 obtain ⟨hE, hB⟩ := Tr2 hk_b hE hB
 refine Gs 6 O (zlo O tg9 (hB_b.cells 0 _ O) (Gs 1 O (zlo O tg9 (hB.cells 0 _ O) (Gs 5 O (zjG Tryz.results147 O ⟨_, rfl, rfl, hE⟩)))))
def yf (vs : List Vr) (prev : List Ht) (h : Ht) : Int :=
 if zaN h.name = false then 7
 else if prev.any (fun u => xn u.name h.name) = true then 8
 else if zbh h.low h.high = false then 3
 else zM vs true h.term
def jw (vs : List Vr) (hs : List Ht) (i : Nat) : Int := match hs[i]? with
 | some h => yf vs (hs.take i) h
 | none => 0
theorem zar {vs : List Vr} {hs : List Ht} {i : Nat} {h : Ht} (e : hs[i]? = some h) : jw vs hs i = yf vs (hs.take i) h := by simp [jw, e]
def zG (vs : List Vr) (hs : List Ht) : Int := zY (jw vs hs) 0 hs.length
theorem zah (f : Fl) (v1 v2 v3 : Value) (D : Nat -> Prop) (w : World) (hf : RFl D w f v1 v2 v3) (hg : ∀ v ∈ f.vars, ym (v.low, v.high)) (hsz : ∀ h ∈ f.hatches, h.term.nodes <= 1000000) (hlen : f.hatches.length <= 1000000) : Calls Tryz.prog 116 #[.agg #[v1, v2, v3]] w (Ret fun r w' => r = .int .i64 (zG f.vars f.hatches) /\ Ext w w') := by
 have hvs := hf.vars
 have hhs := hf.hatches
 obtain ⟨av, nv, rfl⟩ := hhs.form
 have hlc := hhs.len_cap.2
 have hE := Keep.refl (fun _ => False) w
 refine zlt Tryz.func116 O Tryz.ntmps116 O (Gs 2 O (G.mem O O (M.box O O) ?_))
 rintro _ w_b ⟨b, rfl, hg_b, hs_b, hB_b, hk_b⟩
 have hge_b : _ <= b := znj hE.size (Nat.le_of_eq hg_b.symm)
 obtain ⟨hvs, hhs, hE⟩ := Tr3 hk_b hvs hhs hE
 refine Gs 7 O (zlo O tg23 (hB_b.cells 1 _ O) (Gs 5 O (G.loop (σ := Nat) (fun i => [(1, .pointer (some ⟨b, 0, none⟩)), (8, .slice av f.hatches.length nv), (9, .int .i64 f.hatches.length), (10, .int .i64 i)]) (fun i => fun w' => i <= f.hatches.length /\ (∀ j, j < i -> jw f.vars f.hatches j = 0) /\ Ext w_b w') (fun i => f.hatches.length - i) (0) (zl4 O) (⟨zns _, fun j h => absurd h (Nat.not_lt_zero _), Keep.refl _ _⟩) ?_)))
 rintro i w1 ⟨hi, hall, hL1⟩
 obtain ⟨hvs, hhs, hE, hB_b⟩ := Tr4 hL1 hvs hhs hE hB_b
 refine Gs 6 O (zjm O (fun hlt => ?_) (fun hlt => ?_))
 ·
  obtain ⟨x, he_x, hm_x⟩ := gE_ f.hatches (i) (by omega)
  obtain ⟨b_x, o_x, c_x, ha_x, _, hc_x, hR_x⟩ := hhs.at he_x
  have h1_x := RHt.one hR_x
  obtain ⟨v1_x, rfl, hk_x⟩ := hR_x
  obtain ⟨a1_x, n1_x, rfl⟩ := hk_x.form
  have hlt_x : b_x < _ := znf _ _ (hc_x 0 _ rfl)
  have hat := zar (vs := f.vars) he_x
  have hbad : ∀ c : Int, yf f.vars (f.hatches.take i) x = c -> c ≠ 0 -> zG f.vars f.hatches = c := by
   intro c h1 h2
   have h3 : jw f.vars f.hatches i ≠ 0 := by rw [hat, h1]; exact h2
   rw [zG, kM hall (by omega) h3, hat, h1]
  have hnext : yf f.vars (f.hatches.take i) x = 0 -> ∀ j, j < i + 1 -> jw f.vars f.hatches j = 0 := by
   intro h j hj
   by_cases e : j = i
   . subst e; rw [hat, h]
   . exact hall j (by omega)
  refine Gs 7 O (zlk O O (zk5 tR23 ts95 O O ha_x (by omega)) (zlq O tg95 ts95 hc_x O (G.mem O O (M.alloc (cs := _) tz95 O) ?_)))
  rintro _ wa1 ⟨c, rfl, hg_c, hs_c, hB_c, hk_c⟩
  refine Gs 1 O (zke O (zkf ts95 O O O O h1_x hB_c (by simp)) ?_)
  rintro w_c ⟨_, hB_c, hkk_c⟩
  replace hk_c := hk_c.trans hkk_c (fun q hq h => by have h : q = c := h; omega)
  have hn_b_c : b ≠ c := by have := hB_b.lt; omega
  have hge_c : _ <= c := znj hE.size (Nat.le_of_eq hg_c.symm)
  obtain ⟨hvs, hhs, hE, hB_b, hL1, hc_x, hk_x⟩ := Tr7 hk_c hvs hhs hE hB_b hL1 hc_x hk_x
  refine Gs 13 O (zlo O tg9 (hB_c.cells 0 _ O) (G.call O Tryz.call144 (qX x.name _) ?_))
  rintro _ wz2 ⟨rfl, hz2⟩
  obtain ⟨hvs, hhs, hE, hB_b, hL1, hc_x, hk_x⟩ := Tr7 hz2 hvs hhs hE hB_b hL1 hc_x hk_x
  replace hB_c := Tr1 hz2 hB_c
  refine zlk O O (zkO O (by first | exact zb | rfl)) (Gs 3 O (G.bool O (fun n0 => ?_) (fun n0 => ?_)))
  ·
   have n0' : zaN x.name = false := by simpa using n0
   refine Gs 13 O (zjG tr116 O ⟨_, rfl, by rw [hbad 7 (by rw [yf, zno n0']) (by decide)], hE⟩)
  ·
   have n0' : ¬ zaN x.name = false := by simpa using n0
   refine Gs 3 O (zlo O tg23 (hB_b.cells 1 _ O) (Gs 1 O (zlk O O (zkH tR23 ts95 O O (by omega)) (Gs 1 O ?_))))
   have htk := hhs.take i (by omega)
   refine G.call O Tryz.call148 (zbK (f.hatches.take i) _ D _ htk (fun u => xn u.name x.name) 147 (.pointer (some ⟨c, 0, none⟩)) Tryz.call147 (fun y _ kv w' hw' => zfY y x kv _ c w' (hw'.blk hB_c (fun h => h)))) ?_
   rintro _ wz3 ⟨rfl, hz3⟩
   obtain ⟨hvs, hhs, hE, hB_b, hL1, hc_x, hk_x⟩ := Tr7 hz3 hvs hhs hE hB_b hL1 hc_x hk_x
   replace hB_c := Tr1 hz3 hB_c
   refine Gs 3 O (G.bool O (fun d0 => ?_) (fun d0 => ?_))
   . refine Gs 13 O (zjG tr116 O ⟨_, rfl, by rw [hbad 8 (by rw [yf, znn n0', zno d0]) (by decide)], hE⟩)
   ·
    have n1 : ¬ (f.hatches.take i).any (fun u => xn u.name x.name) = true := by rw [d0]; decide
    refine Gs 3 O (zlo O tg3 (hB_c.cells 1 _ O) (Gs 1 O (zlo O tg3 (hB_c.cells 2 _ O) (G.call O Tryz.call146 (qv x.low x.high _) ?_))))
    rintro _ wz4 ⟨rfl, hz4⟩
    obtain ⟨hvs, hhs, hE, hB_b, hL1, hc_x, hk_x⟩ := Tr7 hz4 hvs hhs hE hB_b hL1 hc_x hk_x
    replace hB_c := Tr1 hz4 hB_c
    refine zlk O O (zkO O (by first | exact zb | rfl)) (Gs 3 O (G.bool O (fun n3 => ?_) (fun n3 => ?_)))
    ·
     have n3' : zbh x.low x.high = false := by simpa using n3
     refine Gs 13 O (zjG tr116 O ⟨_, rfl, by rw [hbad 3 (by rw [yf, znn n0', znn n1, zno n3']) (by decide)], hE⟩)
    ·
     have n3' : ¬ zbh x.low x.high = false := by simpa using n3
     have hcc : yf f.vars (f.hatches.take i) x = zM f.vars true x.term := by rw [yf, znn n0', znn n1, znn n3']
     refine Gs 6 O (zlo O tg22 (hB_b.cells 0 _ O) (Gs 1 O (zlq O tg86 ts86 (hB_c.cells.sub 3 3) O (G.call O Tryz.call149 (kL f.vars true v1 _ D D _ x.term hg hvs (RTm.put hk_x) (hsz x hm_x)) ?_))))
     rintro _ wz5 ⟨rfl, hz5⟩
     obtain ⟨hvs, hhs, hE, hB_b, hL1, hc_x, hk_x⟩ := Tr7 hz5 hvs hhs hE hB_b hL1 hc_x hk_x
     replace hB_c := Tr1 hz5 hB_c
     refine Gs 9 O (zjm O (fun tz => ?_) (fun tz => ?_))
     . refine Gs 12 O (zjG tr116 O ⟨_, rfl, by rw [hbad _ hcc tz], hE⟩)
     . refine Ga 7 O (by omega) (zjx (i + 1) (zl4 O) (⟨by omega, hnext (by rw [hcc]; omega), hL1⟩) (by first | omega | (dsimp only; omega)))
 ·
  have hii : i = f.hatches.length := by omega
  subst hii
  refine Gs 11 O (zjG tr116 O ⟨_, rfl, by rw [zG, jb hall], hE⟩)
mutual
def zy (vs : List Vr) (nh : Nat) : St -> Bool -> Int
 | .mk a c v n t f g bs, last =>
  if zT vs nh (.mk a c v n t f g bs) last = false then 1
  else if yw (.mk a c v n t f g bs) = false then 3
  else if zM vs false t ≠ 0 then zM vs false t
  else if zc vs nh f false ≠ 0 then zc vs nh f false
  else zc vs nh g false
def zc (vs : List Vr) (nh : Nat) : List St -> Bool -> Int
 | [], _ => 0
 | s :: r, top => if zy vs nh s (top && r.isEmpty) ≠ 0 then zy vs nh s (top && r.isEmpty) else zc vs nh r top
end
theorem yx (vs : List Vr) (nh : Nat) (s : St) (last : Bool) : zy vs nh s last =
  if zT vs nh s last = false then 1 else if yw s = false then 3 else if zM vs false s.term ≠ 0 then zM vs false s.term
  else if zc vs nh s.thn false ≠ 0 then zc vs nh s.thn false else zc vs nh s.els false := by
 cases s; rw [zy]; rfl
theorem zai (vs : List Vr) (nh : Nat) (top : Bool) (l : List St) (i : Nat) (x : St) (h : l[i]? = some x) :
  zc vs nh (l.drop i) top = if zy vs nh x (top && decide (i = l.length - 1)) ≠ 0 then zy vs nh x (top && decide (i = l.length - 1)) else zc vs nh (l.drop (i + 1)) top := by
 obtain ⟨hi, hx⟩ := znr.1 h
 rw [List.drop_eq_getElem_cons hi, hx, zc]
 have : (l.drop (i + 1)).isEmpty = decide (i = l.length - 1) := by
  rw [Bool.eq_iff_iff]; simp; omega
 rw [this]
theorem zaT {vs : List Vr} {nh : Nat} {s : St} {last : Bool} (h : zT vs nh s last = true) : s.act = 6 -> 0 < s.bounds.length := by
 intro h6
 rw [kO] at h
 simp [h6, xd] at h
 omega
theorem zbL (f : Fl) (v1 v2 v3 : Value) (hg : ∀ v ∈ f.vars, ym (v.low, v.high)) (Df : Nat -> Prop) (l : List St) : ∀ (v : Value) (D : Nat -> Prop) (w : World) (top : Bool), RFl Df w f v1 v2 v3 -> SlR 10 RSt D w v l -> xu l <= 1000000 -> Calls Tryz.prog 117 #[.agg #[v1, v2, v3], v, .bool top] w (Ret fun r w' => r = .int .i64 (zc f.vars f.hatches.length l top) /\ Ext w w') := by
 induction l using zkX with
 | h l ih =>
 intro v D w top hf hl hb
 obtain ⟨hvs, hhs, hbd⟩ := hf
 have hmx := hl.max
 obtain ⟨av, nv, rfl⟩ := hl.form
 have hE := Keep.refl (fun _ => False) w
 refine zlv Tryz.func117 O Tryz.ntmps117 O (Gs 2 O (G.mem O O (M.box O O) ?_))
 rintro _ w_b ⟨b, rfl, hg_b, hs_b, hB_b, hk_b⟩
 have hge_b : _ <= b := znj hE.size (Nat.le_of_eq hg_b.symm)
 obtain ⟨hE, hvs, hhs, hbd, hl⟩ := Tr5 hk_b hE hvs hhs hbd hl
 refine Gs 12 O (G.loop (σ := Nat) (fun i => [(1, .slice av l.length nv), (2, .bool top), (3, .pointer (some ⟨b, 0, none⟩)), (13, .slice av l.length nv), (14, .int .i64 l.length), (15, .int .i64 i)]) (fun i => fun w' => i <= l.length /\ zc f.vars f.hatches.length l top = zc f.vars f.hatches.length (l.drop i) top /\ Ext w_b w') (fun i => l.length - i) (0) (zl4 O) (⟨zns _, rfl, Keep.refl _ _⟩) ?_)
 rintro i w1 ⟨hi, hall, hL1⟩
 obtain ⟨hE, hvs, hhs, hbd, hl, hB_b⟩ := Tr6 hL1 hE hvs hhs hbd hl hB_b
 refine Gs 6 O (zjm O (fun hlt => ?_) (fun hlt => ?_))
 ·
  obtain ⟨x, he_x, hm_x⟩ := gE_ l (i) (by omega)
  obtain ⟨b_x, o_x, c_x, ha_x, _, hc_x, hR_x⟩ := hl.at he_x
  have h1_x := RSt.one hR_x
  obtain ⟨v1_x, v2_x, v3_x, v4_x, rfl, hk_x, ht_x, hs_x, hb_x⟩ := hR_x.get
  obtain ⟨a1_x, n1_x, rfl⟩ := hk_x.form
  obtain ⟨a2_x, n2_x, rfl⟩ := ht_x.form
  obtain ⟨a3_x, n3_x, rfl⟩ := hs_x.form
  obtain ⟨a4_x, n4_x, rfl⟩ := hb_x.form
  have hlt_x : b_x < _ := znf _ _ (hc_x 0 _ rfl)
  have hst := zai f.vars f.hatches.length top l i x he_x
  refine Gs 7 O (zlk O O (zk5 tR24 ts92 O O ha_x (by omega)) (zlq O tg92 ts92 hc_x O (G.mem O O (M.alloc (cs := _) tz92 O) ?_)))
  rintro _ wa1 ⟨c, rfl, hg_c, hs_c, hB_c, hk_c⟩
  refine Gs 1 O (zke O (zkf ts92 O O O O h1_x hB_c (by simp)) ?_)
  rintro w_c ⟨_, hB_c, hkk_c⟩
  replace hk_c := hk_c.trans hkk_c (fun q hq h => by have h : q = c := h; omega)
  have hn_b_c : b ≠ c := by have := hB_b.lt; omega
  have hge_c : _ <= c := znj hE.size (Nat.le_of_eq hg_c.symm)
  obtain ⟨hE, hvs, hhs, hbd, hl, hB_b, hL1⟩ := Tr7 hk_c hE hvs hhs hbd hl hB_b hL1
  obtain ⟨hc_x, hk_x, ht_x, hs_x, hb_x⟩ := Tr5 hk_c hc_x hk_x ht_x hs_x hb_x
  have hnl : ((l.length : Int) - 1 = ((l.length - 1 : Nat) : Int)) := by omega
  refine Gs 4 O ?_
  have hC := Keep.refl (fun _ => False) w_c
  refine zjA (σ := Bool) (fun q => [(1, .slice av l.length nv), (2, .bool top), (3, .pointer (some ⟨b, 0, none⟩)), (7, .int .i64 i), (8, .pointer (some ⟨c, 0, none⟩)), (13, .slice av l.length nv), (14, .int .i64 l.length), (15, .int .i64 i), (31, .bool q)]) (fun q => fun w' => q = !(zT f.vars f.hatches.length x (top && decide (i = l.length - 1))) /\ Ext w_c w') ?_ ?_
  ·
   refine Gs 1 O (zlq O tg26 ts26 hB_b.cells O (zlq O tg92 ts92 hB_c.cells O (Gs 2 O (zli 23 O (fun tt => ?_) (fun tt => ?_)))))
   ·
    refine Ga 6 O (by omega) (G.call O Tryz.call150 (jc f x _ v1 v2 v3 _ _ _ _ ⟨hvs, hhs, hbd⟩ (RSt.put hk_x ht_x hs_x hb_x)) ?_)
    rintro _ wz2 ⟨rfl, hz2⟩
    obtain ⟨hE, hvs, hhs, hbd, hl, hB_b, hL1⟩ := Tr7 hz2 hE hvs hhs hbd hl hB_b hL1
    obtain ⟨hc_x, hk_x, ht_x, hs_x, hb_x, hB_c, hC⟩ := Tr7 hz2 hc_x hk_x ht_x hs_x hb_x hB_c hC
    refine zlk O O (zkO O (by first | exact zb | rfl)) (Gs 1 O ?_)
    refine zjC (_) (zl4 O) (⟨by rw [tt, Bool.true_and]; congr 2; simp only [znF]; omega, hC⟩)
   ·
    refine Gs 6 O (G.call O Tryz.call150 (jc f x _ v1 v2 v3 _ _ _ _ ⟨hvs, hhs, hbd⟩ (RSt.put hk_x ht_x hs_x hb_x)) ?_)
    rintro _ wz3 ⟨rfl, hz3⟩
    obtain ⟨hE, hvs, hhs, hbd, hl, hB_b, hL1⟩ := Tr7 hz3 hE hvs hhs hbd hl hB_b hL1
    obtain ⟨hc_x, hk_x, ht_x, hs_x, hb_x, hB_c, hC⟩ := Tr7 hz3 hc_x hk_x ht_x hs_x hb_x hB_c hC
    refine zlk O O (zkO O (by first | exact zb | rfl)) (Gs 1 O ?_)
    refine zjC (_) (zl4 O) (⟨by rw [tt, Bool.false_and], hC⟩)
  rintro q x1 ⟨hq, hX1⟩
  subst hq
  obtain ⟨hE, hvs, hhs, hbd, hl, hB_b, hL1⟩ := Tr7 hX1 hE hvs hhs hbd hl hB_b hL1
  obtain ⟨hc_x, hk_x, ht_x, hs_x, hb_x, hB_c⟩ := Tr6 hX1 hc_x hk_x ht_x hs_x hb_x hB_c
  generalize hlast : (top && decide (i = l.length - 1)) = last at *
  refine Gs 1 O (G.bool O (fun hsh => ?_) (fun hsh => ?_))
  ·
   have hsh' : zT f.vars f.hatches.length x last = false := by simpa using hsh
   refine Gs 12 O (zjG tr117 O ⟨_, rfl, by rw [hall, hst, yx, zno hsh']; rfl, hE⟩)
  ·
   have hsh' : zT f.vars f.hatches.length x last = true := by simpa using hsh
   have hshn : ¬ zT f.vars f.hatches.length x last = false := by rw [hsh']; decide
   refine Gs 5 O (zlq O tg92 ts92 hB_c.cells O (G.call O Tryz.call151 (zcw x _ D _ (RSt.put hk_x ht_x hs_x hb_x) (zaT hsh')) ?_))
   rintro _ wz4 ⟨rfl, hz4⟩
   obtain ⟨hE, hvs, hhs, hbd, hl, hB_b, hL1⟩ := Tr7 hz4 hE hvs hhs hbd hl hB_b hL1
   obtain ⟨hc_x, hk_x, ht_x, hs_x, hb_x, hB_c⟩ := Tr6 hz4 hc_x hk_x ht_x hs_x hb_x hB_c
   refine zlk O O (zkO O (by first | exact zb | rfl)) (Gs 2 O (G.bool O (fun hnu => ?_) (fun hnu => ?_)))
   ·
    have hnu' : yw x = false := by simpa using hnu
    refine Gs 12 O (zjG tr117 O ⟨_, rfl, by rw [hall, hst, yx, znn hshn, zno hnu']; rfl, hE⟩)
   ·
    have hnu' : ¬ yw x = false := by simpa using hnu
    refine Gs 6 O (zlo O tg22 (hB_b.cells 0 _ O) (Gs 1 O (zlq O tg86 ts86 (hB_c.cells.sub 4 3) O ?_)))
    have hbx := zbB hm_x
    rw [zmF] at hbx
    refine G.call O Tryz.call149 (kL f.vars false v1 _ _ _ _ x.term hg hvs (RTm.put hk_x) (by omega)) ?_
    rintro _ wz5 ⟨rfl, hz5⟩
    obtain ⟨hE, hvs, hhs, hbd, hl, hB_b, hL1⟩ := Tr7 hz5 hE hvs hhs hbd hl hB_b hL1
    obtain ⟨hc_x, hk_x, ht_x, hs_x, hb_x, hB_c⟩ := Tr6 hz5 hc_x hk_x ht_x hs_x hb_x hB_c
    refine Gs 9 O (zjm O (fun tz => ?_) (fun tz => ?_))
    . refine Gs 13 O (zjG tr117 O ⟨_, rfl, by rw [hall, hst, yx, znn hshn, znn hnu', zno tz, zno tz], hE⟩)
    ·
     have hcode : zy f.vars f.hatches.length x last = if zc f.vars f.hatches.length x.thn false ≠ 0 then zc f.vars f.hatches.length x.thn false else zc f.vars f.hatches.length x.els false := by rw [yx, znn hshn, znn hnu', znn tz]
     refine Gs 5 O (zlo O tg24 (hB_c.cells 7 _ O) (Gs 1 O (zlo O tg24 (hB_c.cells 8 _ O) (G.mem O O (M.buildSlice (cs := [.slice a2_x x.thn.length n2_x, .slice a3_x x.els.length n3_x]) [(0, _), (1, _)] Tryz.runUnderlying190 ts24 Tryz.zeroValue24 (by decide) O (by kernel_rfl)) ?_))))
     rintro _ w3 ⟨b3, rfl, hg_b3, hs_b3, hB_b3, hk_b3⟩
     obtain ⟨hE, hvs, hhs, hbd, hl, hB_b, hL1⟩ := Tr7 hk_b3 hE hvs hhs hbd hl hB_b hL1
     obtain ⟨hc_x, hk_x, ht_x, hs_x, hb_x, hB_c⟩ := Tr6 hk_b3 hc_x hk_x ht_x hs_x hb_x hB_c
     refine Gs 5 O (G.loop (σ := Nat) (fun k => [(1, .slice av l.length nv), (2, .bool top), (3, .pointer (some ⟨b, 0, none⟩)), (7, .int .i64 i), (8, .pointer (some ⟨c, 0, none⟩)), (13, .slice av l.length nv), (14, .int .i64 l.length), (15, .int .i64 i), (47, .slice (some ⟨b3, 0, none⟩) 2 2), (48, .int .i64 2), (49, .int .i64 k)]) (fun k => fun w' => k <= 2 /\ (1 <= k -> zc f.vars f.hatches.length x.thn false = 0) /\ (2 <= k -> zc f.vars f.hatches.length x.els false = 0) /\ Ext w3 w') (fun k => 2 - k) (0) (zl4 O) (⟨zns _, fun h => absurd h (by decide), fun h => absurd h (by decide), Keep.refl _ _⟩) ?_)
     rintro k w4 ⟨hk2, hk0, hk1, hL2⟩
     obtain ⟨hE, hvs, hhs, hbd, hl, hB_b, hL1⟩ := Tr7 hL2 hE hvs hhs hbd hl hB_b hL1
     obtain ⟨hc_x, hk_x, ht_x, hs_x, hb_x, hB_c, hB_b3⟩ := Tr7 hL2 hc_x hk_x ht_x hs_x hb_x hB_c hB_b3
     refine Gs 6 O (zjm O (fun klt => ?_) (fun klt => ?_))
     ·
      rcases (show k = 0 \/ k = 1 by omega) with rfl | rfl
      ·
       refine Ga 7 O (by omega) (zlo O tg24 (hB_b3.cells 0 _ O) (Gs 5 O (zlq O tg26 ts26 hB_b.cells O (Gs 1 O (G.call O Tryz.call117 ((ih x hm_x).1 _ _ _ false ⟨hvs, hhs, hbd⟩ ht_x (by omega)) ?_)))))
       rintro _ wz6 ⟨rfl, hz6⟩
       obtain ⟨hE, hvs, hhs, hbd, hl, hB_b, hL1⟩ := Tr7 hz6 hE hvs hhs hbd hl hB_b hL1
       obtain ⟨hc_x, hk_x, ht_x, hs_x, hb_x, hB_c, hB_b3⟩ := Tr7 hz6 hc_x hk_x ht_x hs_x hb_x hB_c hB_b3
       replace hL2 := Tr1 hz6 hL2
       refine Gs 9 O (zjm O (fun tz1 => ?_) (fun tz1 => ?_))
       . refine Gs 16 O (zjG tr117 O ⟨_, rfl, by rw [hall, hst, hcode, zno tz1, zno tz1], hE⟩)
       . refine Ga 7 O (by omega) (zjx (1) (zl4 O) (⟨by omega, fun _ => by omega, fun h => absurd h (by decide), hL2⟩) (by first | omega | (dsimp only; omega)))
      ·
       refine Ga 7 O (by omega) (zlo O tg24 (hB_b3.cells 1 _ O) (Gs 5 O (zlq O tg26 ts26 hB_b.cells O (Gs 1 O (G.call O Tryz.call117 ((ih x hm_x).2 _ _ _ false ⟨hvs, hhs, hbd⟩ hs_x (by omega)) ?_)))))
       rintro _ wz7 ⟨rfl, hz7⟩
       obtain ⟨hE, hvs, hhs, hbd, hl, hB_b, hL1⟩ := Tr7 hz7 hE hvs hhs hbd hl hB_b hL1
       obtain ⟨hc_x, hk_x, ht_x, hs_x, hb_x, hB_c, hB_b3⟩ := Tr7 hz7 hc_x hk_x ht_x hs_x hb_x hB_c hB_b3
       replace hL2 := Tr1 hz7 hL2
       refine Gs 9 O ?_
       have hthn := hk0 (znC _)
       have hcode2 : zy f.vars f.hatches.length x last = zc f.vars f.hatches.length x.els false := by rw [hcode, znn (by simp [hthn])]
       refine zjm O (fun tz1 => ?_) (fun tz1 => ?_)
       . refine Gs 16 O (zjG tr117 O ⟨_, rfl, by rw [hall, hst, hcode2, zno tz1], hE⟩)
       . refine Ga 7 O (by omega) (zjx (2) (zl4 O) (⟨by omega, fun _ => hthn, fun _ => by omega, hL2⟩) (by first | omega | (dsimp only; omega)))
     ·
      have hx0 : zy f.vars f.hatches.length x last = 0 := by rw [hcode, znn (by simp [hk0 (by omega)]), hk1 (by omega)]
      refine Ga 10 O (by omega) (zjx (i + 1) (zl4 O) (⟨by omega, by rw [hall, hst, hx0, znn (by decide)], hL1⟩) (by first | omega | (dsimp only; omega)))
 ·
  have hii : i = l.length := by omega
  subst hii
  refine Gs 11 O (zjG tr117 O ⟨_, rfl, by rw [hall, List.drop_length]; rfl, hE⟩)
open Go.GL
mutual
def yn : St -> Int × Int × Int
 | .mk a c _ n _ f g _ => if a = 4 then (1 + n * (1 + (bds f).1), n * (bds f).2.1, n * (c + (bds f).2.2))
  else (1 + max (bds f).1 (bds g).1, if a = 1 then 1 else max (bds f).2.1 (bds g).2.1, c + max (bds f).2.2 (bds g).2.2)
def bds : List St -> Int × Int × Int
 | [] => (0, 0, 0)
 | s :: r => ((yn s).1 + (bds r).1, (yn s).2.1 + (bds r).2.1, (yn s).2.2 + (bds r).2.2)
end
theorem yA (s : St) : yn s = if s.act = 4 then (1 + s.n * (1 + (bds s.thn).1), s.n * (bds s.thn).2.1, s.n * (s.cost + (bds s.thn).2.2))
  else (1 + max (bds s.thn).1 (bds s.els).1, if s.act = 1 then 1 else max (bds s.thn).2.1 (bds s.els).2.1, s.cost + max (bds s.thn).2.2 (bds s.els).2.2) := by cases s; rw [yn]; rfl
theorem zdB (a b : List St) : bds (a ++ b) = ((bds a).1 + (bds b).1, (bds a).2.1 + (bds b).2.1, (bds a).2.2 + (bds b).2.2) := by
 induction a with
 | nil => simp [bds]
 | cons s r ih => rw [List.cons_append, bds, ih, bds]; simp only [Prod.mk.injEq]; omega
theorem zfZ {l : List St} {i : Nat} {x : St} (h : l[i]? = some x) : bds (l.take (i + 1)) = ((bds (l.take i)).1 + (yn x).1, (bds (l.take i)).2.1 + (yn x).2.1, (bds (l.take i)).2.2 + (yn x).2.2) := by
 rw [zh h, zdB]; simp [bds]
structure OkS (s : St) : Prop where
 cost : 0 <= s.cost /\ s.cost <= 67108864
 rep : s.act = 4 -> 0 <= s.n /\ s.n <= 4096 /\ s.els = []
 free : s.act ≠ 3 -> s.act ≠ 4 -> s.thn = [] /\ s.els = []
theorem xF {vs : List Vr} {nh : Nat} {s : St} {last : Bool} (h : zy vs nh s last = 0) : OkS s /\ zM vs false s.term = 0 /\ zT vs nh s last = true /\ zc vs nh s.thn false = 0 /\ zc vs nh s.els false = 0 := by
 rw [yx] at h
 split at h
 . cases h
 rename_i h1
 split at h
 . cases h
 rename_i h2
 split at h
 . rename_i h3; exact absurd h h3
 rename_i h3
 split at h
 . rename_i h4; exact absurd h h4
 rename_i h4
 have h1' : zT vs nh s last = true := by simpa using h1
 refine ⟨?_, by omega, h1', by omega, h⟩
 have h2' : yw s = true := by simpa using h2
 unfold yw jv at h2'
 simp at h2'
 have hz : ∀ l : List St, (l.length : Int) = 0 -> l = [] := fun l h => List.eq_nil_of_length_eq_zero (by omega)
 refine ⟨by split at h2' <;> omega, fun h4 => ?_, fun h3 h4 => ?_⟩
 ·
  have hh := h2'.1.2.resolve_left (fun h => h h4)
  refine ⟨by omega, by omega, ?_⟩
  unfold zT at h1'
  rw [znn (by omega), znn (by omega), znn (by omega), znn (by omega), zno h4] at h1'
  simp at h1'
  exact h1'.1.2
 ·
  unfold zT at h1'
  repeat' split at h1'
  all_goals simp [zcv] at h1'
  all_goals first | exact ⟨h1'.1.1.1.1, h1'.1.1.1.2⟩ | exact ⟨h1'.1.1.1.1.1, h1'.1.1.1.1.2⟩ | exact ⟨h1'.1.1.1.1.1.1, h1'.1.1.1.1.1.2⟩ | omega | simp_all
theorem xe {vs : List Vr} {nh : Nat} : ∀ (l : List St) (top : Bool), zc vs nh l top = 0 -> ∀ x ∈ l, ∃ last, zy vs nh x last = 0
 | [], _, _, x, hx => by simp at hx
 | s :: r, top, h, x, hx => by
  rw [zc] at h
  split at h
  . rename_i h1; exact absurd h h1
  ·
   rename_i h1
   rcases znt.1 hx with rfl | hx
   . exact ⟨_, by simpa using h1⟩
   . exact xe r top h x hx
theorem zig (n c a K : Int) (hn : 0 <= n) (hc : 0 <= c) (ha : 0 <= a) (hK : 0 <= K) : min (n * (c + min a K)) K = min (n * (c + a)) K := by
 rcases Int.le_total a K with h | h
 . rw [Int.min_eq_left h]
 ·
  rw [Int.min_eq_right h]
  by_cases h0 : n = 0
  . subst h0; simp
  ·
   have h1 : 1 * (c + K) <= n * (c + K) := Int.mul_le_mul_of_nonneg_right (by omega) (by omega)
   have h2 : 1 * (c + a) <= n * (c + a) := Int.mul_le_mul_of_nonneg_right (by omega) (by omega)
   omega
def cap (K a : Int) : Int := min a K
theorem yo {K a : Int} (ha : 0 <= a) (hK : 0 <= K) : 0 <= cap K a /\ cap K a <= K := by unfold cap; omega
theorem yL {K S x x' : Int} (hS : 0 <= S) (hx : 0 <= x) (hx' : 0 <= x') (h : cap K x' = cap K x) : min (cap K S + x') K = cap K (S + x) := by unfold cap at *; omega
theorem zer {K c a b : Int} (hc : 0 <= c) (_ : 0 <= a) (_ : 0 <= b) : cap K (c + max (cap K a) (cap K b)) = cap K (c + max a b) := by unfold cap; omega
theorem zg0 {K a b : Int} (_ : 0 <= a) (_ : 0 <= b) : cap K (max (cap K a) (cap K b)) = cap K (max a b) := by unfold cap; omega
theorem zcx {K n c a : Int} (hn : 0 <= n) (hc : 0 <= c) (ha : 0 <= a) (hK : 0 <= K) : cap K (n * (c + cap K a)) = cap K (n * (c + a)) := by unfold cap; exact zig n c a K hn hc ha hK
theorem zg1 {K n a : Int} (hn : 0 <= n) (ha : 0 <= a) (hK : 0 <= K) : cap K (n * cap K a) = cap K (n * a) := by
 have := zcx (c := 0) hn (Int.le_refl 0) ha hK
 rwa [Int.zero_add, Int.zero_add] at this
theorem zhp {K a b : Int} (_ : 0 <= a) (_ : 0 <= b) (h : cap K a = cap K b) : cap K (1 + a) = cap K (1 + b) := by unfold cap at *; omega
theorem kP (n a N A : Int) (hn : 0 <= n) (hN : n <= N) (ha : 0 <= a) (hA : a <= A) : 0 <= n * a /\ n * a <= N * A :=
 ⟨znI hn ha, Int.mul_le_mul hN hA ha (by omega)⟩
theorem yU {vs : List Vr} {nh : Nat} (l : List St) : ∀ top, zc vs nh l top = 0 -> 0 <= (bds l).1 /\ 0 <= (bds l).2.1 /\ 0 <= (bds l).2.2 := by
 induction l using zkX with
 | h l ih =>
 intro top h
 have hm := xe l top h
 have key : ∀ r : List St, (∀ x ∈ r, x ∈ l) -> 0 <= (bds r).1 /\ 0 <= (bds r).2.1 /\ 0 <= (bds r).2.2 := by
  intro r
  induction r with
  | nil => intro _; simp [bds]
  | cons x r ihr =>
   intro hx
   have h1 := ihr (fun y hy => hx y (zng _ hy))
   obtain ⟨last, h2⟩ := hm x (hx x (znh ..))
   obtain ⟨h3, _, _, h4, h5⟩ := xF h2
   have h6 := (ih x (hx x (znh ..))).1 _ h4
   have h7 := (ih x (hx x (znh ..))).2 _ h5
   have h8 := h3.cost
   rw [bds, yA]
   split
   ·
    rename_i ha
    have h9 := h3.rep ha
    have p1 := znI h9.1 (show 0 <= 1 + (bds x.thn).1 by omega)
    have p2 := znI h9.1 h6.2.1
    have p3 := znI h9.1 (show 0 <= x.cost + (bds x.thn).2.2 by omega)
    simp only
    omega
   ·
    simp only
    refine ⟨by omega, ?_, by omega⟩
    split <;> omega
 exact key l (fun x hx => hx)
theorem zhq {vs : List Vr} {nh : Nat} {l : List St} {top : Bool} (h : zc vs nh l top = 0) (i : Nat) : 0 <= (bds (l.take i)).1 /\ 0 <= (bds (l.take i)).2.1 /\ 0 <= (bds (l.take i)).2.2 := by
 have key : ∀ r : List St, (∀ x ∈ r, x ∈ l) -> 0 <= (bds r).1 /\ 0 <= (bds r).2.1 /\ 0 <= (bds r).2.2 := by
  intro r
  induction r with
  | nil => intro _; simp [bds]
  | cons x r ihr =>
   intro hx
   have h1 := ihr (fun y hy => hx y (zng _ hy))
   obtain ⟨last, h2⟩ := xe l top h x (hx x (znh ..))
   have h3 : zc vs nh [x] true = 0 \/ zc vs nh [x] false = 0 := by
    cases last
    . right; simp [zc, h2]
    . left; simp [zc, h2]
   have h4 : 0 <= (bds [x]).1 /\ 0 <= (bds [x]).2.1 /\ 0 <= (bds [x]).2.2 := by rcases h3 with h3 | h3 <;> exact yU _ _ h3
   simp only [bds] at h4 ⊢
   omega
 exact key _ (fun x hx => List.mem_of_mem_take hx)
theorem zbM {vs : List Vr} {nh : Nat} {x : St} {last : Bool} (h : zy vs nh x last = 0) : 0 <= (yn x).1 /\ 0 <= (yn x).2.1 /\ 0 <= (yn x).2.2 := by
 have h3 : zc vs nh [x] true = 0 \/ zc vs nh [x] false = 0 := by
  cases last
  . right; simp [zc, h]
  . left; simp [zc, h]
 have h4 : 0 <= (bds [x]).1 /\ 0 <= (bds [x]).2.1 /\ 0 <= (bds [x]).2.2 := by rcases h3 with h3 | h3 <;> exact yU _ _ h3
 simpa [bds] using h4
open Go.GL
theorem xG (m : Nat) (n : Int) (d : Bool) (w : World) (hB_m : Blk w m [.int .i64 n, .bool d] 144) : Calls Tryz.prog 113 #[.pointer (some ⟨m, 0, none⟩)] w (Ret fun r w' => r = .bool (d || decide (1024 < n)) /\ Ext w w') := by
 have hE := Keep.refl (fun _ => False) w
 refine zlt Tryz.func113 O Tryz.ntmps113 O (Gs 10 O (zlo O tg4 (hB_m.cells 1 _ O) (Gs 1 O (zli 7 O (fun hd => ?_) (fun hd => ?_)))))
 . refine Gs 10 O (zjG Tryz.results113 O ⟨_, rfl, by rw [hd] <;> simp, hE⟩)
 . refine Gs 3 O (zlo O tg3 (hB_m.cells 0 _ O) (Gs 6 O (zjG Tryz.results113 O ⟨_, rfl, by rw [hd] <;> simp, hE⟩)))
theorem kQ (t : Tm) : ∀ (cs : List Value) (D : Nat -> Prop) (w : World) (m : Nat) (n : Int) (d : Bool) (dep : Int), RTm D w t cs -> (∀ q, D q -> q ≠ m) -> Blk w m [.int .i64 n, .bool d] 144 -> 0 <= n -> n + t.nodes <= 1024 -> 1 <= dep -> dep <= 13 -> Calls Tryz.prog 114 #[.pointer (some ⟨m, 0, none⟩), .agg cs.toArray, .int .i64 dep] w (Ret fun u w' => u = .tuple #[] /\ (∃ n' : Int, n <= n' /\ n' <= n + t.nodes /\ Blk w' m [.int .i64 n', .bool (d || decide (12 < dep + t.depth - 1))] 144) /\ Keep (fun q => q = m) w w') := by
 induction t using zkV with
 | h t ih =>
 intro cs D w m n d dep ht DM hB_m hn hsz hd1 hd2
 obtain ⟨v, rfl, hk⟩ := ht.get
 obtain ⟨av, nv, rfl⟩ := hk.form
 have hX := Keep.refl (fun q => q = m) w
 have hnn := t.nodes_eq
 have hdd := t.depth_eq
 refine zlv Tryz.func114 O Tryz.ntmps114 O (Gs 2 O (G.mem O O (M.box O O) ?_))
 rintro _ w_b ⟨b, rfl, hg_b, hs_b, hB_b, hk_b⟩
 have hn_m_b : m ≠ b := by have := hB_m.lt; omega
 obtain ⟨hX, hB_m, hk⟩ := Tr3 hk_b hX hB_m hk
 refine Gs 7 O (zlo O tg3 (hB_m.cells 0 _ O) (Ga 3 O (by omega) (zke O (M.store ts3 O O O O hB_m (by simp)) ?_)))
 rintro ws1 ⟨_, hB_m, hs1⟩
 replace hX := hX.trans hs1 (fun q hq h => h)
 replace hk := hk.keep zl hs1 (fun q hd hq h => DM q hd h)
 replace hB_b := hs1.blk hB_b (fun h => hn_m_b h.symm)
 refine Gs 3 O ?_
 have hC := Keep.refl (fun q => q = m) ws1
 refine zjA (σ := Unit) (fun u => [(0, .pointer (some ⟨m, 0, none⟩)), (2, .int .i64 dep), (4, .pointer (some ⟨b, 0, none⟩))]) (fun u => fun w' => Blk w' m [.int .i64 (n + 1), .bool (d || decide (12 < dep))] 144 /\ Keep (fun q => q = m) ws1 w') ?_ ?_
 ·
  refine Gs 5 O (zlo O tg4 (hB_m.cells 1 _ O) (Gs 1 O (zli 20 O (fun hd => ?_) (fun hd => ?_))))
  ·
   refine Gs 5 O (zke O (M.store ts4 O O O O hB_m (by simp)) ?_)
   rintro ws2 ⟨_, hB_m, hs2⟩
   replace hX := hX.trans hs2 (fun q hq h => h)
   replace hk := hk.keep zl hs2 (fun q hd hq h => DM q hd h)
   replace hB_b := hs2.blk hB_b (fun h => hn_m_b h.symm)
   replace hC := hC.trans hs2 (fun q hq h => h)
   refine Gs 1 O (zjC (()) (zl4 O) (⟨by rw [hd] at hB_m ⊢; exact hB_m, hC⟩))
  ·
   refine Gs 5 O (zke O (M.store ts4 O O O O hB_m (by simp)) ?_)
   rintro ws2 ⟨_, hB_m, hs2⟩
   replace hX := hX.trans hs2 (fun q hq h => h)
   replace hk := hk.keep zl hs2 (fun q hd hq h => DM q hd h)
   replace hB_b := hs2.blk hB_b (fun h => hn_m_b h.symm)
   replace hC := hC.trans hs2 (fun q hq h => h)
   refine Gs 1 O (zjC (()) (zl4 O) (⟨by rw [hd] at hB_m ⊢; exact hB_m, hC⟩))
 rintro u x2 ⟨hB_m, hX2⟩
 replace hX := hX.trans hX2 (fun q hq h => h)
 replace hk := hk.keep zl hX2 (fun q hd hq h => DM q hd h)
 replace hB_b := hX2.blk hB_b (fun h => hn_m_b h.symm)
 refine Gs 5 O (G.call O Tryz.call113 (xG m _ _ _ hB_m) ?_)
 rintro _ wz1 ⟨rfl, hz1⟩
 obtain ⟨hX, hk, hB_b, hB_m⟩ := Tr4 hz1 hX hk hB_b hB_m
 have ho : decide (1024 < n + 1) = false := znq (by omega)
 rw [ho, Bool.or_false]
 refine Gs 2 O (G.bool O (fun hov => ?_) (fun hov => ?_))
 ·
  refine Gs 2 O (zjU Tryz.results114 ⟨_, rfl, rfl, ⟨n + 1, by omega, by omega, ?_⟩, hX⟩)
  have : (d || decide (12 < dep + (t.depth : Int) - 1)) = (d || decide (12 < dep)) := by
   rw [hov]; revert hov; cases d <;> simp; omega
  rw [this]; exact hB_m
 ·
  have hd0 : d = false /\ ¬ 12 < dep := by revert hov; cases d <;> simp
  have hfin : (d || decide (12 < dep + (t.depth : Int) - 1)) = decide (12 < dep + (yF t.kids : Int)) := by
   rw [hd0.1, Bool.false_or, znF]; omega
  rw [hov] at hB_m
  have hlen := zed t.kids
  refine Gs 5 O (zlo O tg84 (hB_b.cells 2 _ O) (Gs 5 O (G.loop (σ := Nat) (fun i => [(0, .pointer (some ⟨m, 0, none⟩)), (2, .int .i64 dep), (29, .slice av t.kids.length nv), (30, .int .i64 t.kids.length), (31, .int .i64 i)]) (fun i => fun w' => i <= t.kids.length /\ (∃ n' : Int, n <= n' /\ n' <= n + 1 + yl (t.kids.take i) /\ Blk w' m [.int .i64 n', .bool (decide (12 < dep + (yF (t.kids.take i) : Int)))] 144) /\ SlR 3 RTm D w' (.slice av t.kids.length nv) t.kids /\ Keep (fun q => q = m) w w') (fun i => t.kids.length - i) (0) (zl4 O) (⟨zns _, ⟨n + 1, by omega, by simp [yl], by rw [show decide (12 < dep + (yF (t.kids.take 0) : Int)) = false from znq (by simp [yF]; omega)]; exact hB_m⟩, hk, hX⟩) ?_)))
  rintro i w5 ⟨hi, ⟨n', hn1, hn2, hB_m⟩, hk, hX⟩
  refine Gs 6 O (zjm O (fun hlt => ?_) (fun hlt => ?_))
  ·
   obtain ⟨x, he_x, hm_x⟩ := gE_ t.kids (i) (by omega)
   obtain ⟨b_x, o_x, c_x, ha_x, _, hc_x, hR_x⟩ := hk.at he_x
   have h1_x := RTm.one hR_x
   obtain ⟨v1_x, rfl, hk_x⟩ := hR_x.get
   obtain ⟨a1_x, n1_x, rfl⟩ := hk_x.form
   have hlt_x : b_x < _ := znf _ _ (hc_x 0 _ rfl)
   have hsp := jI he_x
   have htk := zch he_x
   have hdk := zci he_x
   refine Gs 6 O (zlk O O (zk5 tR84 ts86 O O ha_x (by omega)) (zlq O tg86 ts86 hc_x O (G.mem O O (M.alloc (cs := _) tz86 O) ?_)))
   rintro _ wa2 ⟨c, rfl, hg_c, hs_c, hB_c, hk_c⟩
   refine zke O (zkf ts86 O O O O h1_x hB_c (by simp)) ?_
   rintro w_c ⟨_, hB_c, hkk_c⟩
   replace hk_c := hk_c.trans hkk_c (fun q hq h => by have h : q = c := h; omega)
   have hn_m_c : m ≠ c := by have := hB_m.lt; omega
   obtain ⟨hX, hB_m, hk, hc_x, hk_x⟩ := Tr5 hk_c hX hB_m hk hc_x hk_x
   refine Gs 4 O (zlq O tg86 ts86 hB_c.cells O (Ga 2 O (by omega) (G.call O Tryz.call114 (ih x hm_x _ _ _ m n' _ (dep + 1) (RTm.put hk_x) DM hB_m (by omega) (by omega) (by omega) (by omega)) ?_)))
   rintro _ w6 ⟨rfl, ⟨n2, h1, h2, hB2⟩, hz⟩
   replace hX := hX.trans hz (fun q hq h => h)
   replace hk := hk.keep zl hz (fun q hd hq h => DM q hd h)
   replace hB_c := hz.blk hB_c (fun h => hn_m_c h.symm)
   refine Ga 7 O (by omega) (zjx (i + 1) (zl4 O) (⟨by omega, ⟨n2, by omega, by omega, ?_⟩, hk, hX⟩) (by first | omega | (dsimp only; omega)))
   have hb2 : (decide (12 < dep + (yF (t.kids.take i) : Int)) || decide (12 < dep + 1 + (x.depth : Int) - 1)) = decide (12 < dep + (yF (t.kids.take (i + 1)) : Int)) := by
    rw [hdk, <- Bool.decide_or, znF]; omega
   rw [hb2] at hB2
   exact hB2
  ·
   have hii : i = t.kids.length := by omega
   subst hii
   rw [zni] at hn2 hB_m
   refine Gs 4 O (zjU Tryz.results114 ⟨_, rfl, rfl, ⟨n', hn1, by omega, by rw [hfin]; exact hB_m⟩, hX⟩)
def xj (dep : Int) (l : List St) : Bool := decide (12 < dep + zQ l - 1) || yd l
theorem zdC {l : List St} {x : St} (h : x ∈ l) : 1 <= zQ l := by
 obtain ⟨i, hi⟩ := List.mem_iff_getElem?.1 h
 conv => rhs; rw [xa hi]
 rw [xA, zQ, St.depth_eq]; omega
theorem zdD {dep : Int} {l : List St} {i : Nat} (h : xj dep (l.take i) = true) : xj dep l = true := by
 unfold xj at *
 have h1 : zQ (l.take i) <= zQ l := by
  conv => rhs; rw [<- List.take_append_drop i l]
  rw [xA]; omega
 have h2 : yd (l.take i) = true -> yd l = true := by
  intro h
  rw [<- List.take_append_drop i l, qT, h]; rfl
 rw [Bool.or_eq_true, decide_eq_true_eq] at *
 rcases h with h | h
 . left; omega
 . exact .inr (h2 h)
theorem zbN (l : List St) : ∀ (v : Value) (D : Nat -> Prop) (w : World) (m : Nat) (n : Int) (d : Bool) (dep : Int), SlR 10 RSt D w v l -> (∀ q, D q -> q ≠ m) -> Blk w m [.int .i64 n, .bool d] 144 -> 0 <= n -> n + zq l <= 1024 -> 1 <= dep -> dep <= 13 -> Calls Tryz.prog 112 #[.pointer (some ⟨m, 0, none⟩), v, .int .i64 dep] w (Ret fun u w' => u = .tuple #[] /\ (∃ n' : Int, n <= n' /\ n' <= n + zq l /\ Blk w' m [.int .i64 n', .bool (d || xj dep l)] 144) /\ Keep (fun q => q = m) w w') := by
 induction l using zkX with
 | h l ih =>
 intro v D w m n d dep hl DM hB_m hn hsz hd1 hd2
 have hmx := hl.max
 obtain ⟨av, nv, rfl⟩ := hl.form
 have hX := Keep.refl (fun q => q = m) w
 have hlen := zhl l
 have h00 : (d || xj dep (l.take 0)) = d := by
  have : xj dep (l.take 0) = false := by unfold xj; simp [zQ, yd]; omega
  rw [this, Bool.or_false]
 refine zlv Tryz.func112 O Tryz.ntmps112 O (Gs 8 O (G.loop (σ := Nat) (fun i => [(0, .pointer (some ⟨m, 0, none⟩)), (2, .int .i64 dep), (8, .slice av l.length nv), (9, .int .i64 l.length), (10, .int .i64 i)]) (fun i => fun w' => i <= l.length /\ (∃ n' : Int, n <= n' /\ n' <= n + zq (l.take i) /\ Blk w' m [.int .i64 n', .bool (d || xj dep (l.take i))] 144) /\ SlR 10 RSt D w' (.slice av l.length nv) l /\ Keep (fun q => q = m) w w') (fun i => l.length - i) (0) (zl4 O) (⟨zns _, ⟨n, by omega, by simp [zq], by rw [h00]; exact hB_m⟩, hl, hX⟩) ?_))
 rintro i w5 ⟨hi, ⟨n', hn1, hn2, hB_m⟩, hl, hX⟩
 refine Gs 6 O (zjm O (fun hlt => ?_) (fun hlt => ?_))
 ·
  obtain ⟨x, he_x, hm_x⟩ := gE_ l (i) (by omega)
  obtain ⟨b_x, o_x, c_x, ha_x, _, hc_x, hR_x⟩ := hl.at he_x
  have h1_x := RSt.one hR_x
  obtain ⟨v1_x, v2_x, v3_x, v4_x, rfl, hk_x, ht_x, hs_x, hb_x⟩ := hR_x.get
  obtain ⟨a1_x, n1_x, rfl⟩ := hk_x.form
  obtain ⟨a2_x, n2_x, rfl⟩ := ht_x.form
  obtain ⟨a3_x, n3_x, rfl⟩ := hs_x.form
  obtain ⟨a4_x, n4_x, rfl⟩ := hb_x.form
  have hlt_x : b_x < _ := znf _ _ (hc_x 0 _ rfl)
  have hsp := zbC he_x
  have htk := zcj he_x
  have hxn := x.nodes_eq
  refine Gs 6 O (zlk O O (zk5 tR24 ts92 O O ha_x (by omega)) (zlq O tg92 ts92 hc_x O (G.mem O O (M.alloc (cs := _) tz92 O) ?_)))
  rintro _ wa1 ⟨c, rfl, hg_c, hs_c, hB_c, hk_c⟩
  refine zke O (zkf ts92 O O O O h1_x hB_c (by simp)) ?_
  rintro w_c ⟨_, hB_c, hkk_c⟩
  replace hk_c := hk_c.trans hkk_c (fun q hq h => by have h : q = c := h; omega)
  have hn_m_c : m ≠ c := by have := hB_m.lt; omega
  obtain ⟨hX, hB_m, hl, hc_x, hk_x, ht_x, hs_x⟩ := Tr7 hk_c hX hB_m hl hc_x hk_x ht_x hs_x
  replace hb_x := Tr1 hk_c hb_x
  refine Gs 7 O (zlo O tg3 (hB_m.cells 0 _ O) (Ga 3 O (by omega) (zke O (M.store ts3 O O O O hB_m (by simp)) ?_)))
  rintro ws1 ⟨_, hB_m, hs1⟩
  replace hX := hX.trans hs1 (fun q hq h => h)
  replace hl := hl.keep ze hs1 (fun q hd hq h => DM q hd h)
  replace hk_x := hk_x.keep zl hs1 (fun q hd hq h => DM q hd h)
  replace ht_x := ht_x.keep ze hs1 (fun q hd hq h => DM q hd h)
  replace hs_x := hs_x.keep ze hs1 (fun q hd hq h => DM q hd h)
  replace hb_x := hb_x.keep za hs1 (fun q hd hq h => DM q hd h)
  replace hB_c := hs1.blk hB_c (fun h => hn_m_c h.symm)
  refine Gs 3 O ?_
  have hC := Keep.refl (fun q => q = m) ws1
  refine zjA (σ := Unit) (fun u => [(0, .pointer (some ⟨m, 0, none⟩)), (2, .int .i64 dep), (7, .pointer (some ⟨c, 0, none⟩)), (8, .slice av l.length nv), (9, .int .i64 l.length), (10, .int .i64 i)]) (fun u => fun w' => Blk w' m [.int .i64 (n' + 1), .bool ((d || xj dep (l.take i)) || decide (12 < dep))] 144 /\ Keep (fun q => q = m) ws1 w') ?_ ?_
  ·
   refine Gs 5 O (zlo O tg4 (hB_m.cells 1 _ O) (Gs 1 O (zli 26 O (fun hd => ?_) (fun hd => ?_))))
   ·
    refine Gs 5 O (zke O (M.store ts4 O O O O hB_m (by simp)) ?_)
    rintro ws2 ⟨_, hB_m, hs2⟩
    replace hX := hX.trans hs2 (fun q hq h => h)
    replace hl := hl.keep ze hs2 (fun q hd hq h => DM q hd h)
    replace hk_x := hk_x.keep zl hs2 (fun q hd hq h => DM q hd h)
    replace ht_x := ht_x.keep ze hs2 (fun q hd hq h => DM q hd h)
    replace hs_x := hs_x.keep ze hs2 (fun q hd hq h => DM q hd h)
    replace hb_x := hb_x.keep za hs2 (fun q hd hq h => DM q hd h)
    replace hB_c := hs2.blk hB_c (fun h => hn_m_c h.symm)
    replace hC := hC.trans hs2 (fun q hq h => h)
    refine Gs 1 O (zjC (()) (zl4 O) (⟨by rw [hd] at hB_m ⊢; exact hB_m, hC⟩))
   ·
    refine Gs 5 O (zke O (M.store ts4 O O O O hB_m (by simp)) ?_)
    rintro ws2 ⟨_, hB_m, hs2⟩
    replace hX := hX.trans hs2 (fun q hq h => h)
    replace hl := hl.keep ze hs2 (fun q hd hq h => DM q hd h)
    replace hk_x := hk_x.keep zl hs2 (fun q hd hq h => DM q hd h)
    replace ht_x := ht_x.keep ze hs2 (fun q hd hq h => DM q hd h)
    replace hs_x := hs_x.keep ze hs2 (fun q hd hq h => DM q hd h)
    replace hb_x := hb_x.keep za hs2 (fun q hd hq h => DM q hd h)
    replace hB_c := hs2.blk hB_c (fun h => hn_m_c h.symm)
    replace hC := hC.trans hs2 (fun q hq h => h)
    refine Gs 1 O (zjC (()) (zl4 O) (⟨by rw [hd] at hB_m ⊢; exact hB_m, hC⟩))
  rintro u x2 ⟨hB_m, hX2⟩
  replace hX := hX.trans hX2 (fun q hq h => h)
  replace hl := hl.keep ze hX2 (fun q hd hq h => DM q hd h)
  replace hk_x := hk_x.keep zl hX2 (fun q hd hq h => DM q hd h)
  replace ht_x := ht_x.keep ze hX2 (fun q hd hq h => DM q hd h)
  replace hs_x := hs_x.keep ze hX2 (fun q hd hq h => DM q hd h)
  replace hb_x := hb_x.keep za hX2 (fun q hd hq h => DM q hd h)
  replace hB_c := hX2.blk hB_c (fun h => hn_m_c h.symm)
  refine Gs 5 O (G.call O Tryz.call113 (xG m _ _ _ hB_m) ?_)
  rintro _ wz2 ⟨rfl, hz2⟩
  obtain ⟨hX, hl, hk_x, ht_x, hs_x, hb_x, hB_c⟩ := Tr7 hz2 hX hl hk_x ht_x hs_x hb_x hB_c
  replace hB_m := Tr1 hz2 hB_m
  have ho : decide (1024 < n' + 1) = false := znq (by omega)
  rw [ho, Bool.or_false]
  refine Gs 2 O (G.bool O (fun hov => ?_) (fun hov => ?_))
  ·
   refine Gs 6 O (zjU Tryz.results112 ⟨_, rfl, rfl, ⟨n' + 1, by omega, by omega, ?_⟩, hX⟩)
   have : (d || xj dep l) = ((d || xj dep (l.take i)) || decide (12 < dep)) := by
    rw [hov]
    simp only [Bool.or_eq_true, decide_eq_true_eq] at hov ⊢
    rcases hov with (h | h) | h
    . exact .inl h
    . exact .inr (zdD h)
    . right; unfold xj; rw [znp (by have := zdC hm_x; omega)]; rfl
   rw [this]; exact hB_m
  ·
   rw [hov] at hB_m
   simp only [Bool.or_eq_false_iff, decide_eq_false_iff_not] at hov
   refine Gs 6 O (zlq O tg86 ts86 (hB_c.cells.sub 4 3) O (G.call O Tryz.call114 (kQ x.term _ D _ m _ _ 1 (RTm.put hk_x) DM hB_m (by omega) (by omega) (by omega) (by omega)) ?_))
   rintro _ w6 ⟨rfl, ⟨n2, h1, h2, hB2⟩, hz⟩
   replace hX := hX.trans hz (fun q hq h => h)
   replace hl := hl.keep ze hz (fun q hd hq h => DM q hd h)
   replace hk_x := hk_x.keep zl hz (fun q hd hq h => DM q hd h)
   replace ht_x := ht_x.keep ze hz (fun q hd hq h => DM q hd h)
   replace hs_x := hs_x.keep ze hz (fun q hd hq h => DM q hd h)
   replace hb_x := hb_x.keep za hz (fun q hd hq h => DM q hd h)
   replace hB_c := hz.blk hB_c (fun h => hn_m_c h.symm)
   refine Gs 6 O (zlo O tg24 (hB_c.cells 7 _ O) (Ga 2 O (by omega) (G.call O Tryz.call112 ((ih x hm_x).1 _ D _ m _ _ (dep + 1) ht_x DM hB2 (by omega) (by omega) (by omega) (by omega)) ?_)))
   rintro _ w7 ⟨rfl, ⟨n3, h3, h4, hB3⟩, hz3⟩
   replace hX := hX.trans hz3 (fun q hq h => h)
   replace hl := hl.keep ze hz3 (fun q hd hq h => DM q hd h)
   replace hk_x := hk_x.keep zl hz3 (fun q hd hq h => DM q hd h)
   replace ht_x := ht_x.keep ze hz3 (fun q hd hq h => DM q hd h)
   replace hs_x := hs_x.keep ze hz3 (fun q hd hq h => DM q hd h)
   replace hb_x := hb_x.keep za hz3 (fun q hd hq h => DM q hd h)
   replace hB_c := hz3.blk hB_c (fun h => hn_m_c h.symm)
   refine Gs 5 O (zlo O tg24 (hB_c.cells 8 _ O) (Ga 2 O (by omega) (G.call O Tryz.call112 ((ih x hm_x).2 _ D _ m _ _ (dep + 1) hs_x DM hB3 (by omega) (by omega) (by omega) (by omega)) ?_)))
   rintro _ w8 ⟨rfl, ⟨n4, h5, h6, hB4⟩, hz4⟩
   replace hX := hX.trans hz4 (fun q hq h => h)
   replace hl := hl.keep ze hz4 (fun q hd hq h => DM q hd h)
   replace hk_x := hk_x.keep zl hz4 (fun q hd hq h => DM q hd h)
   replace ht_x := ht_x.keep ze hz4 (fun q hd hq h => DM q hd h)
   replace hs_x := hs_x.keep ze hz4 (fun q hd hq h => DM q hd h)
   replace hb_x := hb_x.keep za hz4 (fun q hd hq h => DM q hd h)
   replace hB_c := hz4.blk hB_c (fun h => hn_m_c h.symm)
   refine Ga 7 O (by omega) (zjx (i + 1) (zl4 O) (⟨by omega, ⟨n4, by omega, by omega, ?_⟩, hl, hX⟩) (by first | omega | (dsimp only; omega)))
   have hb : (((false || decide (12 < 1 + (x.term.depth : Int) - 1)) || xj (dep + 1) x.thn) || xj (dep + 1) x.els) = (d || xj dep (l.take (i + 1))) := by
    have h9 := hov.1.2
    unfold xj at h9 ⊢
    rw [Bool.or_eq_false_iff, decide_eq_false_iff_not] at h9
    rw [hov.1.1, zck he_x, zcl he_x, h9.2, zmG, St.depth_eq, Bool.eq_iff_iff]
    simp only [Bool.or_eq_true, decide_eq_true_eq, Bool.false_or]
    have h10 : ∀ a b c d e : Prop, True := fun _ _ _ _ _ => trivial
    generalize yd x.thn = q1
    generalize yd x.els = q2
    cases q1 <;> cases q2 <;> simp <;> omega
   rw [hb] at hB4
   exact hB4
 ·
  have hii : i = l.length := by omega
  subst hii
  rw [zni] at hn2 hB_m
  refine Gs 4 O (zjU Tryz.results112 ⟨_, rfl, rfl, ⟨n', hn1, hn2, hB_m⟩, hX⟩)
def RNew (cs : List Value) (e : TypeId) : World -> Value -> World -> Prop := fun a v a' => ∃ b, v = .pointer (some ⟨b, 0, none⟩) /\ New a cs e b a'
theorem RNew.ext {cs : List Value} {e : TypeId} {a a' : World} {v : Value} (h : RNew cs e a v a') : Ext a a' := by obtain ⟨_, _, h⟩ := h; obtain ⟨_, _, _, h⟩ := h; exact h
theorem RNew.apart {cs cs' : List Value} {e e' : TypeId} {v u : Value} {b c : Nat} (h : zhm (RNew cs e) v (RNew cs' e') u) (hb : v = .pointer (some ⟨b, 0, none⟩)) (hc : u = .pointer (some ⟨c, 0, none⟩)) : b ≠ c := by
 rcases h with ⟨a, a', d, d', ⟨b1, e1, g1, s1, _, _⟩, ⟨c1, e2, g2, s2, _, _⟩, hk⟩ | ⟨a, a', d, d', ⟨b1, e1, g1, s1, _, _⟩, ⟨c1, e2, g2, s2, _, _⟩, hk⟩
 . rw [hb] at e1; rw [hc] at e2; cases e1; cases e2; have := hk.size; omega
 . rw [hb] at e1; rw [hc] at e2; cases e1; cases e2; have := hk.size; omega
theorem zg2 (vs : List Vr) (nh : Nat) (l : List St) : ∀ (v : Value) (D : Nat -> Prop) (w : World) (top : Bool), zc vs nh l top = 0 -> SlR 10 RSt D w v l -> xu l <= 1000000 -> Calls Tryz.prog 118 #[v] w (Ret fun r w' => r = .agg #[.int .i64 (cap 1099511627776 (bds l).1), .int .i64 (cap 1099511627776 (bds l).2.1), .int .i64 (cap 1099511627776 (bds l).2.2)] /\ Ext w w') := by
 induction l using zkX with
 | h l ih =>
 intro v D w top hok hl hb
 have hmx := hl.max
 obtain ⟨av, nv, rfl⟩ := hl.form
 have hl0 := hl
 have hE := Keep.refl (fun _ => False) w
 refine zlt Tryz.func118 O Tryz.ntmps118 O (Gs 2 O (G.mem O O (M.alloc (cs := _) tz148 O) ?_))
 rintro _ w_r ⟨r, rfl, hg_r, hs_r, hB_r, hk_r⟩
 have hge_r : _ <= r := znj hE.size (Nat.le_of_eq hg_r.symm)
 obtain ⟨hE, hl⟩ := Tr2 hk_r hE hl
 refine Gs 4 O (G.mem O O (M.alloc (cs := _) tz148 O) ?_)
 rintro _ w_o ⟨o, rfl, hg_o, hs_o, hB_o, hk_o⟩
 have hn_r_o : r ≠ o := by have := hB_r.lt; omega
 have hge_o : _ <= o := znj hE.size (Nat.le_of_eq hg_o.symm)
 obtain ⟨hE, hl, hB_r⟩ := Tr3 hk_o hE hl hB_r
 refine Gs 11 O ?_
 have hk0 := Keep.refl (fun q => q = o) w_o
 refine G.loop (σ := Nat) (fun i => [(2, .pointer (some ⟨r, 0, none⟩)), (3, .pointer (some ⟨o, 0, none⟩)), (9, .slice av l.length nv), (10, .int .i64 l.length), (11, .int .i64 i)]) (fun i => fun w' => i <= l.length /\ Blk w' o [.int .i64 (cap 1099511627776 (bds (l.take i)).1), .int .i64 (cap 1099511627776 (bds (l.take i)).2.1), .int .i64 (cap 1099511627776 (bds (l.take i)).2.2)] 148 /\ Blk w' r [.int .i64 0, .int .i64 0, .int .i64 0] 148 /\ Ext w w') (fun i => l.length - i) (0) (zl4 O) (⟨zns _, hB_o, hB_r, hE⟩) ?_
 rintro i w1 ⟨hi, hB_o, hB_r, hE⟩
 have hl := hl0.ext ze hE
 refine Gs 6 O (zjm O (fun hlt => ?_) (fun hlt => ?_))
 ·
  obtain ⟨x, he_x, hm_x⟩ := gE_ l (i) (by omega)
  obtain ⟨b_x, o_x, c_x, ha_x, _, hc_x, hR_x⟩ := hl.at he_x
  have h1_x := RSt.one hR_x
  obtain ⟨v1_x, v2_x, v3_x, v4_x, rfl, hk_x, ht_x, hs_x, hb_x⟩ := hR_x.get
  obtain ⟨a1_x, n1_x, rfl⟩ := hk_x.form
  obtain ⟨a2_x, n2_x, rfl⟩ := ht_x.form
  obtain ⟨a3_x, n3_x, rfl⟩ := hs_x.form
  obtain ⟨a4_x, n4_x, rfl⟩ := hb_x.form
  have hlt_x : b_x < _ := znf _ _ (hc_x 0 _ rfl)
  have htk := zfZ he_x
  have htk1 : (bds (l.take (i + 1))).1 = (bds (l.take i)).1 + (yn x).1 := by rw [htk]
  have htk2 : (bds (l.take (i + 1))).2.1 = (bds (l.take i)).2.1 + (yn x).2.1 := by rw [htk]
  have htk3 : (bds (l.take (i + 1))).2.2 = (bds (l.take i)).2.2 + (yn x).2.2 := by rw [htk]
  have hpre : 0 <= (bds (l.take i)).1 /\ 0 <= (bds (l.take i)).2.1 /\ 0 <= (bds (l.take i)).2.2 := zhq hok i
  obtain ⟨last, hx0⟩ := xe l top hok x hm_x
  obtain ⟨hS, _, _, hs1, hs2⟩ := xF hx0
  have hcost := hS.cost
  have n1 := yU x.thn _ hs1
  have n2 := yU x.els _ hs2
  have y := zbM hx0
  have hbx := zbB hm_x
  rw [zmF] at hbx
  refine Gs 6 O (zlk O O (zk5 tR24 ts92 O O ha_x (by omega)) (zlq O tg92 ts92 hc_x O (G.mem O O (M.alloc (cs := _) tz92 O) ?_)))
  rintro _ wa1 ⟨c, rfl, hg_c, hs_c, hB_c, hk_c⟩
  refine zke O (zkf ts92 O O O O h1_x hB_c (by simp)) ?_
  rintro w_c ⟨_, hB_c, hkk_c⟩
  replace hk_c := hk_c.trans hkk_c (fun q hq h => by have h : q = c := h; omega)
  have hn_r_c : r ≠ c := by have := hB_r.lt; omega
  have hn_o_c : o ≠ c := by have := hB_o.lt; omega
  have hge_c : _ <= c := znj hE.size (Nat.le_of_eq hg_c.symm)
  obtain ⟨hE, hl, hB_r, hB_o, hc_x, hk_x, ht_x⟩ := Tr7 hk_c hE hl hB_r hB_o hc_x hk_x ht_x
  obtain ⟨hs_x, hb_x⟩ := Tr2 hk_c hs_x hb_x
  refine Gs 5 O (zlo O tg3 (hB_c.cells 1 _ O) (zlk O O (R.build (v := .agg #[.int .i64 1, .int .i64 0, .int .i64 x.cost]) [(0, _), (2, _)] O (fun _ => by kernel_rfl)) (G.mem O O (M.alloc (cs := _) tz148 O) ?_)))
  rintro _ wa2 ⟨p, rfl, hg_p, hs_p, hB_p, hk_p⟩
  refine zke O (zkf ts148 O O O O (by simp [Value.oneCell']) hB_p (by simp)) ?_
  rintro w_p ⟨_, hB_p, hkk_p⟩
  replace hk_p := hk_p.trans hkk_p (fun q hq h => by have h : q = p := h; omega)
  have hn_r_p : r ≠ p := by have := hB_r.lt; omega
  have hn_o_p : o ≠ p := by have := hB_o.lt; omega
  have hn_c_p : c ≠ p := by have := hB_c.lt; omega
  have hge_p : _ <= p := znj hE.size (Nat.le_of_eq hg_p.symm)
  obtain ⟨hE, hl, hB_r, hB_o, hk_x, ht_x, hs_x⟩ := Tr7 hk_p hE hl hB_r hB_o hk_x ht_x hs_x
  obtain ⟨hb_x, hB_c⟩ := Tr2 hk_p hb_x hB_c
  refine Gs 3 O ?_
  have hlr : r < w_p.heap.size := hB_r.lt
  have hlo : o < w_p.heap.size := hB_o.lt
  have hlc : c < w_p.heap.size := hB_c.lt
  have hlp : p < w_p.heap.size := hB_p.lt
  refine Dw (fun q => Ext w_p q) [] (fun wd0 hD _ => (Ds [0] (by kernel_rfl) O (WD.take 1 O (by kernel_rfl) O O O hD (fun w1 hw1 => R.load tg24 O ((hw1.blk hB_c (fun h => h)).cells 7 _ O)) (Ds [3] (by kernel_rfl) O (WD.take 4 O (by kernel_rfl) O O O hD (fun w1 hw1 => R.load tg24 O ((hw1.blk hB_c (fun h => h)).cells 8 _ O)) ?_)))))
  refine zmJ (fuel := 2) (L3 := #[true, true, true, true, true, true, true, true, false, false]) [⟨2, _, 20, fun a v a' => v = .agg #[.int .i64 (cap 1099511627776 (bds x.thn).1), .int .i64 (cap 1099511627776 (bds x.thn).2.1), .int .i64 (cap 1099511627776 (bds x.thn).2.2)] /\ Ext a a'⟩, ⟨5, _, 23, fun a v a' => v = .agg #[.int .i64 (cap 1099511627776 (bds x.els).1), .int .i64 (cap 1099511627776 (bds x.els).2.1), .int .i64 (cap 1099511627776 (bds x.els).2.2)] /\ Ext a a'⟩, ⟨6, _, 7, RNew [.int .i64 0, .int .i64 0, .int .i64 0] 148⟩, ⟨7, _, 8, RNew [.int .i64 0, .int .i64 0, .int .i64 0] 148⟩]
   (List.forall_mem_cons.2 ⟨⟨rfl, rfl, rfl, rfl, rfl⟩, List.forall_mem_cons.2 ⟨⟨rfl, rfl, rfl, rfl, rfl⟩, List.forall_mem_cons.2 ⟨⟨rfl, rfl, rfl, rfl, rfl⟩, List.forall_mem_cons.2 ⟨⟨rfl, rfl, rfl, rfl, rfl⟩, by simp⟩⟩⟩⟩)
   (show List.Nodup [20, 23, 7, 8] by decide) (show List.Nodup [2, 5, 6, 7] by decide) (by kernel_rfl) (fun w' h => hD.ext h) ?_ ?_ ?_
  . refine List.forall_mem_cons.2 ⟨fun a v a' h => h.2, List.forall_mem_cons.2 ⟨fun a v a' h => h.2, List.forall_mem_cons.2 ⟨fun a v a' h => h.ext, List.forall_mem_cons.2 ⟨fun a v a' h => h.ext, by simp⟩⟩⟩⟩
  . refine List.forall_mem_cons.2 ⟨fun w' h => Does.call (F.call (vs := [_]) Tryz.call118 O) ((ih x hm_x).1 _ _ _ _ hs1 (ht_x.ext ze (hD.ext h)) (by omega)), List.forall_mem_cons.2 ⟨fun w' h => Does.call (F.call (vs := [_]) Tryz.call118 O) ((ih x hm_x).2 _ _ _ _ hs2 (hs_x.ext ze (hD.ext h)) (by omega)), List.forall_mem_cons.2 ⟨fun w' h => zl3 (M.alloc (cs := _) tz148 O), List.forall_mem_cons.2 ⟨fun w' h => zl3 (M.alloc (cs := _) tz148 O), by simp⟩⟩⟩⟩
  intro val wm hEm hmade hap
  obtain ⟨_, _, _, ⟨e2, _⟩, _⟩ := hmade _ (znh ..)
  obtain ⟨_, _, _, ⟨e5, _⟩, _⟩ := hmade _ (zng _ (znh ..))
  obtain ⟨a6, a6', h61, ⟨t, e6, hg6, hs6, hB6, hk6⟩, h62⟩ := hmade _ (zng _ (zng _ (znh ..)))
  obtain ⟨a7, a7', h71, ⟨u, e7, hg7, hs7, hB7, hk7⟩, h72⟩ := hmade _ (zng _ (zng _ (zng _ (znh ..))))
  have hn_t_u : t ≠ u := RNew.apart (hap _ (zng _ (zng _ (znh ..))) _ (zng _ (zng _ (zng _ (znh ..)))) (show (7 : Nat) ≠ 8 by decide)) e6 e7
  have hgt : w_p.heap.size <= t := by have := hD.size; have := h61.size; omega
  have hgu : w_p.heap.size <= u := by have := hD.size; have := h71.size; omega
  have hB_t := h62.blk hB6 (fun h => h)
  have hB_u := h72.blk hB7 (fun h => h)
  replace hD := hD.ext hEm
  have hn_r_t : r ≠ t := by omega
  have hn_r_u : r ≠ u := by omega
  have hn_o_t : o ≠ t := by omega
  have hn_o_u : o ≠ u := by omega
  have hn_c_t : c ≠ t := by omega
  have hn_c_u : c ≠ u := by omega
  have hn_p_t : p ≠ t := by omega
  have hn_p_u : p ≠ u := by omega
  show WD _ _ _ _ _ _ _ _ ((20, val 20) :: (23, val 23) :: (7, val 7) :: (8, val 8) :: _) _
  rw [e2, e5, e6, e7]
  refine zkd 8 O (by kernel_rfl) O O (zkf ts148 O O O O (by simp [Value.oneCell']) hB_t (by simp)) ?_
  rintro ws1 ⟨_, hB_t, hs1⟩
  replace hB_u := hs1.blk hB_u (fun h => hn_t_u h.symm)
  replace hD := hD.trans hs1 (fun q hq h => by have h : q = t := h; omega)
  refine ⟨fun _ => hD, ?_⟩
  refine zkd 9 O (by kernel_rfl) O O (zkf ts148 O O O O (by simp [Value.oneCell']) hB_u (by simp)) ?_
  rintro ws2 ⟨_, hB_u, hs2⟩
  replace hB_t := hs2.blk hB_t hn_t_u
  replace hD := hD.trans hs2 (fun q hq h => by have h : q = u := h; omega)
  refine ⟨fun _ => hD, ?_⟩
  refine zkq (by kernel_rfl) ?_ _
  obtain ⟨hE, hl, hB_r, hB_o, hk_x, ht_x, hs_x⟩ := Tr7 hD hE hl hB_r hB_o hk_x ht_x hs_x
  obtain ⟨hb_x, hB_c, hB_p⟩ := Tr3 hD hb_x hB_c hB_p
  have hge_t : w.heap.size <= t := by have := hE.size; omega
  have hge_u : w.heap.size <= u := by have := hE.size; omega
  have r1 := yo n1.1 (show (0:Int) <= 1099511627776 by decide)
  have r2 := yo n1.2.1 (show (0:Int) <= 1099511627776 by decide)
  have r3 := yo n1.2.2 (show (0:Int) <= 1099511627776 by decide)
  have r4 := yo n2.1 (show (0:Int) <= 1099511627776 by decide)
  have r5 := yo n2.2.1 (show (0:Int) <= 1099511627776 by decide)
  have r6 := yo n2.2.2 (show (0:Int) <= 1099511627776 by decide)
  have t1 := yo hpre.1 (show (0:Int) <= 1099511627776 by decide)
  have t2 := yo hpre.2.1 (show (0:Int) <= 1099511627776 by decide)
  have t3 := yo hpre.2.2 (show (0:Int) <= 1099511627776 by decide)
  refine Gs 5 O (zlo O tg90 (hB_c.cells 0 _ O) (Gs 9 O (zjm O (fun a1 => ?_) (fun a1 => ?_))))
  ·
   obtain ⟨g1, g2⟩ := hS.free (by omega) (by omega)
   have eB : yn x = (1, 1, x.cost) := by rw [yA, g1, g2, znn (by omega)]; simp [bds, a1]
   have f1 : cap 1099511627776 1 = cap 1099511627776 (yn x).1 := by rw [eB]
   have f2 : cap 1099511627776 1 = cap 1099511627776 (yn x).2.1 := by rw [eB]
   have f3 : cap 1099511627776 x.cost = cap 1099511627776 (yn x).2.2 := by rw [eB]
   have z1 : (0 : Int) <= 1 := by decide
   have z2 : (0 : Int) <= 1 := by decide
   have z3 := hcost.1
   refine Gs 2 O (zke O (M.store ts3 O O O O hB_p (by simp)) ?_)
   rintro ws3 ⟨_, hB_p, hs3⟩
   replace hE := hE.trans hs3 (fun q hq h => by have h : q = p := h; omega)
   replace hB_r := hs3.blk hB_r hn_r_p
   replace hB_o := hs3.blk hB_o hn_o_p
   replace hB_c := hs3.blk hB_c hn_c_p
   replace hB_t := hs3.blk hB_t (fun h => hn_p_t h.symm)
   replace hB_u := hs3.blk hB_u (fun h => hn_p_u h.symm)
   refine Gs 6 O (zlo O tg3 (hB_o.cells 0 _ O) (Gs 1 O (zlo O tg3 (hB_p.cells 0 _ O) (Ga 3 O (by omega) (zke O (M.store ts3 O O O O hB_o (by simp)) ?_)))))
   rintro ws4 ⟨_, hB_o, hs4⟩
   replace hE := hE.trans hs4 (fun q hq h => by have h : q = o := h; omega)
   replace hB_r := hs4.blk hB_r hn_r_o
   replace hB_c := hs4.blk hB_c (fun h => hn_o_c h.symm)
   replace hB_p := hs4.blk hB_p (fun h => hn_o_p h.symm)
   replace hB_t := hs4.blk hB_t (fun h => hn_o_t h.symm)
   replace hB_u := hs4.blk hB_u (fun h => hn_o_u h.symm)
   refine Gs 5 O (zlo O tg3 (hB_o.cells 1 _ O) (Gs 1 O (zlo O tg3 (hB_p.cells 1 _ O) (Ga 3 O (by omega) (zke O (M.store ts3 O O O O hB_o (by simp)) ?_)))))
   rintro ws5 ⟨_, hB_o, hs5⟩
   replace hE := hE.trans hs5 (fun q hq h => by have h : q = o := h; omega)
   replace hB_r := hs5.blk hB_r hn_r_o
   replace hB_c := hs5.blk hB_c (fun h => hn_o_c h.symm)
   replace hB_p := hs5.blk hB_p (fun h => hn_o_p h.symm)
   replace hB_t := hs5.blk hB_t (fun h => hn_o_t h.symm)
   replace hB_u := hs5.blk hB_u (fun h => hn_o_u h.symm)
   refine Gs 4 O (zlo O tg3 (hB_o.cells 2 _ O) (Gs 1 O (zlo O tg3 (hB_p.cells 2 _ O) (Ga 3 O (by omega) (zke O (M.store ts3 O O O O hB_o (by simp)) ?_)))))
   rintro ws6 ⟨_, hB_o, hs6⟩
   replace hE := hE.trans hs6 (fun q hq h => by have h : q = o := h; omega)
   replace hB_r := hs6.blk hB_r hn_r_o
   replace hB_c := hs6.blk hB_c (fun h => hn_o_c h.symm)
   replace hB_p := hs6.blk hB_p (fun h => hn_o_p h.symm)
   replace hB_t := hs6.blk hB_t (fun h => hn_o_t h.symm)
   replace hB_u := hs6.blk hB_u (fun h => hn_o_u h.symm)
   refine Ga 7 O (by omega) (zjx (i + 1) (zl4 O) (⟨by omega, by rw [htk1, htk2, htk3, <- yL hpre.1 y.1 z1 f1, <- yL hpre.2.1 y.2.1 z2 f2, <- yL hpre.2.2 y.2.2 z3 f3]; exact hB_o, hB_r, hE⟩) (by first | omega | (dsimp only; omega)))
  ·
   refine Gs 6 O (zjm O (fun a3 => ?_) (fun a3 => ?_))
   ·
    have n4 : ¬ x.act = 4 := by omega
    have f1 : cap 1099511627776 (1 + max (cap 1099511627776 (bds x.thn).1) (cap 1099511627776 (bds x.els).1)) = cap 1099511627776 (yn x).1 := by rw [yA, znn n4]; exact zer (by omega) n1.1 n2.1
    have f2 : cap 1099511627776 (max (cap 1099511627776 (bds x.thn).2.1) (cap 1099511627776 (bds x.els).2.1)) = cap 1099511627776 (yn x).2.1 := by rw [yA, znn n4]; simp only [a1, if_false]; exact zg0 n1.2.1 n2.2.1
    have f3 : cap 1099511627776 (x.cost + max (cap 1099511627776 (bds x.thn).2.2) (cap 1099511627776 (bds x.els).2.2)) = cap 1099511627776 (yn x).2.2 := by rw [yA, znn n4]; exact zer hcost.1 n1.2.2 n2.2.2
    have z1 : 0 <= 1 + max (cap 1099511627776 (bds x.thn).1) (cap 1099511627776 (bds x.els).1) := by omega
    have z2 : 0 <= max (cap 1099511627776 (bds x.thn).2.1) (cap 1099511627776 (bds x.els).2.1) := by omega
    have z3 : 0 <= x.cost + max (cap 1099511627776 (bds x.thn).2.2) (cap 1099511627776 (bds x.els).2.2) := by omega
    refine Gs 3 O (zlo O tg3 (hB_p.cells 0 _ O) (Gs 1 O (zlo O tg3 (hB_t.cells 0 _ O) (Gs 1 O (zlo O tg3 (hB_u.cells 0 _ O) (Ga 3 O (by omega) (zke O (M.store ts3 O O O O hB_p (by simp)) ?_)))))))
    rintro ws7 ⟨_, hB_p, hs7⟩
    replace hE := hE.trans hs7 (fun q hq h => by have h : q = p := h; omega)
    replace hB_r := hs7.blk hB_r hn_r_p
    replace hB_o := hs7.blk hB_o hn_o_p
    replace hB_c := hs7.blk hB_c hn_c_p
    replace hB_t := hs7.blk hB_t (fun h => hn_p_t h.symm)
    replace hB_u := hs7.blk hB_u (fun h => hn_p_u h.symm)
    refine Gs 5 O (zlo O tg3 (hB_t.cells 1 _ O) (Gs 1 O (zlo O tg3 (hB_u.cells 1 _ O) (Gs 2 O (zke O (M.store ts3 O O O O hB_p (by simp)) ?_)))))
    rintro ws8 ⟨_, hB_p, hs8⟩
    replace hE := hE.trans hs8 (fun q hq h => by have h : q = p := h; omega)
    replace hB_r := hs8.blk hB_r hn_r_p
    replace hB_o := hs8.blk hB_o hn_o_p
    replace hB_c := hs8.blk hB_c hn_c_p
    replace hB_t := hs8.blk hB_t (fun h => hn_p_t h.symm)
    replace hB_u := hs8.blk hB_u (fun h => hn_p_u h.symm)
    refine Gs 4 O (zlo O tg3 (hB_p.cells 2 _ O) (Gs 1 O (zlo O tg3 (hB_t.cells 2 _ O) (Gs 1 O (zlo O tg3 (hB_u.cells 2 _ O) (Ga 3 O (by omega) (zke O (M.store ts3 O O O O hB_p (by simp)) ?_)))))))
    rintro ws9 ⟨_, hB_p, hs9⟩
    replace hE := hE.trans hs9 (fun q hq h => by have h : q = p := h; omega)
    replace hB_r := hs9.blk hB_r hn_r_p
    replace hB_o := hs9.blk hB_o hn_o_p
    replace hB_c := hs9.blk hB_c hn_c_p
    replace hB_t := hs9.blk hB_t (fun h => hn_p_t h.symm)
    replace hB_u := hs9.blk hB_u (fun h => hn_p_u h.symm)
    refine Gs 6 O (zlo O tg3 (hB_o.cells 0 _ O) (Gs 1 O (zlo O tg3 (hB_p.cells 0 _ O) (Ga 3 O (by omega) (zke O (M.store ts3 O O O O hB_o (by simp)) ?_)))))
    rintro ws10 ⟨_, hB_o, hs10⟩
    replace hE := hE.trans hs10 (fun q hq h => by have h : q = o := h; omega)
    replace hB_r := hs10.blk hB_r hn_r_o
    replace hB_c := hs10.blk hB_c (fun h => hn_o_c h.symm)
    replace hB_p := hs10.blk hB_p (fun h => hn_o_p h.symm)
    replace hB_t := hs10.blk hB_t (fun h => hn_o_t h.symm)
    replace hB_u := hs10.blk hB_u (fun h => hn_o_u h.symm)
    refine Gs 5 O (zlo O tg3 (hB_o.cells 1 _ O) (Gs 1 O (zlo O tg3 (hB_p.cells 1 _ O) (Ga 3 O (by omega) (zke O (M.store ts3 O O O O hB_o (by simp)) ?_)))))
    rintro ws11 ⟨_, hB_o, hs11⟩
    replace hE := hE.trans hs11 (fun q hq h => by have h : q = o := h; omega)
    replace hB_r := hs11.blk hB_r hn_r_o
    replace hB_c := hs11.blk hB_c (fun h => hn_o_c h.symm)
    replace hB_p := hs11.blk hB_p (fun h => hn_o_p h.symm)
    replace hB_t := hs11.blk hB_t (fun h => hn_o_t h.symm)
    replace hB_u := hs11.blk hB_u (fun h => hn_o_u h.symm)
    refine Gs 4 O (zlo O tg3 (hB_o.cells 2 _ O) (Gs 1 O (zlo O tg3 (hB_p.cells 2 _ O) (Ga 3 O (by omega) (zke O (M.store ts3 O O O O hB_o (by simp)) ?_)))))
    rintro ws12 ⟨_, hB_o, hs12⟩
    replace hE := hE.trans hs12 (fun q hq h => by have h : q = o := h; omega)
    replace hB_r := hs12.blk hB_r hn_r_o
    replace hB_c := hs12.blk hB_c (fun h => hn_o_c h.symm)
    replace hB_p := hs12.blk hB_p (fun h => hn_o_p h.symm)
    replace hB_t := hs12.blk hB_t (fun h => hn_o_t h.symm)
    replace hB_u := hs12.blk hB_u (fun h => hn_o_u h.symm)
    refine Ga 7 O (by omega) (zjx (i + 1) (zl4 O) (⟨by omega, by rw [htk1, htk2, htk3, <- yL hpre.1 y.1 z1 f1, <- yL hpre.2.1 y.2.1 z2 f2, <- yL hpre.2.2 y.2.2 z3 f3]; exact hB_o, hB_r, hE⟩) (by first | omega | (dsimp only; omega)))
   ·
    refine Gs 6 O (zjm O (fun a4 => ?_) (fun a4 => ?_))
    ·
     have hr := hS.rep a4
     have p1 := kP x.n (1 + cap 1099511627776 (bds x.thn).1) 4096 1099511627777 hr.1 hr.2.1 (by omega) (by omega)
     have p2 := kP x.n (cap 1099511627776 (bds x.thn).2.1) 4096 1099511627776 hr.1 hr.2.1 (by omega) (by omega)
     have p3 := kP x.n (x.cost + cap 1099511627776 (bds x.thn).2.2) 4096 1099578736640 hr.1 hr.2.1 (by omega) (by omega)
     have q1 := znI hr.1 (show 0 <= 1 + (bds x.thn).1 by omega)
     have f1 : cap 1099511627776 (1 + x.n * (1 + cap 1099511627776 (bds x.thn).1)) = cap 1099511627776 (yn x).1 := by rw [yA, zno a4]; exact zhp p1.1 q1 (zcx hr.1 (by omega) n1.1 (by omega))
     have f2 : cap 1099511627776 (x.n * cap 1099511627776 (bds x.thn).2.1) = cap 1099511627776 (yn x).2.1 := by rw [yA, zno a4]; exact zg1 hr.1 n1.2.1 (by omega)
     have f3 : cap 1099511627776 (x.n * (x.cost + cap 1099511627776 (bds x.thn).2.2)) = cap 1099511627776 (yn x).2.2 := by rw [yA, zno a4]; exact zcx hr.1 hcost.1 n1.2.2 (by omega)
     have z1 : 0 <= 1 + x.n * (1 + cap 1099511627776 (bds x.thn).1) := by omega
     have z2 := p2.1
     have z3 := p3.1
     refine Gs 3 O (zlo O tg3 (hB_p.cells 0 _ O) (Gs 1 O (zlo O tg3 (hB_c.cells 3 _ O) (Gs 1 O (zlo O tg3 (hB_t.cells 0 _ O) (Ga 4 O (by omega) (zke O (M.store ts3 O O O O hB_p (by simp)) ?_)))))))
     rintro ws13 ⟨_, hB_p, hs13⟩
     replace hE := hE.trans hs13 (fun q hq h => by have h : q = p := h; omega)
     replace hB_r := hs13.blk hB_r hn_r_p
     replace hB_o := hs13.blk hB_o hn_o_p
     replace hB_c := hs13.blk hB_c hn_c_p
     replace hB_t := hs13.blk hB_t (fun h => hn_p_t h.symm)
     replace hB_u := hs13.blk hB_u (fun h => hn_p_u h.symm)
     refine Gs 5 O (zlo O tg3 (hB_c.cells 3 _ O) (Gs 1 O (zlo O tg3 (hB_t.cells 1 _ O) (Ga 2 O (by omega) (zke O (M.store ts3 O O O O hB_p (by simp)) ?_)))))
     rintro ws14 ⟨_, hB_p, hs14⟩
     replace hE := hE.trans hs14 (fun q hq h => by have h : q = p := h; omega)
     replace hB_r := hs14.blk hB_r hn_r_p
     replace hB_o := hs14.blk hB_o hn_o_p
     replace hB_c := hs14.blk hB_c hn_c_p
     replace hB_t := hs14.blk hB_t (fun h => hn_p_t h.symm)
     replace hB_u := hs14.blk hB_u (fun h => hn_p_u h.symm)
     refine Gs 4 O (zlo O tg3 (hB_c.cells 3 _ O) (Gs 1 O (zlo O tg3 (hB_c.cells 1 _ O) (Gs 1 O (zlo O tg3 (hB_t.cells 2 _ O) (Ga 3 O (by omega) (zke O (M.store ts3 O O O O hB_p (by simp)) ?_)))))))
     rintro ws15 ⟨_, hB_p, hs15⟩
     replace hE := hE.trans hs15 (fun q hq h => by have h : q = p := h; omega)
     replace hB_r := hs15.blk hB_r hn_r_p
     replace hB_o := hs15.blk hB_o hn_o_p
     replace hB_c := hs15.blk hB_c hn_c_p
     replace hB_t := hs15.blk hB_t (fun h => hn_p_t h.symm)
     replace hB_u := hs15.blk hB_u (fun h => hn_p_u h.symm)
     refine Gs 6 O (zlo O tg3 (hB_o.cells 0 _ O) (Gs 1 O (zlo O tg3 (hB_p.cells 0 _ O) (Ga 3 O (by omega) (zke O (M.store ts3 O O O O hB_o (by simp)) ?_)))))
     rintro ws16 ⟨_, hB_o, hs16⟩
     replace hE := hE.trans hs16 (fun q hq h => by have h : q = o := h; omega)
     replace hB_r := hs16.blk hB_r hn_r_o
     replace hB_c := hs16.blk hB_c (fun h => hn_o_c h.symm)
     replace hB_p := hs16.blk hB_p (fun h => hn_o_p h.symm)
     replace hB_t := hs16.blk hB_t (fun h => hn_o_t h.symm)
     replace hB_u := hs16.blk hB_u (fun h => hn_o_u h.symm)
     refine Gs 5 O (zlo O tg3 (hB_o.cells 1 _ O) (Gs 1 O (zlo O tg3 (hB_p.cells 1 _ O) (Ga 3 O (by omega) (zke O (M.store ts3 O O O O hB_o (by simp)) ?_)))))
     rintro ws17 ⟨_, hB_o, hs17⟩
     replace hE := hE.trans hs17 (fun q hq h => by have h : q = o := h; omega)
     replace hB_r := hs17.blk hB_r hn_r_o
     replace hB_c := hs17.blk hB_c (fun h => hn_o_c h.symm)
     replace hB_p := hs17.blk hB_p (fun h => hn_o_p h.symm)
     replace hB_t := hs17.blk hB_t (fun h => hn_o_t h.symm)
     replace hB_u := hs17.blk hB_u (fun h => hn_o_u h.symm)
     refine Gs 4 O (zlo O tg3 (hB_o.cells 2 _ O) (Gs 1 O (zlo O tg3 (hB_p.cells 2 _ O) (Ga 3 O (by omega) (zke O (M.store ts3 O O O O hB_o (by simp)) ?_)))))
     rintro ws18 ⟨_, hB_o, hs18⟩
     replace hE := hE.trans hs18 (fun q hq h => by have h : q = o := h; omega)
     replace hB_r := hs18.blk hB_r hn_r_o
     replace hB_c := hs18.blk hB_c (fun h => hn_o_c h.symm)
     replace hB_p := hs18.blk hB_p (fun h => hn_o_p h.symm)
     replace hB_t := hs18.blk hB_t (fun h => hn_o_t h.symm)
     replace hB_u := hs18.blk hB_u (fun h => hn_o_u h.symm)
     refine Ga 7 O (by omega) (zjx (i + 1) (zl4 O) (⟨by omega, by rw [htk1, htk2, htk3, <- yL hpre.1 y.1 z1 f1, <- yL hpre.2.1 y.2.1 z2 f2, <- yL hpre.2.2 y.2.2 z3 f3]; exact hB_o, hB_r, hE⟩) (by first | omega | (dsimp only; omega)))
    ·
     obtain ⟨g1, g2⟩ := hS.free a3 a4
     have eB : yn x = (1, 0, x.cost) := by rw [yA, g1, g2, znn a4]; simp [bds, a1]
     have f1 : cap 1099511627776 1 = cap 1099511627776 (yn x).1 := by rw [eB]
     have f2 : cap 1099511627776 0 = cap 1099511627776 (yn x).2.1 := by rw [eB]
     have f3 : cap 1099511627776 x.cost = cap 1099511627776 (yn x).2.2 := by rw [eB]
     have z1 : (0 : Int) <= 1 := by decide
     have z2 : (0 : Int) <= 0 := by decide
     have z3 := hcost.1
     refine Gs 6 O (zlo O tg3 (hB_o.cells 0 _ O) (Gs 1 O (zlo O tg3 (hB_p.cells 0 _ O) (Ga 3 O (by omega) (zke O (M.store ts3 O O O O hB_o (by simp)) ?_)))))
     rintro ws19 ⟨_, hB_o, hs19⟩
     replace hE := hE.trans hs19 (fun q hq h => by have h : q = o := h; omega)
     replace hB_r := hs19.blk hB_r hn_r_o
     replace hB_c := hs19.blk hB_c (fun h => hn_o_c h.symm)
     replace hB_p := hs19.blk hB_p (fun h => hn_o_p h.symm)
     replace hB_t := hs19.blk hB_t (fun h => hn_o_t h.symm)
     replace hB_u := hs19.blk hB_u (fun h => hn_o_u h.symm)
     refine Gs 5 O (zlo O tg3 (hB_o.cells 1 _ O) (Gs 1 O (zlo O tg3 (hB_p.cells 1 _ O) (Ga 3 O (by omega) (zke O (M.store ts3 O O O O hB_o (by simp)) ?_)))))
     rintro ws20 ⟨_, hB_o, hs20⟩
     replace hE := hE.trans hs20 (fun q hq h => by have h : q = o := h; omega)
     replace hB_r := hs20.blk hB_r hn_r_o
     replace hB_c := hs20.blk hB_c (fun h => hn_o_c h.symm)
     replace hB_p := hs20.blk hB_p (fun h => hn_o_p h.symm)
     replace hB_t := hs20.blk hB_t (fun h => hn_o_t h.symm)
     replace hB_u := hs20.blk hB_u (fun h => hn_o_u h.symm)
     refine Gs 4 O (zlo O tg3 (hB_o.cells 2 _ O) (Gs 1 O (zlo O tg3 (hB_p.cells 2 _ O) (Ga 3 O (by omega) (zke O (M.store ts3 O O O O hB_o (by simp)) ?_)))))
     rintro ws21 ⟨_, hB_o, hs21⟩
     replace hE := hE.trans hs21 (fun q hq h => by have h : q = o := h; omega)
     replace hB_r := hs21.blk hB_r hn_r_o
     replace hB_c := hs21.blk hB_c (fun h => hn_o_c h.symm)
     replace hB_p := hs21.blk hB_p (fun h => hn_o_p h.symm)
     replace hB_t := hs21.blk hB_t (fun h => hn_o_t h.symm)
     replace hB_u := hs21.blk hB_u (fun h => hn_o_u h.symm)
     refine Ga 7 O (by omega) (zjx (i + 1) (zl4 O) (⟨by omega, by rw [htk1, htk2, htk3, <- yL hpre.1 y.1 z1 f1, <- yL hpre.2.1 y.2.1 z2 f2, <- yL hpre.2.2 y.2.2 z3 f3]; exact hB_o, hB_r, hE⟩) (by first | omega | (dsimp only; omega)))
 ·
  have hii : i = l.length := by omega
  subst hii
  rw [zni] at hB_o
  refine Gs 7 O (zlq O Tryz.isAgg148 ts148 hB_o.cells O (zke O (zkf ts148 O O O O (by simp [Value.oneCell']) hB_r (by simp)) ?_))
  rintro wf ⟨_, hBf, hkf⟩
  refine Gs 3 O (zjO Tryz.results118 O (zj Tryz.isAgg148 ts148 O hBf.cells) ?_)
  exact ⟨_, rfl, rfl, hE.trans hkf (fun q hq h => by have h : q = r := h; omega)⟩
def jd (f : Fl) : Bool := decide (f.vars.length <= 64) && decide (f.hatches.length <= 8) && f.hatches.all (fun h => decide (h.term.depth <= 12)) && (decide (zQ f.body <= 12) && !yd f.body)
def zdE (f : Fl) : Bool := decide (4096 < (bds f.body).1) || decide (8 < (bds f.body).2.1) || decide (67108864 < (bds f.body).2.2)
def yi (f : Fl) : Int :=
 if jd f = false then 4
 else if zx f.vars ≠ 0 then zx f.vars
 else if zG f.vars f.hatches ≠ 0 then zG f.vars f.hatches
 else if zc f.vars f.hatches.length f.body true ≠ 0 then zc f.vars f.hatches.length f.body true
 else if zdE f then 4 else 0
theorem zbO {vs : List Vr} (h : zx vs = 0) : ∀ v ∈ vs, ym (v.low, v.high) := by
 have h1 : ∀ j, j < vs.length -> kN vs j = 0 := by
  unfold zx at h
  split at h
  . rename_i h2; exact absurd h h2
  ·
   rename_i h2
   intro j hj
   exact yH vs.length 0 (by simpa using h2) j (zns _) (by omega)
 exact fun v hv => (qc h1 v hv).1
theorem jL (f : Fl) (v1 v2 v3 : Value) (D : Nat -> Prop) (w : World) (hf : RFl D w f v1 v2 v3) (hsz : zq f.body + yb f.hatches <= 1024) (hbk : xu f.body <= 1000000) : Calls Tryz.prog 60 #[.agg #[v1, v2, v3]] w (Ret fun r w' => r = .int .i64 (yi f) /\ Ext w w') := by
 replace hf := hf.narrow
 generalize hD0 : (fun b => D b /\ b < w.heap.size) = E at hf
 have hDw : ∀ q, E q -> q < w.heap.size := fun q h => by rw [<- hD0] at h; exact h.2
 obtain ⟨hvs, hhs, hbd⟩ := hf
 have hm1 := hvs.max
 have hm2 := hhs.max
 obtain ⟨a1, n1, rfl⟩ := hvs.form
 obtain ⟨a2, n2, rfl⟩ := hhs.form
 have hE := Keep.refl (fun _ => False) w
 refine zlt Tryz.func60 O Tryz.ntmps60 O (Gs 2 O (G.mem O O (M.box O O) ?_))
 rintro _ w_b ⟨b, rfl, hg_b, hs_b, hB_b, hk_b⟩
 have hge_b : _ <= b := znj hE.size (Nat.le_of_eq hg_b.symm)
 replace hE := Tr1 hk_b hE
 refine Gs 5 O (G.mem O O (M.alloc (cs := _) Tryz.zeroValue144 O) ?_)
 rintro _ w_m ⟨m, rfl, hg_m, hs_m, hB_m, hk_m⟩
 have hn_b_m : b ≠ m := by have := hB_b.lt; omega
 have hge_m : _ <= m := znj hE.size (Nat.le_of_eq hg_m.symm)
 obtain ⟨hE, hB_b⟩ := Tr2 hk_m hE hB_b
 refine Gs 5 O (zlo O tg24 (hB_b.cells 2 _ O) ?_)
 have hvs0 := hvs
 have hhs0 := hhs
 have hbd0 := hbd
 have DM : ∀ q, E q -> q ≠ m := fun q h => by have := hDw q h; omega
 refine G.call O Tryz.call112 (zbN f.body _ E _ m 0 false 1 (hbd.ext ze hE) DM hB_m (by omega) (by omega) (by omega) (by omega)) ?_
 rintro _ w2 ⟨rfl, ⟨m2, h1, h2, hB_m⟩, hz⟩
 replace hE := hE.trans hz (fun q hq h => by have h : q = m := h; omega)
 replace hB_b := hz.blk hB_b (hn_b_m)
 refine Gs 6 O (zlo O tg23 (hB_b.cells 1 _ O) (Gs 5 O (G.loop (σ := Nat) (fun i => [(1, .pointer (some ⟨b, 0, none⟩)), (3, .pointer (some ⟨m, 0, none⟩)), (14, .slice a2 f.hatches.length n2), (15, .int .i64 f.hatches.length), (16, .int .i64 i)]) (fun i => fun w' => i <= f.hatches.length /\ (∃ m' : Int, 0 <= m' /\ m' <= zq f.body + yb (f.hatches.take i) /\ Blk w' m [.int .i64 m', .bool (xj 1 f.body || (f.hatches.take i).any (fun h => decide (12 < h.term.depth)))] 144) /\ Blk w' b [.slice a1 f.vars.length n1, .slice a2 f.hatches.length n2, v3] 26 /\ Ext w w') (fun i => f.hatches.length - i) (0) (zl4 O) (⟨zns _, ⟨m2, by omega, by simp [yb]; omega, by simpa using hB_m⟩, hB_b, hE⟩) ?_)))
 rintro i w3 ⟨hi, ⟨m', hm0, hm'1, hB_m⟩, hB_b, hE⟩
 have hhs := hhs0.ext yE hE
 refine Gs 6 O (zjm O (fun hlt => ?_) (fun hlt => ?_))
 ·
  obtain ⟨x, he_x, hm_x⟩ := gE_ f.hatches (i) (by omega)
  obtain ⟨b_x, o_x, c_x, ha_x, _, hc_x, hR_x⟩ := hhs.at he_x
  have h1_x := RHt.one hR_x
  obtain ⟨v1_x, rfl, hk_x⟩ := hR_x
  obtain ⟨a1_x, n1_x, rfl⟩ := hk_x.form
  have hlt_x : b_x < _ := znf _ _ (hc_x 0 _ rfl)
  have hxn := xY he_x
  have htk := zcm he_x
  refine Gs 6 O (zlk O O (zk5 tR23 ts95 O O ha_x (by omega)) (zlq O tg95 ts95 hc_x O (G.mem O O (M.alloc (cs := _) tz95 O) ?_)))
  rintro _ wa1 ⟨c, rfl, hg_c, hs_c, hB_c, hk_c⟩
  refine zke O (zkf ts95 O O O O h1_x hB_c (by simp)) ?_
  rintro w_c ⟨_, hB_c, hkk_c⟩
  replace hk_c := hk_c.trans hkk_c (fun q hq h => by have h : q = c := h; omega)
  have hn_b_c : b ≠ c := by have := hB_b.lt; omega
  have hn_m_c : m ≠ c := by have := hB_m.lt; omega
  have hge_c : _ <= c := znj hE.size (Nat.le_of_eq hg_c.symm)
  obtain ⟨hE, hB_b, hB_m, hhs, hc_x, hk_x⟩ := Tr6 hk_c hE hB_b hB_m hhs hc_x hk_x
  refine Gs 4 O (G.call O Tryz.call113 (xG m _ _ _ hB_m) ?_)
  rintro _ wz2 ⟨rfl, hz2⟩
  obtain ⟨hE, hB_b, hB_m, hhs, hc_x, hk_x, hB_c⟩ := Tr7 hz2 hE hB_b hB_m hhs hc_x hk_x hB_c
  have ho : decide (1024 < m') = false := znq (by omega)
  rw [ho, Bool.or_false]
  refine zlk O O (zkO O (by first | exact zb | rfl)) (Gs 2 O (G.bool O (fun hov => ?_) (fun hov => ?_)))
  ·
   have hov' : (xj 1 f.body || (f.hatches.take i).any (fun h => decide (12 < h.term.depth))) = false := by simpa using hov
   rw [hov'] at hB_m
   refine Gs 2 O (zlq O tg86 ts86 (hB_c.cells.sub 3 3) O (G.call O Tryz.call114 (kQ x.term _ E _ m _ _ 1 (RTm.put hk_x) DM hB_m (by omega) (by omega) (by omega) (by omega)) ?_))
   rintro _ w6 ⟨rfl, ⟨n2', h1', h2', hB2⟩, hz⟩
   replace hE := hE.trans hz (fun q hq h => by have h : q = m := h; omega)
   replace hB_b := hz.blk hB_b (hn_b_m)
   replace hB_c := hz.blk hB_c (fun h => hn_m_c h.symm)
   refine Ga 7 O (by omega) (zjx (i + 1) (zl4 O) (⟨by omega, ⟨n2', by omega, by omega, ?_⟩, hB_b, hE⟩) (by first | omega | (dsimp only; omega)))
   have hb : (false || decide (12 < 1 + (x.term.depth : Int) - 1)) = (xj 1 f.body || (f.hatches.take (i + 1)).any (fun h => decide (12 < h.term.depth))) := by
    rw [zh he_x, List.any_append, <- Bool.or_assoc, hov', Bool.false_or, Bool.false_or]
    simp; omega
   rw [<- hb]; exact hB2
  ·
   have hov' : (xj 1 f.body || (f.hatches.take i).any (fun h => decide (12 < h.term.depth))) = true := by rw [<- Bool.not_eq_false]; intro h; rw [h] at hov; cases hov
   refine Ga 7 O (by omega) (zjx (i + 1) (zl4 O) (⟨by omega, ⟨m', by omega, by omega, ?_⟩, hB_b, hE⟩) (by first | omega | (dsimp only; omega)))
   rw [hov'] at hB_m
   rw [zh he_x, List.any_append, <- Bool.or_assoc, hov', Bool.true_or]
   exact hB_m
 ·
  have hii : i = f.hatches.length := by omega
  subst hii
  rw [zni] at hB_m hm'1
  have hsz2 : jd f = (decide (f.vars.length <= 64) && decide (f.hatches.length <= 8) && !(xj 1 f.body || f.hatches.any (fun h => decide (12 < h.term.depth)))) := by
   unfold jd xj
   have e1 : (f.hatches.all fun h => decide (h.term.depth <= 12)) = !(f.hatches.any fun h => decide (12 < h.term.depth)) := by
    rw [List.not_any_eq_all_not]; congr 1; funext h; rw [<- decide_not, znF]; omega
   have e2 : decide (12 < 1 + (zQ f.body : Int) - 1) = !decide (zQ f.body <= 12) := by rw [<- decide_not, znF]; omega
   rw [e1, e2]
   generalize decide (f.vars.length <= 64) = p1
   generalize decide (f.hatches.length <= 8) = p2
   generalize (f.hatches.any fun h => decide (12 < h.term.depth)) = p3
   generalize decide (zQ f.body <= 12) = p4
   generalize yd f.body = p5
   revert p1 p2 p3 p4 p5; decide
  refine Gs 9 O (zlo O tg22 (hB_b.cells 0 _ O) (Gs 3 O (zlf 30 O (fun g1 => ?_) (fun g1 => ?_))))
  ·
   have s0 : jd f = false := by rw [hsz2, znq (show ¬ f.vars.length <= 64 by omega)]; rfl
   refine Gs 18 O (zjG tr60 O ⟨_, rfl, by rw [yi, zno s0], hE⟩)
  ·
   refine Gs 1 O (zlo O tg23 (hB_b.cells 1 _ O) (Gs 4 O (zlf 36 O (fun g2 => ?_) (fun g2 => ?_))))
   ·
    have s0 : jd f = false := by rw [hsz2, znq (show ¬ f.hatches.length <= 8 by omega), Bool.and_false]; rfl
    refine Gs 12 O (zjG tr60 O ⟨_, rfl, by rw [yi, zno s0], hE⟩)
   ·
    have hvs := hvs0.ext yZ hE
    have hbd := hbd0.ext ze hE
    refine G.call O Tryz.call113 (xG m _ _ _ hB_m) ?_
    rintro _ wz3 ⟨rfl, hz3⟩
    obtain ⟨hE, hB_b, hB_m, hhs, hvs, hbd⟩ := Tr6 hz3 hE hB_b hB_m hhs hvs hbd
    have ho : decide (1024 < m') = false := znq (by omega)
    rw [ho, Bool.or_false]
    rw [znp (show f.vars.length <= 64 by omega), znp (show f.hatches.length <= 8 by omega), Bool.true_and, Bool.true_and] at hsz2
    refine Gs 3 O (G.bool O (fun s1 => ?_) (fun s1 => ?_))
    ·
     have s0 : jd f = false := by rw [hsz2, s1]; rfl
     refine Gs 7 O (zjG tr60 O ⟨_, rfl, by rw [yi, zno s0], hE⟩)
    ·
     have s0 : ¬ jd f = false := by rw [hsz2, s1]; decide
     refine Gs 6 O (zlo O tg22 (hB_b.cells 0 _ O) (G.call O Tryz.call115 (zcs f.vars _ E _ hvs (by omega)) ?_))
     rintro _ wz4 ⟨rfl, hz4⟩
     obtain ⟨hE, hB_b, hB_m, hhs, hvs, hbd⟩ := Tr6 hz4 hE hB_b hB_m hhs hvs hbd
     refine Gs 9 O (zjm O (fun vz => ?_) (fun vz => ?_))
     . refine Gs 8 O (zjG tr60 O ⟨_, rfl, by rw [yi, znn s0, zno vz], hE⟩)
     ·
      have hg := zbO (show zx f.vars = 0 by omega)
      refine Gs 5 O (zlq O tg26 ts26 hB_b.cells O ?_)
      have hch : yi f = if zG f.vars f.hatches ≠ 0 then zG f.vars f.hatches else if zc f.vars f.hatches.length f.body true ≠ 0 then zc f.vars f.hatches.length f.body true else if zdE f then 4 else 0 := by rw [yi, znn s0, znn vz]
      have hhs := hhs0.ext yE hE
      refine G.call O Tryz.call116 (zah f _ _ _ E _ ⟨hvs, hhs, hbd⟩ hg (fun h hh => by obtain ⟨i, hi⟩ := List.mem_iff_getElem?.1 hh; have := xY hi; omega) (by omega)) ?_
      rintro _ wz5 ⟨rfl, hz5⟩
      obtain ⟨hE, hB_b, hB_m, hvs, hbd, hhs⟩ := Tr6 hz5 hE hB_b hB_m hvs hbd hhs
      refine Gs 9 O (zjm O (fun hz2 => ?_) (fun hz2 => ?_))
      . refine Gs 8 O (zjG tr60 O ⟨_, rfl, by rw [hch, zno hz2], hE⟩)
      ·
       rw [znn hz2] at hch
       refine Gs 5 O (zlq O tg26 ts26 hB_b.cells O (Gs 1 O (zlo O tg24 (hB_b.cells 2 _ O) (G.call O Tryz.call117 (zbL f _ _ _ hg E f.body _ E _ true ⟨hvs, hhs, hbd⟩ hbd hbk) ?_))))
       rintro _ wz6 ⟨rfl, hz6⟩
       obtain ⟨hE, hB_b, hB_m, hvs, hbd, hhs⟩ := Tr6 hz6 hE hB_b hB_m hvs hbd hhs
       refine Gs 9 O (zjm O (fun sz => ?_) (fun sz => ?_))
       . refine Gs 8 O (zjG tr60 O ⟨_, rfl, by rw [hch, zno sz], hE⟩)
       ·
        have hs0 : zc f.vars f.hatches.length f.body true = 0 := by omega
        rw [znn sz] at hch
        refine Gs 6 O (zlo O tg24 (hB_b.cells 2 _ O) (G.call O Tryz.call118 (zg2 f.vars f.hatches.length f.body _ E _ true hs0 hbd hbk) ?_))
        rintro _ wz7 ⟨rfl, hz7⟩
        obtain ⟨hE, hB_b, hB_m, hvs, hbd, hhs⟩ := Tr6 hz7 hE hB_b hB_m hvs hbd hhs
        have c1 : (4096 < cap 1099511627776 (bds f.body).1) ↔ 4096 < (bds f.body).1 := by unfold cap; omega
        have c2 : (8 < cap 1099511627776 (bds f.body).2.1) ↔ 8 < (bds f.body).2.1 := by unfold cap; omega
        have c3 : (67108864 < cap 1099511627776 (bds f.body).2.2) ↔ 67108864 < (bds f.body).2.2 := by unfold cap; omega
        have ho2 : zdE f = (decide (4096 < cap 1099511627776 (bds f.body).1) || decide (8 < cap 1099511627776 (bds f.body).2.1) || decide (67108864 < cap 1099511627776 (bds f.body).2.2)) := by
         unfold zdE; rw [znF.2 c1, znF.2 c2, znF.2 c3]
        refine G.mem O O (M.alloc (cs := _) tz148 O) ?_
        rintro _ wa8 ⟨c, rfl, hg_c, hs_c, hB_c, hk_c⟩
        refine zke O (zkf ts148 O O O O (by simp [Value.oneCell']) hB_c (by simp)) ?_
        rintro w_c ⟨_, hB_c, hkk_c⟩
        replace hk_c := hk_c.trans hkk_c (fun q hq h => by have h : q = c := h; omega)
        have hn_b_c : b ≠ c := by have := hB_b.lt; omega
        have hn_m_c : m ≠ c := by have := hB_m.lt; omega
        have hge_c : _ <= c := znj hE.size (Nat.le_of_eq hg_c.symm)
        obtain ⟨hE, hB_b, hB_m, hvs, hbd, hhs⟩ := Tr6 hk_c hE hB_b hB_m hvs hbd hhs
        refine Gs 5 O (zlo O tg3 (hB_c.cells 0 _ O) (Gs 2 O (zlf 63 O (fun b1 => ?_) (fun b1 => ?_))))
        . refine Gs 19 O (zjG tr60 O ⟨_, rfl, by rw [hch, zno (by rw [ho2, znp b1]; rfl)], hE⟩)
        ·
         refine Gs 1 O (zlo O tg3 (hB_c.cells 1 _ O) (Gs 3 O (zlf 68 O (fun b2 => ?_) (fun b2 => ?_))))
         . refine Gs 14 O (zjG tr60 O ⟨_, rfl, by rw [hch, zno (by rw [ho2, znp b2, Bool.or_true]; rfl)], hE⟩)
         ·
          refine Gs 1 O (zlo O tg3 (hB_c.cells 2 _ O) (Gs 4 O (zjm O (fun b3 => ?_) (fun b3 => ?_))))
          . refine Gs 7 O (zjG tr60 O ⟨_, rfl, by rw [hch, zno (by rw [ho2, znp b3, Bool.or_true])], hE⟩)
          . refine Gs 8 O (zjG tr60 O ⟨_, rfl, by rw [hch, znn (by rw [ho2, znq b1, znq b2, znq b3]; decide)], hE⟩)
end Go.Proofs.YtaenledoagbddaaGreatDoor
namespace Go.GL
instance decNd : DecidableEq Nd := fun a b =>
 if h : a.kind = b.kind /\ a.at_ = b.at_ /\ a.next = b.next /\ a.other = b.other then isTrue (zmH h.1 h.2.1 h.2.2.1 h.2.2.2) else isFalse (fun e => h (by subst e; exact ⟨rfl, rfl, rfl, rfl⟩))
end Go.GL
namespace Go.Proofs.YtaenledoagbddaaGreatDoor
open Go.GL
theorem zaU {vs : List Vr} {nh : Nat} (l : List St) : ∀ top, zc vs nh l top = 0 -> yN l = true := by
 induction l using zkX with
 | h l ih =>
 intro top h
 refine zef (fun s hs => ?_)
 obtain ⟨last, h2⟩ := xe l top h s hs
 obtain ⟨h3, _, _, h4, h5⟩ := xF h2
 rw [s.plainB_eq, (ih s hs).1 _ h4, (ih s hs).2 _ h5, Bool.and_true, Bool.and_true]
 split
 . rfl
 ·
  split
  . rename_i a4; rw [(h3.rep a4).2.2]; rfl
  . rename_i a3 a4; rw [(h3.free a3 a4).1, (h3.free a3 a4).2]; rfl
theorem zO {f : Fl} (h : yi f = 0) : jd f = true /\ zx f.vars = 0 /\ zG f.vars f.hatches = 0 /\ zc f.vars f.hatches.length f.body true = 0 /\ zdE f = false := by
 unfold yi at h
 split at h
 . cases h
 split at h
 . rename_i h1; exact absurd h h1
 split at h
 . rename_i h1; exact absurd h h1
 split at h
 . rename_i h1; exact absurd h h1
 split at h
 . cases h
 rename_i h1 h2 h3 h4 h5
 refine ⟨by simpa using h1, by omega, by omega, by omega, by simpa using h5⟩
theorem zcy {f : Fl} (h : yi f = 0) : yN f.body = true := zaU _ _ (zO h).2.2.2.1
theorem zcz {f : Fl} (hsz : zq f.body + yb f.hatches <= 1024) : ssize f.body <= 1024 := by have := zbD f.body; omega
end Go.Proofs.YtaenledoagbddaaGreatDoor
namespace Go.GL
mutual
/-- The steps in preorder. -/
def St.pre : St -> List St
 | .mk a c v n t f g b => .mk a c v n t f g b :: (qd f ++ qd g)
def qd : List St -> List St
 | [] => []
 | s :: r => s.pre ++ qd r
end
theorem St.pre_eq (s : St) : s.pre = s :: (qd s.thn ++ qd s.els) := by cases s; rw [St.pre]; rfl
theorem qz (a b : List St) : qd (a ++ b) = qd a ++ qd b := by
 induction a with
 | nil => rfl
 | cons x r ih => rw [List.cons_append, qd, ih, qd, List.append_assoc]
theorem zg3 : ∀ l : List St, (qd l).length = ssize l := by
 intro l
 induction l using zkX with
 | h l ih =>
  have key : ∀ r : List St, (∀ s ∈ r, (qd s.thn).length = ssize s.thn /\ (qd s.els).length = ssize s.els) -> (qd r).length = ssize r := by
   intro r
   induction r with
   | nil => intro _; rfl
   | cons x r ih2 =>
    intro h
    have h1 := h x (znh ..)
    have h2 := ih2 (fun s hs => h s (zng _ hs))
    have h4 := x.size_eq
    rw [qd, znl, x.pre_eq, znG, znl, h1.1, h1.2, h2, ssize]; omega
  exact key l ih
open Go.RowKit Go.ChangeMaps
def lkm : List (Int × Value) -> Int -> Option (Nat × Value)
 | [], _ => none
 | (a, v) :: r, k => if k = a then some (0, v) else (lkm r k).map fun p => (p.1 + 1, p.2)
def zcA (l : List (Int × Value)) (k : Int) : Option Value := (lkm l k).map (·.2)
def zg4 (l : List (Int × Value)) (k : Int) (v : Value) : List (Int × Value) := match lkm l k with
 | some p => l.set p.1 (k, v)
 | none => l ++ [(k, v)]
theorem qp {l : List (Int × Value)} {k : Int} {p : Nat × Value} (h : lkm l k = some p) : l[p.1]? = some (k, p.2) := by
 induction l generalizing p with
 | nil => simp [lkm] at h
 | cons x r ih =>
  obtain ⟨a, v⟩ := x
  rw [lkm] at h
  split at h
  . rename_i h1; cases h; rw [h1]; rfl
  ·
   obtain ⟨q, h2, rfl⟩ := Option.map_eq_some_iff.1 h
   simpa using ih h2
theorem zaV {l : List (Int × Value)} {k : Int} (h : lkm l k = none) : ∀ p ∈ l, p.1 ≠ k := by
 induction l with
 | nil => intro p hp; simp at hp
 | cons x r ih =>
  obtain ⟨a, v⟩ := x
  rw [lkm] at h
  split at h
  . cases h
  ·
   rename_i h1
   intro p hp
   rcases znt.1 hp with rfl | hp
   . exact fun h2 => h1 h2.symm
   . exact ih (by simpa using h) p hp
theorem zd4 {l : List (Int × Value)} {k : Int} {v : Value} (h : zcA l k = some v) : (k, v) ∈ l := by
 obtain ⟨p, h1, rfl⟩ := Option.map_eq_some_iff.1 h
 exact zne (qp h1)
theorem qA {l : List (Int × Value)} (hn : (l.map (·.1)).Nodup) {k : Int} {v : Value} (h : (k, v) ∈ l) : zcA l k = some v := by
 induction l with
 | nil => simp at h
 | cons x r ih =>
  obtain ⟨a, u⟩ := x
  rw [List.map_cons, List.nodup_cons] at hn
  rw [zcA, lkm]
  rcases znt.1 h with h1 | h1
  . cases h1; simp
  ·
   have hne : k ≠ a := fun e => hn.1 (List.mem_map.2 ⟨(k, v), h1, e⟩)
   rw [znn hne]
   have := ih hn.2 h1
   rw [zcA] at this
   simpa [Option.map_map] using this
theorem zaW {l : List (Int × Value)} {k : Int} : zcA l k = none ↔ ∀ p ∈ l, p.1 ≠ k := by
 rw [zcA, Option.map_eq_none_iff]
 refine ⟨zaV, fun h => ?_⟩
 cases h1 : lkm l k with
 | none => rfl
 | some p => exact absurd rfl (h _ (zne (qp h1)))
theorem zes (l : List (Int × Value)) (k : Int) (v : Value) : (zg4 l k v).map (·.1) = match lkm l k with
 | some _ => l.map (·.1)
 | none => l.map (·.1) ++ [k] := by
 unfold zg4
 cases h : lkm l k with
 | none => simp
 | some p =>
  have h1 := qp h
  simp only
  rw [List.map_set]
  apply List.ext_getElem?
  intro j
  rw [List.getElem?_set]
  split
  ·
   rename_i hj; subst hj
   rw [znu, h1]
   split
   . rfl
   . rename_i h2; rw [znx] at h2; exact absurd (znr.1 h1).1 h2
  . rfl
theorem zas {l : List (Int × Value)} (hn : (l.map (·.1)).Nodup) (k : Int) (v : Value) : ((zg4 l k v).map (·.1)).Nodup := by
 rw [zes]
 cases h : lkm l k with
 | some p => exact hn
 | none =>
  simp only
  rw [List.nodup_append]
  refine ⟨hn, by simp, fun a ha b hb => ?_⟩
  rw [znv] at hb
  subst hb
  obtain ⟨p, hp, rfl⟩ := List.mem_map.1 ha
  exact zaV h p hp
theorem zet {l : List (Int × Value)} (hn : (l.map (·.1)).Nodup) (k k' : Int) (v : Value) : zcA (zg4 l k v) k' = if k' = k then some v else zcA l k' := by
 have hn' := zas hn k v
 have key : ∀ u, (k', u) ∈ zg4 l k v ↔ (k' = k /\ u = v) \/ (k' ≠ k /\ (k', u) ∈ l) := by
  intro u
  unfold zg4
  cases h : lkm l k with
  | none =>
   have h1 := zaV h
   simp only [znw, znv, Prod.mk.injEq]
   constructor
   ·
    rintro (h2 | h2)
    . exact .inr ⟨h1 _ h2, h2⟩
    . exact .inl h2
   ·
    rintro (h2 | h2)
    . exact .inr h2
    . exact .inl h2.2
  | some p =>
   have h1 := qp h
   obtain ⟨hlt, h1'⟩ := znr.1 h1
   simp only
   constructor
   ·
    intro h2
    obtain ⟨j, hj⟩ := List.mem_iff_getElem?.1 h2
    rw [List.getElem?_set] at hj
    split at hj
    ·
     first
      | (split at hj <;> cases hj <;> exact .inl ⟨rfl, rfl⟩)
      | (cases hj; exact .inl ⟨rfl, rfl⟩)
    ·
     rename_i hne
     refine .inr ⟨?_, zne hj⟩
     rintro rfl
     have hjl := (znr.1 hj).1
     have := (List.nodup_iff_pairwise_ne.1 hn)
     rw [List.pairwise_iff_getElem] at this
     have e1 : (l.map (·.1))[p.1]'(by rw [znx]; exact hlt) = k' := by rw [List.getElem_map, h1']
     have e2 : (l.map (·.1))[j]'(by rw [znx]; exact hjl) = k' := by rw [List.getElem_map, (znr.1 hj).2]
     rcases Nat.lt_or_ge p.1 j with h3 | h3
     . exact this p.1 j _ _ h3 (by rw [e1, e2])
     . exact this j p.1 _ _ (by omega) (by rw [e1, e2])
   ·
    rintro (⟨rfl, rfl⟩ | ⟨h2, h3⟩)
    . exact zne (by rw [List.getElem?_set_self hlt])
    ·
     obtain ⟨j, hj⟩ := List.mem_iff_getElem?.1 h3
     refine List.mem_iff_getElem?.2 ⟨j, ?_⟩
     rw [List.getElem?_set_ne]
     . exact hj
     ·
      rintro rfl
      rw [h1] at hj
      exact h2 (congrArg Prod.fst (Option.some.inj hj)).symm
 by_cases h : k' = k
 ·
  rw [zno h]
  exact qA hn' ((key v).2 (.inl ⟨h, rfl⟩))
 ·
  rw [znn h]
  cases h2 : zcA l k' with
  | some u => exact qA hn' ((key u).2 (.inr ⟨h, zd4 h2⟩))
  | none =>
   rw [zaW] at h2 ⊢
   rintro ⟨a, u⟩ hp rfl
   rcases (key u).1 hp with h3 | h3
   . exact h h3.1
   . exact h2 _ h3.2 O
def MapI (w : World) (m : Nat) (l : List (Int × Value)) : Prop :=
 ∃ (es : Array MapEntry) (clock : Nat), w.heap[m]? = some (.map es clock) /\ es.toList.map (fun e => (e.key, e.val)) = l.map (fun p => (Value.int .i64 p.1, p.2)) /\ (∀ e ∈ es.toList, e.born < clock) /\ (es.toList.map (·.born)).Nodup /\ (l.map (·.1)).Nodup
theorem MapI.nodup {w : World} {m : Nat} {l : List (Int × Value)} (h : MapI w m l) : (l.map (·.1)).Nodup := h.choose_spec.choose_spec.2.2.2.2
theorem MapI.keep {w w' : World} {S : Nat -> Prop} {m : Nat} {l : List (Int × Value)} (h : MapI w m l) (hk : Keep S w w') (hS : ¬ S m) : MapI w' m l := by
 obtain ⟨es, c, h1, r⟩ := h
 exact ⟨es, c, by rw [hk.block m (Array.getElem?_eq_some_iff.1 h1).1 hS]; exact h1, r⟩
theorem MapI.ext {w w' : World} {m : Nat} {l : List (Int × Value)} (h : MapI w m l) (hk : Ext w w') : MapI w' m l := h.keep hk (fun h => h)
theorem MapI.lt {w : World} {m : Nat} {l : List (Int × Value)} (h : MapI w m l) : m < w.heap.size := by
 obtain ⟨es, c, h1, r⟩ := h
 exact (Array.getElem?_eq_some_iff.1 h1).1
theorem MapI.ne {w : World} {m b : Nat} {l : List (Int × Value)} {cs : List Value} {e : TypeId} (h : MapI w m l) (hb : Blk w b cs e) : b ≠ m := by
 rintro rfl
 obtain ⟨es, c, h1, r⟩ := h
 unfold Blk at hb
 rw [h1] at hb
 cases hb
theorem kR (k : Int) : ∀ (es : List MapEntry) (l : List (Int × Value)) (i : Nat), es.map (fun e => (e.key, e.val)) = l.map (fun p => (Value.int .i64 p.1, p.2)) -> Instr.findNow (.int .i64) (.int .i64 k) es i = some ((lkm l k).map fun p => (i + p.1, p.2))
 | [], [], i, _ => rfl
 | [], _ :: _, i, h => by simp at h
 | _ :: _, [], i, h => by simp at h
 | e :: es, (a, v) :: l, i, h => by
  simp only [List.map_cons, List.cons.injEq, Prod.mk.injEq] at h
  rw [Instr.findNow, h.1.1, lkm]
  by_cases hk : k = a
  . simp [Instr.sameNow, hk, h.1.2]
  ·
   have : (k == a) = false := by simpa using hk
   simp only [Instr.sameNow, if_true, this, znn hk]
   rw [kR k es l (i + 1) h.2]
   cases lkm l k <;> simp <;> omega
section
variable {P : Program} {w : World} {m : Nat} {l : List (Int × Value)} {t kt et : TypeId}
theorem zeu (hk : P.underlying kt = some (.int .i64)) (k : Int) (b : Bool) (w : World) : (Instr.checkKey b 10000 kt (.int .i64 k)).run P w = .ok () w := MapKept.run_checkKey hk (by simp [MapKept.IsKey]) b 9999
theorem zz {o o' : Obj} (h : w.heap[m]? = some o) : Keep (fun q => q = m) w (setBlock w m o') :=
 ⟨rfl, rfl, rfl, znC _, by simp [setBlock], fun k _ hn => (MapKept.heap_set h).2 k hn⟩
theorem jx {β : Type} (f : MapEntry -> β) (g : MapEntry -> MapEntry) (y : β) : ∀ (es : List MapEntry) (i : Nat), (∀ e, es[i]? = some e -> f (g e) = y) -> (es.modify i g).map f = (es.map f).set i y := by
 intro es i h
 apply List.ext_getElem?
 intro j
 rw [znu, List.getElem?_modify, List.getElem?_set]
 by_cases hj : i = j
 ·
  subst hj
  cases h1 : es[i]? with
  | none =>
   have := List.getElem?_eq_none_iff.1 h1
   rw [zno rfl, znn (by rw [znx]; omega)]
   simp
  | some e =>
   have := (znr.1 h1).1
   rw [zno rfl, zno (by rw [znx]; omega)]
   simp [h e h1]
 ·
  rw [znn hj, znu]
  cases es[j]? <;> simp [hj]
end
section
variable {P : Program} {env : Env} {w : World} {dst : Option Tmp} {ty : TypeId} {pos : String} {aft : Array Edge} {g : Option (Nat × Bool)} {t kt et : TypeId} {m : Nat} {l : List (Int × Value)}
theorem M.makeMap : zJ P ⟨dst, .makeMap t none, ty, pos, aft, g⟩ env w (fun u w' => ∃ b, u = .map (some b) /\ b = w.heap.size /\ w'.heap.size = w.heap.size + 1 /\ MapI w' b [] /\ Ext w w') := by
 refine ⟨.map (some w.heap.size), w.alloc (.map #[] 0), ?_, _, rfl, rfl, by simp, ⟨#[], 0, (MapKept.heap_alloc w _).1, rfl, by simp, by simp, by simp⟩, Keep.alloc w _⟩
 intro n a ha
 have h : (Instr.makeMap t none).run P w = .ok (.map (some w.heap.size)) (w.alloc (.map #[] 0)) := by simp [Instr.makeMap, Result.andThen]
 simp [execOp, h]
end
def MapE (w : World) (m : Nat) (l : List (Int × Value)) (k : Int) (st : Nat) : Prop :=
 ∃ (es : Array MapEntry) (clock i : Nat) (e : MapEntry) (v : Value), w.heap[m]? = some (.map es clock) /\ es.toList.map (fun e => (e.key, e.val)) = l.map (fun p => (Value.int .i64 p.1, p.2)) /\ (∀ e ∈ es.toList, e.born < clock) /\ (es.toList.map (·.born)).Nodup /\ (l.map (·.1)).Nodup /\
  es.toList[i]? = some e /\ e.born = st /\ lkm l k = some (i, v)
theorem MapE.keep {w w' : World} {S : Nat -> Prop} {m st : Nat} {k : Int} {l : List (Int × Value)} (h : MapE w m l k st) (hk : Keep S w w') (hS : ¬ S m) : MapE w' m l k st := by
 obtain ⟨es, c, i, e, v, h1, r⟩ := h
 exact ⟨es, c, i, e, v, by rw [hk.block m (Array.getElem?_eq_some_iff.1 h1).1 hS]; exact h1, r⟩
theorem MapE.map {w : World} {m st : Nat} {k : Int} {l : List (Int × Value)} (h : MapE w m l k st) : MapI w m l := by
 obtain ⟨es, c, i, e, v, h1, h2, h3, h4, h5, _⟩ := h
 exact ⟨es, c, h1, h2, h3, h4, h5⟩
def RanI (w : World) (it m : Nat) (l : List (Int × Value)) (seen : List Int) (cur : Option (Int × Value)) : Prop :=
 ∃ (es : Array MapEntry) (clock since : Nat) (sb : Array Nat) (c0 : Nat), w.heap[m]? = some (.map es clock) /\ es.toList.map (fun e => (e.key, e.val)) = l.map (fun p => (Value.int .i64 p.1, p.2)) /\ (∀ e ∈ es.toList, e.born < clock) /\ (es.toList.map (·.born)).Nodup /\ (l.map (·.1)).Nodup /\
  w.heap[it]? = some (.mapIter (some m) since sb c0) /\ (∀ e ∈ es.toList, e.born < since) /\ since <= c0 /\ (∀ e ∈ es.toList, ∀ k, e.key = .int .i64 k -> (e.born ∈ sb ↔ k ∈ seen)) /\ seen.Nodup /\ (∀ k ∈ seen, ∃ v, zcA l k = some v) /\
  since <= clock /\ (∀ q, cur = some q -> c0 = clock /\ ∃ (e : MapEntry) (s : Array Nat), e ∈ es.toList /\ sb = s.push e.born /\ e.key = .int .i64 q.1 /\ e.val = q.2)
theorem RanI.keep {w w' : World} {S : Nat -> Prop} {it m : Nat} {l : List (Int × Value)} {seen : List Int} {cur : Option (Int × Value)} (h : RanI w it m l seen cur) (hk : Keep S w w') (hS : ¬ S m) (hI : ¬ S it) : RanI w' it m l seen cur := by
 obtain ⟨es, c, since, sb, c0, h1, h2, h3, h4, h5, h6, r⟩ := h
 exact ⟨es, c, since, sb, c0, by rw [hk.block m (Array.getElem?_eq_some_iff.1 h1).1 hS]; exact h1, h2, h3, h4, h5, by rw [hk.block it (Array.getElem?_eq_some_iff.1 h6).1 hI]; exact h6, r⟩
theorem RanI.map {w : World} {it m : Nat} {l : List (Int × Value)} {seen : List Int} {cur : Option (Int × Value)} (h : RanI w it m l seen cur) : MapI w m l := by
 obtain ⟨es, c, since, sb, c0, h1, h2, h3, h4, h5, _⟩ := h
 exact ⟨es, c, h1, h2, h3, h4, h5⟩
theorem RanI.lt {w : World} {it m : Nat} {l : List (Int × Value)} {seen : List Int} {cur : Option (Int × Value)} (h : RanI w it m l seen cur) : it < w.heap.size := by
 obtain ⟨es, c, since, sb, c0, h1, h2, h3, h4, h5, h6, _⟩ := h
 exact (Array.getElem?_eq_some_iff.1 h6).1
theorem RanI.ne {w : World} {it m : Nat} {l : List (Int × Value)} {seen : List Int} {cur : Option (Int × Value)} (h : RanI w it m l seen cur) : it ≠ m := by
 obtain ⟨es, c, since, sb, c0, h1, h2, h3, h4, h5, h6, _⟩ := h
 rintro rfl
 rw [h1] at h6; cases h6
section
variable {P : Program} {env : Env} {w : World} {dst : Option Tmp} {ty : TypeId} {pos : String} {aft : Array Edge} {g : Option (Nat × Bool)} {t kt et : TypeId} {m : Nat} {l : List (Int × Value)}
theorem M.mapEntry {x y : Operand} {k : Int} {v : Value} (h : MapI w m l) (hv : zcA l k = some v) (ht : P.underlying t = some (.map kt et)) (hk : P.underlying kt = some (.int .i64)) (hx : ev env x = some (.map (some m))) (hy : ev env y = some (.int .i64 k)) :
  zJ P ⟨dst, .mapEntry t x y, ty, pos, aft, g⟩ env w (fun u w' => ∃ st : Nat, u = .tuple #[v, .int .i64 st] /\ MapE w' m l k st /\ Keep (fun q => q = m) w w' /\ w'.heap.size = w.heap.size) := by
 obtain ⟨es, c, h1, h2, h3, h4, h5⟩ := h
 have h6 := kR k _ _ 0 h2
 have h7 := MapKept.run_findKey (P := P) (w := w) hk h6
 have hlen : es.toList.length = l.length := by have := congrArg List.length h2; simpa using this
 obtain ⟨p, h8, rfl⟩ := Option.map_eq_some_iff.1 hv
 rw [h8] at h7
 have h9 := qp h8
 have hp := (znr.1 h9).1
 obtain ⟨e0, he0⟩ : ∃ e0, es.toList[p.1]? = some e0 := ⟨_, znd (by omega)⟩
 have hkey : e0.key = .int .i64 k /\ e0.val = p.2 := by
  have := congrArg (fun L => L[p.1]?) h2
  simp only [znu, he0, h9, Option.map_some, Option.some.injEq, Prod.mk.injEq] at this
  exact this
 have he0' : es[p.1]? = some e0 := by simpa using he0
 have hrun : (Instr.mapEntry t (.map (some m)) (.int .i64 k)).run P w = .ok (.tuple #[p.2, .int .i64 e0.born]) (setBlock w m (.map (es.modify p.1 fun e => { e with key := .int .i64 k }) c)) := by
  simp [Instr.mapEntry, run_underlying ht, MapKept.run_getObj_map h1, zeu hk, h7, he0', hkey.1, Instr.keyThatStays, Instr.sameBits, MapKept.run_setObj_map _ h1, Result.andThen, setBlock, goInt]
 have hmod : (es.modify p.1 fun e => { e with key := .int .i64 k }).toList = es.toList := by
  rw [Array.toList_modify]
  apply List.ext_getElem?
  intro j
  rw [List.getElem?_modify]
  by_cases hj : p.1 = j
  . subst hj; rw [he0]; simp [<- hkey.1]
  . cases es.toList[j]? <;> simp [hj]
 refine ⟨_, _, fun n a ha => ?_, e0.born, rfl, ⟨_, c, p.1, e0, p.2, (MapKept.heap_set h1).1, by rw [hmod]; exact h2, by rw [hmod]; exact h3, by rw [hmod]; exact h4, h5, by rw [hmod]; exact he0, rfl, h8⟩, zz h1, by simp [setBlock]⟩
 simp [execOp, ha.eval hx, ha.eval hy, hrun]
theorem M.entryStore {x y u : Operand} {k : Int} {st : Nat} {v : Value} (h : MapE w m l k st) (hx : ev env x = some (.map (some m))) (hy : ev env y = some (.int .i64 st)) (hu : ev env u = some v) :
  xk P ⟨dst, .entryStore t x y u, ty, pos, aft, g⟩ env w (fun w' => MapI w' m (zg4 l k v) /\ Keep (fun q => q = m) w w' /\ w'.heap.size = w.heap.size) := by
 obtain ⟨es, c, i, e, v0, h1, h2, h3, h4, h5, h6, rfl, h8⟩ := h
 have hi := (znr.1 h6).1
 have hfind : es.findIdx? (fun x => (x.born : Int) == (e.born : Int)) = some i := by
  rw [show es = es.toList.toArray from by simp, List.findIdx?_toArray, List.findIdx?_eq_some_iff_getElem]
  refine ⟨hi, by rw [(znr.1 h6).2]; simp, fun j hj => ?_⟩
  have := List.nodup_iff_pairwise_ne.1 h4
  rw [List.pairwise_iff_getElem] at this
  have h9 := this j i (by rw [znx]; omega) (by rw [znx]; exact hi) hj
  rw [List.getElem_map, List.getElem_map, (znr.1 h6).2] at h9
  intro h10
  have h11 : (es.toList[j].born : Int) = e.born := eq_of_beq h10
  exact h9 (by omega)
 have hrun : (Instr.entryStore t (.map (some m)) (.int .i64 e.born) v).run P w = .ok () (setBlock w m (.map (es.modify i fun x => { x with val := v }) c)) := by
  simp [Instr.entryStore, MapKept.run_getObj_map h1, asInt, asIntOf, hfind, MapKept.run_setObj_map _ h1, Result.andThen, setBlock]
 have hkey : e.key = .int .i64 k := by
  have h9 := qp h8
  have := congrArg (fun L => L[i]?) h2
  simp only [znu, h6, h9, Option.map_some, Option.some.injEq, Prod.mk.injEq] at this
  exact this.1
 refine ⟨setBlock w m (.map (es.modify i fun x => { x with val := v }) c), fun n a ha => ?_, ⟨_, c, (MapKept.heap_set h1).1, ?_, ?_, ?_, zas h5 k v⟩, zz h1, by simp [setBlock]⟩
 . simp [execOp, ha.eval hx, ha.eval hy, ha.eval hu, hrun]
 . rw [zg4, h8, Array.toList_modify, jx _ _ (.int .i64 k, v) _ _ (fun x hx => by rw [h6] at hx; cases hx; simp [hkey]), h2]; simp only [List.map_set]
 ·
  intro x hx'
  rw [Array.toList_modify] at hx'
  obtain ⟨j, hj⟩ := List.mem_iff_getElem?.1 hx'
  rw [List.getElem?_modify] at hj
  obtain ⟨e1, he1, rfl⟩ := Option.map_eq_some_iff.1 hj
  have := h3 e1 (zne he1)
  split <;> exact this
 ·
  have : (es.modify i fun x => { x with val := v }).toList.map (·.born) = es.toList.map (·.born) := by
   rw [Array.toList_modify]
   apply List.ext_getElem?
   intro j
   rw [znu, znu, List.getElem?_modify]
   cases es.toList[j]? <;> simp
   split <;> rfl
  rw [this]; exact h4
theorem M.range {x : Operand} (h : MapI w m l) (ht : P.underlying t = some (.map kt et)) (hx : ev env x = some (.map (some m))) :
  zJ P ⟨dst, .range t x, ty, pos, aft, g⟩ env w (fun u w' => ∃ it, u = .pointer (some ⟨it, 0, none⟩) /\ it = w.heap.size /\ RanI w' it m l [] none /\ Ext w w' /\ w'.heap.size = w.heap.size + 1) := by
 have hlt := h.lt
 obtain ⟨es, c, h1, h2, h3, h4, h5⟩ := h
 have hrun : (Instr.range t (.map (some m))).run P w = .ok (.pointer (some ⟨w.heap.size, 0, none⟩)) (w.alloc (.mapIter (some m) c #[] c)) := by
  simp [Instr.range, run_underlying ht, MapKept.run_getObj_map h1, Result.andThen]
 refine ⟨.pointer (some ⟨w.heap.size, 0, none⟩), w.alloc (.mapIter (some m) c #[] c), fun n a ha => ?_, w.heap.size, rfl, rfl, ⟨es, c, c, #[], c, by rw [(MapKept.heap_alloc w _).2 _ hlt]; exact h1, h2, h3, h4, h5, (MapKept.heap_alloc w _).1, h3, znC _, fun e _ k _ => by simp, List.Pairwise.nil, by simp, znC _, by simp⟩, Keep.alloc w _, by simp⟩
 simp [execOp, ha.eval hx, hrun]
theorem M.next {x : Operand} {it : Nat} {seen : List Int} {cur : Option (Int × Value)} (h : RanI w it m l seen cur) (hx : ev env x = some (.pointer (some ⟨it, 0, none⟩))) :
  zJ P ⟨dst, .next x false, ty, pos, aft, g⟩ env w (fun u w' => (u = .tuple #[.bool false] /\ w' = w /\ ∀ p ∈ l, p.1 ∈ seen) \/ ∃ k v, u = .tuple #[.bool true, .int .i64 k, v] /\ zcA l k = some v /\ k ∉ seen /\ RanI w' it m l (seen ++ [k]) (some (k, v)) /\ Keep (fun q => q = it) w w' /\ w'.heap.size = w.heap.size) := by
 have hne := h.ne
 obtain ⟨es, c, since, sb, c0, h1, h2, h3, h4, h5, h6, h7, h8, h9, h10, h11, hsc, h12⟩ := h
 have hkey : ∀ e ∈ es.toList, ∃ k, e.key = .int .i64 k /\ zcA l k = some e.val := by
  intro e he
  obtain ⟨i, hi⟩ := List.mem_iff_getElem?.1 he
  have := congrArg (fun L => L[i]?) h2
  simp only [znu, hi, Option.map_some] at this
  obtain ⟨p, hp, hp2⟩ := Option.map_eq_some_iff.1 this.symm
  simp only [Prod.mk.injEq] at hp2
  refine ⟨p.1, hp2.1.symm, ?_⟩
  rw [<- hp2.2]
  exact qA h5 (zne hp)
 rcases run_next_at (P := P) w ty it m since c0 sb es c h6 h1 h7 h8 with ⟨h0, hrun⟩ | ⟨e, he, w1, hal, hrun⟩
 ·
  refine ⟨_, _, fun n a ha => ?_, .inl ⟨rfl, rfl, fun p hp => ?_⟩⟩
  . simp [execOp, ha.eval hx, hrun]
  ·
   obtain ⟨i, hi⟩ := List.mem_iff_getElem?.1 hp
   have h13 := congrArg (fun L => L[i]?) h2
   simp only [znu, hi, Option.map_some] at h13
   obtain ⟨e, he, he2⟩ := Option.map_eq_some_iff.1 h13
   simp only [Prod.mk.injEq] at he2
   rw [<- h9 e (zne he) p.1 he2.1]
   have h14 : e ∉ leftOf es sb := by
    have : leftOf es sb = #[] := Array.eq_empty_of_size_eq_zero h0
    rw [this]; simp
   unfold leftOf at h14
   have h15 := zne he
   simp at h14 h15
   exact h14 h15
 ·
  have he' : e ∈ es.toList /\ e.born ∉ sb := by
   unfold leftOf at he
   simp at he
   exact ⟨by simpa using he.1, he.2⟩
  obtain ⟨k, hk1, hk2⟩ := hkey e he'.1
  have hr1 : w1.heap[it]? = some (.mapIter (some m) since sb c0) := by rcases hal with rfl | rfl <;> exact h6
  have hb1 : w1.heap[m]? = some (.map es c) := by rcases hal with rfl | rfl <;> exact h1
  have hset := MapKept.heap_set (o' := .mapIter (some m) since (sb.push e.born) c) hr1
  have hks : k ∉ seen := fun hh => he'.2 ((h9 e he'.1 k hk1).2 hh)
  have hinj : ∀ e' ∈ es.toList, e'.born = e.born -> e' = e := by
   intro e' h' hb
   obtain ⟨i, hi⟩ := List.mem_iff_getElem?.1 h'
   obtain ⟨j, hj⟩ := List.mem_iff_getElem?.1 he'.1
   have hil := (znr.1 hi).1
   have hjl := (znr.1 hj).1
   have hp := List.nodup_iff_pairwise_ne.1 h4
   rw [List.pairwise_iff_getElem] at hp
   by_cases hij : i = j
   . subst hij; rw [hi] at hj; exact Option.some.inj hj
   ·
    exfalso
    rcases Nat.lt_or_ge i j with h3 | h3
    ·
     have := hp i j (by rw [znx]; omega) (by rw [znx]; omega) h3
     rw [List.getElem_map, List.getElem_map, (znr.1 hi).2, (znr.1 hj).2] at this
     exact this hb
    ·
     have := hp j i (by rw [znx]; omega) (by rw [znx]; omega) (by omega)
     rw [List.getElem_map, List.getElem_map, (znr.1 hi).2, (znr.1 hj).2] at this
     exact this hb.symm
  have hKeep : Keep (fun q => q = it) w (setBlock w1 it (.mapIter (some m) since (sb.push e.born) c)) := by
   rcases hal with rfl | rfl
   . exact zz h6
   . exact (Keep.mono (Keep.drew w) (fun _ _ h => h.elim)).trans (zz hr1) (fun _ _ h => h)
  refine ⟨_, _, fun n a ha => ?_, .inr ⟨k, e.val, by rw [<- hk1], hk2, hks, ⟨es, c, since, sb.push e.born, c, ?_, h2, h3, h4, h5, hset.1, h7, hsc, ?_, ?_, ?_, hsc, ?_⟩, hKeep, ?_⟩⟩
  . simp [execOp, ha.eval hx, hrun]
  . exact (hset.2 m (fun h => hne h.symm)).trans hb1
  ·
   intro e' h' k' hk'
   rw [Array.mem_push, h9 e' h' k' hk', znw, znv]
   constructor
   ·
    rintro (h13 | h13)
    . exact .inl h13
    ·
     have := hinj e' h' h13
     subst this
     rw [hk1] at hk'; cases hk'
     exact .inr O
   ·
    rintro (h13 | h13)
    . exact .inl h13
    ·
     subst h13
     right
     obtain ⟨i, hi⟩ := List.mem_iff_getElem?.1 h'
     obtain ⟨j, hj⟩ := List.mem_iff_getElem?.1 he'.1
     have g1 := congrArg (fun L => L[i]?) h2
     have g2 := congrArg (fun L => L[j]?) h2
     simp only [znu, hi, hj, Option.map_some] at g1 g2
     obtain ⟨p1, hp1, hp1'⟩ := Option.map_eq_some_iff.1 g1.symm
     obtain ⟨p2, hp2, hp2'⟩ := Option.map_eq_some_iff.1 g2.symm
     simp only [Prod.mk.injEq] at hp1' hp2'
     have e1 : p1.1 = k' := by have := hp1'.1.trans hk'; cases this; rfl
     have e2 : p2.1 = k' := by have := hp2'.1.trans hk1; cases this; rfl
     have hil := (znr.1 hp1).1
     have hjl := (znr.1 hp2).1
     have hp := List.nodup_iff_pairwise_ne.1 h5
     rw [List.pairwise_iff_getElem] at hp
     by_cases hij : i = j
     . subst hij; rw [hi] at hj; rw [Option.some.inj hj]
     ·
      exfalso
      rcases Nat.lt_or_ge i j with h3' | h3'
      ·
       have := hp i j (by rw [znx]; omega) (by rw [znx]; omega) h3'
       rw [List.getElem_map, List.getElem_map, (znr.1 hp1).2, (znr.1 hp2).2, e1, e2] at this
       exact this O
      ·
       have := hp j i (by rw [znx]; omega) (by rw [znx]; omega) (by omega)
       rw [List.getElem_map, List.getElem_map, (znr.1 hp1).2, (znr.1 hp2).2, e1, e2] at this
       exact this O
  ·
   rw [List.nodup_append]
   exact ⟨h10, by simp, fun a ha b hb => by rw [znv] at hb; subst hb; exact fun h => hks (h ▸ ha)⟩
  ·
   intro k' hk'
   rcases znw.1 hk' with hk' | hk'
   . exact h11 k' hk'
   . rw [znv] at hk'; subst hk'; exact ⟨_, hk2⟩
  ·
   intro q hq
   cases hq
   exact ⟨rfl, e, sb, he'.1, rfl, hk1, rfl⟩
  . rcases hal with rfl | rfl <;> simp [setBlock]
end
end Go.GL
namespace Go.Proofs.YtaenledoagbddaaGreatDoor
open Go.GL
def yM (b : Bool) : Int := if b then 1 else 0
def lki (l : List Int) (i : Nat) : Int := l[i]?.getD 0
theorem zgU {l : List Int} {i : Nat} {x : Int} (h : l[i]? = some x) : lki l i = x := by simp [lki, h]
theorem zgV {l : List Int} {i : Nat} (h : i < l.length) : l[i]? = some (lki l i) := by simp [lki, znd h]
def qB (op a b : Int) : Int :=
 if op = 8 then a + b else if op = 9 then a - b else if op = 10 then a * b else if op = 11 then a.fdiv b
 else if op = 12 then (if b = 0 then 0 else a - b * a.fdiv b) else if op = 13 then yM (decide (a = b)) else if op = 14 then yM (decide (a ≠ b))
 else if op = 15 then yM (decide (a < b)) else if op = 16 then yM (decide (a <= b)) else if op = 17 then yM (decide (b < a)) else if op = 18 then yM (decide (b <= a))
 else if op = 19 then yM (decide (a ≠ 0) && decide (b ≠ 0)) else if op = 20 then yM (decide (a ≠ 0) || decide (b ≠ 0)) else if op = 21 then min a b else max a b
def jy (vals : List Int) (op n : Int) (ks : List Int) : Int :=
 if op = 0 then n else if op = 24 then lki vals n.toNat else if op = 6 then -(lki ks 0) else if op = 7 then yM (decide (lki ks 0 = 0))
 else if op = 23 then (if lki ks 0 ≠ 0 then lki ks 1 else lki ks 2)
 else if op = 25 then lki ks (1 + xQ (lki ks 0) 0 ((ks.length : Int) - 2)).toNat
 else qB op (lki ks 0) (lki ks 1)
mutual
def xS (vals : List Int) : Tm -> Int
 | .mk op n ks => jy vals op n (zg5 vals ks)
def zg5 (vals : List Int) : List Tm -> List Int
 | [] => []
 | k :: r => xS vals k :: zg5 vals r
end
theorem zev (vals : List Int) (t : Tm) : xS vals t = jy vals t.op t.n (zg5 vals t.kids) := by cases t; rw [xS]; rfl
theorem zd5 (vals : List Int) (l : List Tm) : zg5 vals l = l.map (xS vals) := by
 induction l with
 | nil => rfl
 | cons x r ih => rw [zg5, ih]; rfl
theorem zd6 (vals : List Int) (l : List Tm) : (zg5 vals l).length = l.length := by rw [zd5, znx]
theorem zd7 {vals : List Int} {l : List Tm} {i : Nat} {k : Tm} (h : l[i]? = some k) : lki (zg5 vals l) i = xS vals k := by
 apply zgU; rw [zd5, znu, h]; rfl
structure InV (vs : List Vr) (vals : List Int) : Prop where
 len : vals.length = vs.length
 at_ : ∀ (i : Nat) (v : Vr), vs[i]? = some v -> v.low <= lki vals i /\ lki vals i <= v.high
theorem zg6 (a b : Int) (ha : -1048576 <= a /\ a <= 1048576) : (0 <= a -> -a <= a.fdiv b /\ a.fdiv b <= a) /\ (a <= 0 -> a <= a.fdiv b /\ a.fdiv b <= -a) /\ (0 <= a -> 0 <= b -> 0 <= a.fdiv b) := by
 rcases Int.lt_trichotomy b 0 with hb | hb | hb
 ·
  have h1 : a.fdiv b = (-a).ediv (-b) := by
   rw [<- Int.neg_fdiv_neg, Int.fdiv_eq_ediv_of_nonneg _ (by omega)]; rfl
  rw [h1]
  have h2 := Int.mul_ediv_add_emod (-a) (-b)
  have h3 := Int.emod_nonneg (-a) (show -b ≠ 0 by omega)
  have h4 := Int.emod_lt_of_pos (-a) (show 0 < -b by omega)
  change -b * ((-a).ediv (-b)) + (-a).emod (-b) = -a at h2
  change 0 <= (-a).emod (-b) at h3
  change (-a).emod (-b) < -b at h4
  generalize (-a).ediv (-b) = q at *
  generalize (-a).emod (-b) = r at *
  obtain ⟨c, rfl⟩ : ∃ c, b = -c := ⟨-b, by omega⟩
  simp only [Int.neg_neg] at *
  have hc : 0 < c := by omega
  refine ⟨fun h => ⟨?_, ?_⟩, fun h => ⟨?_, ?_⟩, fun h h' => by omega⟩
  ·
   rcases Int.lt_or_le q (-a) with h5 | h5
   ·
    have : c * q <= c * (-a - 1) := Int.mul_le_mul_of_nonneg_left (by omega) (by omega)
    have : c * (-a - 1) <= 1 * (-a - 1) := Int.mul_le_mul_of_nonpos_right (by omega) (by omega)
    have e : c * (-a - 1) = c * (-a) - c := by rw [Int.mul_sub, Int.mul_one]
    have : c * (-a) <= 1 * (-a) := Int.mul_le_mul_of_nonpos_right (by omega) (by omega)
    omega
   . exact h5
  ·
   rcases Int.lt_or_le 0 q with h5 | h5
   ·
    have : c * 1 <= c * q := Int.mul_le_mul_of_nonneg_left (by omega) (by omega)
    omega
   . omega
  ·
   rcases Int.lt_or_le q 0 with h5 | h5
   ·
    have : c * q <= c * (-1) := Int.mul_le_mul_of_nonneg_left (by omega) (by omega)
    omega
   . omega
  ·
   rcases Int.lt_or_le (-a) q with h5 | h5
   ·
    have : c * (-a + 1) <= c * q := Int.mul_le_mul_of_nonneg_left (by omega) (by omega)
    have : 1 * (-a + 1) <= c * (-a + 1) := Int.mul_le_mul_of_nonneg_right (by omega) (by omega)
    omega
   . exact h5
 ·
  subst hb
  simp only [Int.fdiv_zero]
  omega
 ·
  have h1 : a.fdiv b = a.ediv b := Int.fdiv_eq_ediv_of_nonneg _ (by omega)
  rw [h1]
  have h2 := Int.mul_ediv_add_emod a b
  have h3 := Int.emod_nonneg a (show b ≠ 0 by omega)
  have h4 := Int.emod_lt_of_pos a hb
  change b * (a.ediv b) + a.emod b = a at h2
  change 0 <= a.emod b at h3
  change a.emod b < b at h4
  generalize a.ediv b = q at *
  generalize a.emod b = r at *
  have hq : 0 <= a -> 0 <= q := fun h => by
   rcases Int.lt_or_le q 0 with h5 | h5
   ·
    have : b * q <= b * (-1) := Int.mul_le_mul_of_nonneg_left (by omega) (by omega)
    omega
   . exact h5
  refine ⟨fun h => ⟨by have := hq h; omega, ?_⟩, fun h => ⟨?_, ?_⟩, fun h _ => hq h⟩
  ·
   rcases Int.lt_or_le a q with h5 | h5
   ·
    have : b * (a + 1) <= b * q := Int.mul_le_mul_of_nonneg_left (by omega) (by omega)
    have : 1 * (a + 1) <= b * (a + 1) := Int.mul_le_mul_of_nonneg_right (by omega) (by omega)
    omega
   . exact h5
  ·
   rcases Int.lt_or_le q a with h5 | h5
   ·
    have : b * q <= b * (a - 1) := Int.mul_le_mul_of_nonneg_left (by omega) (by omega)
    have : b * (a - 1) <= 1 * (a - 1) := Int.mul_le_mul_of_nonpos_right (by omega) (by omega)
    have e : b * (a - 1) = b * a - b := by rw [Int.mul_sub, Int.mul_one]
    have : b * a <= 1 * a := Int.mul_le_mul_of_nonpos_right (by omega) (by omega)
    omega
   . exact h5
  ·
   rcases Int.lt_or_le 0 q with h5 | h5
   ·
    have : b * 1 <= b * q := Int.mul_le_mul_of_nonneg_left (by omega) (by omega)
    omega
   . omega
theorem zat (a b : Int) : (b < 0 -> b < a - b * a.fdiv b /\ a - b * a.fdiv b <= 0) /\ (0 < b -> 0 <= a - b * a.fdiv b /\ a - b * a.fdiv b < b) := by
 have h2 := Int.mul_fdiv_add_fmod a b
 refine ⟨fun hb => ?_, fun hb => ?_⟩
 ·
  have h3 : a.fmod b = -((-a).emod (-b)) := by
   have := Int.neg_fmod_neg (-a) (-b)
   simp only [Int.neg_neg] at this
   rw [this, Int.fmod_eq_emod_of_nonneg _ (by omega)]; rfl
  have h4 := Int.emod_nonneg (-a) (show -b ≠ 0 by omega)
  have h5 := Int.emod_lt_of_pos (-a) (show 0 < -b by omega)
  change 0 <= (-a).emod (-b) at h4
  change (-a).emod (-b) < -b at h5
  omega
 ·
  have h3 : a.fmod b = a.emod b := Int.fmod_eq_emod_of_nonneg _ (by omega)
  have h4 := Int.emod_nonneg a (show b ≠ 0 by omega)
  have h5 := Int.emod_lt_of_pos a hb
  change 0 <= a.emod b at h4
  change a.emod b < b at h5
  omega
theorem zew {x y a b c d : Int} (hx : a <= x /\ x <= b) (hy : c <= y /\ y <= d) : min (min (a * c) (a * d)) (min (b * c) (b * d)) <= x * y /\ x * y <= max (max (a * c) (a * d)) (max (b * c) (b * d)) := by
 have key : ∀ (u v p q : Int), p <= v -> v <= q -> min (u * p) (u * q) <= u * v /\ u * v <= max (u * p) (u * q) := by
  intro u v p q h1 h2
  rcases Int.le_total 0 u with hu | hu
  ·
   have := Int.mul_le_mul_of_nonneg_left h1 hu
   have := Int.mul_le_mul_of_nonneg_left h2 hu
   omega
  ·
   have := Int.mul_le_mul_of_nonpos_left (a := u) hu h1
   have := Int.mul_le_mul_of_nonpos_left (a := u) hu h2
   omega
 have h1 := key y x a b hx.1 hx.2
 have h2 := key a y c d hy.1 hy.2
 have h3 := key b y c d hy.1 hy.2
 rw [Int.mul_comm y a, Int.mul_comm y b, Int.mul_comm y x] at h1
 omega
theorem zbP (x : Rg) : ∀ l : List Rg, ((yG x l).1 <= x.1 /\ x.2 <= (yG x l).2) /\ ∀ r ∈ l, (yG x l).1 <= r.1 /\ r.2 <= (yG x l).2 := by
 intro l
 induction l generalizing x with
 | nil => simp [yG]
 | cons y r ih =>
  have h := ih (min x.1 y.1, max x.2 y.2)
  rw [show yG x (y :: r) = yG (min x.1 y.1, max x.2 y.2) r from rfl]
  refine ⟨by have := h.1; dsimp only at this; omega, fun z hz => ?_⟩
  rcases znt.1 hz with rfl | hz
  . have := h.1; dsimp only at this; omega
  . exact h.2 z hz
theorem zex {op a b : Int} (h1 : op ≠ 8) (h2 : op ≠ 9) (h3 : op ≠ 10) (h4 : op ≠ 11) (h5 : op ≠ 12) (h6 : op ≠ 21) (h7 : op <= 20) (h8 : 8 <= op) : qB op a b = 0 \/ qB op a b = 1 := by
 have hf : ∀ b, yM b = 0 \/ yM b = 1 := fun b => by cases b <;> simp [yM]
 unfold qB
 rw [znn h1, znn h2, znn h3, znn h4, znn h5]
 (repeat' split); all_goals first | exact hf _ | omega
theorem qe (n : Int) {lo hi : Int} (h : lo <= hi) : lo <= xQ n lo hi /\ xQ n lo hi <= hi := by
 unfold xQ
 (repeat' split); all_goals omega
theorem zg7 {vs : List Vr} {vals : List Int} {op n : Int} {ks : List Int} {l : List Rg} (hV : InV vs vals) (hn : NodeOk vs op n l) (hlen : ks.length = l.length) (h23 : op = 23 -> l.length = 3) (hop : op = 0 \/ op = 24 \/ op = 6 \/ op = 7 \/ 8 <= op /\ op <= 22 \/ op = 23 \/ op = 25)
  (hk : ∀ i, i < l.length -> (at2 l i).1 <= lki ks i /\ lki ks i <= (at2 l i).2) : (zp vs op n l).1 <= jy vals op n ks /\ jy vals op n ks <= (zp vs op n l).2 := by
 have hg : ∀ i, i < l.length -> ym (at2 l i) := fun i hi => hn.good _ (zem hi)
 have hf : ∀ b, 0 <= yM b /\ yM b <= 1 := fun b => by cases b <;> simp [yM]
 unfold ym at hg
 unfold zp jy
 by_cases c0 : op = 0
 . rw [zno c0, zno c0]; exact ⟨Int.le_refl _, Int.le_refl _⟩
 rw [znn c0, znn c0]
 by_cases c24 : op = 24
 ·
  rw [zno c24, zno c24]
  have h1 := hn.var c24
  obtain ⟨v, hv⟩ : ∃ v, vs[n.toNat]? = some v := ⟨_, znd (by omega)⟩
  rw [zgS hv]
  exact hV.at_ _ _ hv
 rw [znn c24, znn c24]
 by_cases c6 : op = 6
 ·
  have := hn.k1 (.inl c6); have := hk 0 (by omega)
  rw [zno c6, zno c6]; dsimp only; omega
 rw [znn c6, znn c6]
 by_cases c7 : op = 7
 ·
  rw [zno c7]
  repeat rw [znn (by omega)]
  exact hf _
 rw [znn c7]
 by_cases c23 : op = 23
 ·
  have h3 := hn.k3 (.inl c23)
  rw [zno c23]
  repeat rw [znn (show ¬ op = _ by omega)]
  rw [zno (.inl c23)]
  have hm := zbP (at2 l 1) (l.drop 2)
  split
  . have := hk 1 (by omega); omega
  ·
   have h2 : 2 < l.length := by have := h23 c23; omega
   have := hk 2 (by omega)
   have := hm.2 (at2 l 2) (by
    unfold at2
    rw [znd h2]
    exact List.mem_iff_getElem?.2 ⟨0, by rw [List.getElem?_drop]; exact znd h2⟩)
   omega
 rw [znn c23]
 by_cases c25 : op = 25
 ·
  have h3 := hn.k3 (.inr c25)
  rw [zno c25]
  repeat rw [znn (show ¬ op = _ by omega)]
  rw [zno (.inr c25)]
  have hm := zbP (at2 l 1) (l.drop 2)
  have hcl := qe (lki ks 0) (show (0 : Int) <= (ks.length : Int) - 2 by omega)
  obtain ⟨j, hj⟩ : ∃ j : Nat, xQ (lki ks 0) 0 ((ks.length : Int) - 2) = j := Int.eq_ofNat_of_zero_le hcl.1
  have hj2 : j + 2 <= l.length := by omega
  rw [hj, show (1 + (j : Int)).toNat = j + 1 by omega]
  have := hk (j + 1) (by omega)
  by_cases h2 : j = 0
  . subst h2; have := hm.1; rw [Nat.zero_add] at *; omega
  ·
   have := hm.2 (at2 l (j + 1)) (by
    unfold at2
    rw [znd (show j + 1 < l.length by omega)]
    exact List.mem_iff_getElem?.2 ⟨j - 1, by rw [List.getElem?_drop, show 2 + (j - 1) = j + 1 by omega]; exact znd (by omega)⟩)
   omega
 rw [znn c25]
 have hb : 8 <= op /\ op <= 22 := by omega
 have hl2 := hn.k2 hb
 have h0 := hk 0 (by omega)
 have h1 := hk 1 (by omega)
 have g0 := hg 0 (by omega)
 have g1 := hg 1 (by omega)
 generalize lki ks 0 = x at *
 generalize lki ks 1 = y at *
 generalize at2 l 0 = r0 at *
 generalize at2 l 1 = r1 at *
 by_cases c8 : op = 8
 . rw [zno c8, qB, zno c8]; dsimp only; omega
 rw [znn c8]
 by_cases c9 : op = 9
 . rw [zno c9, qB, znn c8, zno c9]; dsimp only; omega
 rw [znn c9]
 by_cases c10 : op = 10
 ·
  rw [zno c10, qB, znn c8, znn c9, zno c10]
  have := zew h0 h1
  unfold xB yG
  simp only [List.foldl_cons, List.foldl_nil]
  omega
 rw [znn c10]
 by_cases c11 : op = 11
 ·
  rw [zno c11, qB, znn c8, znn c9, znn c10, zno c11]
  have := zg6 x y (by omega)
  dsimp only
  split <;> omega
 rw [znn c11]
 by_cases c12 : op = 12
 ·
  rw [zno c12, qB, znn c8, znn c9, znn c10, znn c11, zno c12]
  have := zat x y
  dsimp only
  generalize x - y * x.fdiv y = m at *
  split <;> split <;> split <;> omega
 rw [znn c12]
 by_cases c21 : op = 21
 ·
  rw [zno c21]
  have e : qB op x y = min x y := by
   unfold qB
   repeat rw [znn (show ¬ op = _ by omega)]
   rw [zno c21]
  rw [e]; dsimp only; omega
 rw [znn c21]
 by_cases c22 : op = 22
 ·
  rw [zno c22]
  have e : qB op x y = max x y := by
   unfold qB
   repeat rw [znn (show ¬ op = _ by omega)]
  rw [e]; dsimp only; omega
 rw [znn c22, znn (by omega)]
 have := zex (a := x) (b := y) c8 c9 c10 c11 c12 c21 (by omega) (by omega)
 dsimp only; omega
theorem zey {vs : List Vr} {inp : Bool} (hv : ∀ v ∈ vs, ym (v.low, v.high)) {vals : List Int} (hV : InV vs vals) (t : Tm) : zw vs inp t = true -> ∀ r, rng vs t = some r -> r.1 <= xS vals t /\ xS vals t <= r.2 := by
 induction t using zkV with
 | h t ih =>
  intro hf r hr
  rw [yT, Bool.and_eq_true, Bool.and_eq_true] at hf
  rw [zbH, Option.bind_eq_some_iff] at hr
  obtain ⟨l, h1, h2⟩ := hr
  have hlen := qo _ _ h1
  have hn : NodeOk vs t.op t.n l := qY hlen hf.1.1 hf.1.2 (fun x hx => by
   obtain ⟨k, hk, hkx⟩ := qZ _ _ h1 x hx
   exact ja hv k (zR hf.2 hk) x hkx) hv
  have hfit := hf.1.1
  have zi : ∀ (ks : List Tm) (m : List Rg), jr vs ks = some m -> ∀ (i : Nat) k, ks[i]? = some k -> rng vs k = some (at2 m i) := by
   intro ks
   induction ks with
   | nil => intro m _ i k h; simp at h
   | cons y ys ihy =>
    intro m hm i k hk
    simp only [jr, Option.bind_eq_some_iff, Option.map_eq_some_iff] at hm
    obtain ⟨z, g1, u, g2, rfl⟩ := hm
    cases i with
    | zero => simp at hk; subst hk; simpa [at2] using g1
    | succ i => simp at hk; have := ihy u g2 i k hk; simpa [at2] using this
  have H := zg7 (n := t.n) (op := t.op) (ks := zg5 vals t.kids) (l := l) hV hn (by rw [zd6, hlen]) (fun h => by
    unfold yu at hfit
    rw [show zr t.op = 3 by unfold zr; rw [h]; rfl] at hfit
    simp at hfit; omega) (by
    by_cases h : 0 <= zr t.op \/ zr t.op = -2
    ·
     unfold zr at h
     repeat' split at h
     all_goals omega
    ·
     exfalso
     have := jq t.op
     rw [yv (.inl (by omega))] at hfit
     cases hfit) (fun i hi => by
    obtain ⟨k, hk⟩ : ∃ k, t.kids[i]? = some k := ⟨_, znd (by omega)⟩
    rw [zd7 hk]
    exact ih k (zne hk) (zR hf.2 (zne hk)) _ (zi _ _ h1 i k hk))
  rw [zev]
  split at h2
  . cases h2; exact H
  . cases h2
end Go.Proofs.YtaenledoagbddaaGreatDoor
namespace Go.GL
section
variable {P : Program} {env : Env} {w : World} {dst : Option Tmp} {ty : TypeId} {pos : String} {aft : Array Edge} {g : Option (Nat × Bool)} {t t' : TypeId} {x y : Operand} {m j : Int}
theorem R.quo (hx : ev env x = some (.int .i64 m)) (hy : ev env y = some (.int .i64 j)) (hj : j ≠ 0) (hr : -9223372036854775808 < m /\ m <= 9223372036854775807) : zI P ⟨dst, .binOp .quo t x y t', ty, pos, aft, g⟩ env w (.int .i64 (m.tdiv j)) w := by
 intro n a ha
 have h1 : (m.tdiv j).natAbs <= m.natAbs := Int.natAbs_tdiv_le_natAbs m j
 have h2 : IntKind.i64.wrap (m.tdiv j) = m.tdiv j := yX (by omega)
 simp [execOp, ha.eval hx, ha.eval hy, eqGuard_quo, binOp_quo, Op.intDiv, hj, h2]
theorem R.rem (hx : ev env x = some (.int .i64 m)) (hy : ev env y = some (.int .i64 j)) (hj : j ≠ 0) (_ : -9223372036854775808 < m /\ m <= 9223372036854775807) : zI P ⟨dst, .binOp .rem t x y t', ty, pos, aft, g⟩ env w (.int .i64 (m.tmod j)) w := by
 intro n a ha
 simp [execOp, ha.eval hx, ha.eval hy, eqGuard_rem, binOp_rem, Op.intDiv, hj]
end
theorem zez (a b : Int) (hb : b ≠ 0) : a.fdiv b = if a.tmod b ≠ 0 /\ (decide (a < 0) ≠ decide (b < 0)) then a.tdiv b - 1 else a.tdiv b := by
 rw [Int.fdiv_eq_tdiv]
 have hd : b ∣ a ↔ a.tmod b = 0 := ⟨Int.tmod_eq_zero_of_dvd, Int.dvd_of_tmod_eq_zero⟩
 by_cases h : b ∣ a
 . rw [zno h, znn (fun h2 => h2.1 (hd.1 h))]; omega
 ·
  have hm : a.tmod b ≠ 0 := fun h2 => h (hd.2 h2)
  rw [znn h]
  by_cases ha : 0 <= a
  ·
   rw [zno ha]
   by_cases hb2 : 0 <= b
   . rw [zno hb2, znn (fun h2 => h2.2 (by rw [znq (by omega), znq (by omega)]))]; omega
   . rw [znn hb2, zno ⟨hm, by rw [znq (by omega), znp (by omega)]; decide⟩]
  ·
   rw [znn ha]
   by_cases hb2 : 0 <= b
   . rw [zno hb2, zno ⟨hm, by rw [znp (by omega), znq (by omega)]; decide⟩, Int.sign_eq_one_of_pos (by omega)]
   . rw [znn hb2, znn (fun h2 => h2.2 (by rw [znp (by omega), znp (by omega)])), Int.sign_eq_neg_one_of_neg (by omega)]; omega
end Go.GL
namespace Go.Proofs.YtaenledoagbddaaGreatDoor
open Go.GL
abbrev zfC (a : Int) : Prop := -1048576 <= a /\ a <= 1048576
theorem je (a b : Int) (w : World) (ha : zfC a) (hb : zfC b) : Calls Tryz.prog 223 #[.int .i64 a, .int .i64 b] w (Ret fun r w' => r = .int .i64 (a.fdiv b) /\ Ext w w') := by
 have hE := Keep.refl (fun _ => False) w
 refine zlu Tryz.func223 O Tryz.ntmps223 O (Gs 12 O (zjm O (fun h0 => ?_) (fun h0 => ?_)))
 ·
  subst h0
  refine Gs 7 O (zjG tr223 O ⟨_, rfl, by rw [Int.fdiv_zero], hE⟩)
 ·
  have hd := zez a b h0
  have hq : (a.tdiv b).natAbs <= a.natAbs := Int.natAbs_tdiv_le_natAbs a b
  refine Gs 6 O (zlk O O (R.quo O O h0 (by omega)) (Gs 8 O (zlk O O (R.rem O O h0 (by omega)) (Gs 2 O (zlf 15 O (fun h1 => ?_) (fun h1 => ?_))))))
  ·
   refine Gs 8 O (zjm O (fun h2 => ?_) (fun h2 => ?_))
   . refine Ga 13 O (by omega) (zjG tr223 O ⟨_, rfl, by rw [hd, zno ⟨h1, h2⟩], hE⟩)
   . refine Gs 9 O (zjG tr223 O ⟨_, rfl, by rw [hd, znn (fun h => h2 h.2)], hE⟩)
  . refine Gs 18 O (zjG tr223 O ⟨_, rfl, by rw [hd, znn (fun h => h1 h.1)], hE⟩)
theorem zdF (a b : Int) (hb : b ≠ 0) : -(a.natAbs : Int) - b.natAbs <= b * a.fdiv b /\ b * a.fdiv b <= (a.natAbs : Int) + b.natAbs := by
 have h := zat a b
 generalize b * a.fdiv b = q at *
 omega
theorem zaX (a b : Int) (w : World) (ha : zfC a) (hb : zfC b) : Calls Tryz.prog 224 #[.int .i64 a, .int .i64 b] w (Ret fun r w' => r = .int .i64 (if b = 0 then 0 else a - b * a.fdiv b) /\ Ext w w') := by
 have hE := Keep.refl (fun _ => False) w
 refine zlu Tryz.func224 O Tryz.ntmps224 O (Gs 12 O (zjm O (fun h0 => ?_) (fun h0 => ?_)))
 . refine Gs 7 O (zjG Tryz.results224 O ⟨_, rfl, by rw [zno h0], hE⟩)
 ·
  have hm := zdF a b h0
  refine Gs 8 O (G.call O Tryz.call223 (je a b _ ha hb) ?_)
  rintro _ wz1 ⟨rfl, hz1⟩
  replace hE := Tr1 hz1 hE
  refine Ga 6 O (by omega) (zjG Tryz.results224 O ⟨_, rfl, by rw [znn h0], hE⟩)
theorem zaY (op a b : Int) (w : World) (ha : zfC a) (hb : zfC b) : Calls Tryz.prog 206 #[.int .i64 op, .int .i64 a, .int .i64 b] w (Ret fun r w' => r = .int .i64 (qB op a b) /\ Ext w w') := by
 have hE := Keep.refl (fun _ => False) w
 have hml := zei ha hb
 refine zlv Tryz.func206 O Tryz.ntmps206 O (Gs 18 O (zjm O (fun hh1 => ?_) (fun hh1 => ?_)))
 . refine Ga 11 O (by omega) (zjG tr206 O ⟨_, rfl, by simp [qB, hh1], hE⟩)
 ·
  refine Gs 6 O (zjm O (fun hh2 => ?_) (fun hh2 => ?_))
  . refine Ga 11 O (by omega) (zjG tr206 O ⟨_, rfl, by simp [qB, hh2], hE⟩)
  ·
   refine Gs 6 O (zjm O (fun hh3 => ?_) (fun hh3 => ?_))
   . refine Ga 11 O (by omega) (zjG tr206 O ⟨_, rfl, by simp [qB, hh3], hE⟩)
   ·
    refine Gs 6 O (zjm O (fun hh4 => ?_) (fun hh4 => ?_))
    ·
     refine Gs 4 O (G.call O Tryz.call223 (je a b _ ha hb) ?_)
     rintro _ wz5 ⟨rfl, hz5⟩
     replace hE := Tr1 hz5 hE
     refine Gs 6 O (zjG tr206 O ⟨_, rfl, by simp [qB, hh4], hE⟩)
    ·
     refine Gs 6 O (zjm O (fun hh6 => ?_) (fun hh6 => ?_))
     ·
      refine Gs 4 O (G.call O Tryz.call224 (zaX a b _ ha hb) ?_)
      rintro _ wz7 ⟨rfl, hz7⟩
      replace hE := Tr1 hz7 hE
      refine Gs 6 O (zjG tr206 O ⟨_, rfl, by simp [qB, hh6], hE⟩)
     ·
      refine Gs 6 O (zjm O (fun hh8 => ?_) (fun hh8 => ?_))
      ·
       refine Gs 5 O (G.call O tc205 (zB _ _) ?_)
       rintro _ wz9 ⟨rfl, hz9⟩
       replace hE := Tr1 hz9 hE
       refine Gs 6 O (zjG tr206 O ⟨_, rfl, by simp [qB, yM, hh8], hE⟩)
      ·
       refine Gs 6 O (zjm O (fun hh10 => ?_) (fun hh10 => ?_))
       ·
        refine Gs 5 O (G.call O tc205 (zB _ _) ?_)
        rintro _ wz11 ⟨rfl, hz11⟩
        replace hE := Tr1 hz11 hE
        refine Gs 6 O (zjG tr206 O ⟨_, rfl, by simp [qB, yM, hh10], hE⟩)
       ·
        refine Gs 6 O (zjm O (fun hh12 => ?_) (fun hh12 => ?_))
        ·
         refine Gs 5 O (G.call O tc205 (zB _ _) ?_)
         rintro _ wz13 ⟨rfl, hz13⟩
         replace hE := Tr1 hz13 hE
         refine Gs 6 O (zjG tr206 O ⟨_, rfl, by simp [qB, yM, hh12], hE⟩)
        ·
         refine Gs 6 O (zjm O (fun hh14 => ?_) (fun hh14 => ?_))
         ·
          refine Gs 5 O (G.call O tc205 (zB _ _) ?_)
          rintro _ wz15 ⟨rfl, hz15⟩
          replace hE := Tr1 hz15 hE
          refine Gs 6 O (zjG tr206 O ⟨_, rfl, by simp [qB, yM, hh14], hE⟩)
         ·
          refine Gs 6 O (zjm O (fun hh16 => ?_) (fun hh16 => ?_))
          ·
           refine Gs 5 O (G.call O tc205 (zB _ _) ?_)
           rintro _ wz17 ⟨rfl, hz17⟩
           replace hE := Tr1 hz17 hE
           refine Gs 6 O (zjG tr206 O ⟨_, rfl, by simp [qB, yM, hh16], hE⟩)
          ·
           refine Gs 6 O (zjm O (fun hh18 => ?_) (fun hh18 => ?_))
           ·
            refine Gs 5 O (G.call O tc205 (zB _ _) ?_)
            rintro _ wz19 ⟨rfl, hz19⟩
            replace hE := Tr1 hz19 hE
            refine Gs 6 O (zjG tr206 O ⟨_, rfl, by simp [qB, yM, hh18], hE⟩)
           ·
            refine Gs 6 O (zjm O (fun hh20 => ?_) (fun hh20 => ?_))
            ·
             refine Gs 5 O (zlf 73 O (fun hh21 => ?_) (fun hh21 => ?_))
             ·
              refine Gs 3 O (G.call O tc205 (zB _ _) ?_)
              rintro _ wz22 ⟨rfl, hz22⟩
              replace hE := Tr1 hz22 hE
              refine Gs 6 O (zjG tr206 O ⟨_, rfl, by simp [qB, yM, hh20, hh21], hE⟩)
             ·
              refine Gs 3 O (G.call O tc205 (zB _ _) ?_)
              rintro _ wz23 ⟨rfl, hz23⟩
              replace hE := Tr1 hz23 hE
              refine Gs 6 O (zjG tr206 O ⟨_, rfl, by simp [qB, yM, hh20, hh21], hE⟩)
            ·
             refine Gs 6 O (zjm O (fun hh24 => ?_) (fun hh24 => ?_))
             ·
              refine Gs 5 O (zlf 82 O (fun hh25 => ?_) (fun hh25 => ?_))
              ·
               refine Gs 3 O (G.call O tc205 (zB _ _) ?_)
               rintro _ wz26 ⟨rfl, hz26⟩
               replace hE := Tr1 hz26 hE
               refine Gs 6 O (zjG tr206 O ⟨_, rfl, by simp [qB, yM, hh24, hh25], hE⟩)
              ·
               refine Gs 3 O (G.call O tc205 (zB _ _) ?_)
               rintro _ wz27 ⟨rfl, hz27⟩
               replace hE := Tr1 hz27 hE
               refine Gs 6 O (zjG tr206 O ⟨_, rfl, by simp [qB, yM, hh24, hh25], hE⟩)
             ·
              refine Gs 6 O (zjm O (fun hh28 => ?_) (fun hh28 => ?_))
              . refine Gs 11 O (zjG tr206 O ⟨_, rfl, by simp [qB, hh28], hE⟩)
              . refine Gs 12 O (zjG tr206 O ⟨_, rfl, by simp [qB, hh1, hh2, hh3, hh4, hh6, hh8, hh10, hh12, hh14, hh16, hh18, hh20, hh24, hh28], hE⟩)
structure TmOk (vs : List Vr) (vals : List Int) (t : Tm) : Prop where
 ops : t.op = 0 \/ t.op = 24 \/ t.op = 6 \/ t.op = 7 \/ 8 <= t.op /\ t.op <= 22 \/ t.op = 23 \/ t.op = 25
 k1 : t.op = 6 \/ t.op = 7 -> t.kids.length = 1
 k2 : 8 <= t.op /\ t.op <= 22 -> t.kids.length = 2
 k3 : t.op = 23 -> t.kids.length = 3
 k25 : t.op = 25 -> 2 <= t.kids.length /\ t.kids.length <= 33
 var : t.op = 24 -> 0 <= t.n /\ t.n < vs.length
 self : zfC (xS vals t)
 kid : ∀ k ∈ t.kids, zfC (xS vals k)
theorem tmOk {vs : List Vr} {inp : Bool} (hv : ∀ v ∈ vs, ym (v.low, v.high)) {vals : List Int} (hV : InV vs vals) {t : Tm} (hf : zw vs inp t = true) (hr : (rng vs t).isSome = true) : TmOk vs vals t /\ ∀ k ∈ t.kids, zw vs inp k = true /\ (rng vs k).isSome = true := by
 obtain ⟨r, hr⟩ := Option.isSome_iff_exists.1 hr
 have hin : ∀ k, zw vs inp k = true -> ∀ r, rng vs k = some r -> zfC (xS vals k) := fun k h1 r h2 => by
  have h3 := zey hv hV k h1 r h2
  have h4 := ja hv k h1 r h2
  unfold ym at h4
  exact ⟨by omega, by omega⟩
 have hself := hin t hf r hr
 rw [yT, Bool.and_eq_true, Bool.and_eq_true] at hf
 rw [zbH, Option.bind_eq_some_iff] at hr
 obtain ⟨l, h1, h2⟩ := hr
 have hlen := qo _ _ h1
 have hgr : ∀ (ks : List Tm) (m : List Rg), jr vs ks = some m -> ∀ k ∈ ks, (rng vs k).isSome = true := by
  intro ks
  induction ks with
  | nil => intro m _ k h; simp at h
  | cons y ys ihy =>
   intro m hm k hk
   simp only [jr, Option.bind_eq_some_iff, Option.map_eq_some_iff] at hm
   obtain ⟨z, g1, u, g2, rfl⟩ := hm
   rcases znt.1 hk with rfl | hk
   . rw [g1]; rfl
   . exact ihy u g2 k hk
 have hkid : ∀ k ∈ t.kids, zw vs inp k = true /\ (rng vs k).isSome = true := fun k hk => ⟨zR hf.2 hk, hgr _ _ h1 k hk⟩
 have hn : NodeOk vs t.op t.n l := qY hlen hf.1.1 hf.1.2 (fun x hx => by
  obtain ⟨k, hk, hkx⟩ := qZ _ _ h1 x hx
  exact ja hv k (zR hf.2 hk) x hkx) hv
 refine ⟨⟨?_, fun h => by rw [<- hlen]; exact hn.k1 h, fun h => by rw [<- hlen]; exact hn.k2 h, fun h => ?_, fun h => by rw [<- hlen]; exact hn.k3 (.inr h), hn.var, hself, fun k hk => ?_⟩, hkid⟩
 ·
  by_cases h : 0 <= zr t.op \/ zr t.op = -2
  ·
   unfold zr at h
   repeat' split at h
   all_goals omega
  ·
   exfalso
   have := jq t.op
   have h3 := hf.1.1
   rw [yv (.inl (by omega))] at h3
   cases h3
 ·
  have h3 := hf.1.1
  unfold yu at h3
  rw [show zr t.op = 3 by unfold zr; rw [h]; rfl] at h3
  simp at h3; omega
 ·
  obtain ⟨h3, h4⟩ := hkid k hk
  obtain ⟨r', h5⟩ := Option.isSome_iff_exists.1 h4
  exact hin k h3 r' h5
def zhr (vals : List Int) (k : Tm) : Prop := ∀ (cs : List Value) (D Dv : Nat -> Prop) (w : World) (vv : Value), SlR 1 zt Dv w vv vals -> RTm D w k cs -> Calls Tryz.prog 153 #[vv, .agg cs.toArray] w (Ret fun r w' => r = .int .i64 (xS vals k) /\ Ext w w')
theorem zih (vals : List Int) (t : Tm) (i : Nat) (k : Tm) (hk : t.kids[i]? = some k) (b2 b3 : Nat) (vv kv : Value) (D Dv : Nat -> Prop) (w : World) (hB2 : Blk w b2 [vv] 27) (hB3 : Blk w b3 [.int .i64 t.op, .int .i64 t.n, kv] 86) (hks : SlR 3 RTm D w kv t.kids) (hvv : SlR 1 zt Dv w vv vals) (ih : zhr vals k) :
  Calls Tryz.prog 204 #[.int .i64 i, .pointer (some ⟨b2, 0, none⟩), .pointer (some ⟨b3, 0, none⟩)] w (Ret fun r w' => r = .int .i64 (xS vals k) /\ Ext w w') := by
 have hE := Keep.refl (fun _ => False) w
 have hi := (znr.1 hk).1
 obtain ⟨a3, c3, rfl⟩ := hks.form
 obtain ⟨bk, ok, ck, hak, _, hck, hRk⟩ := hks.at hk
 obtain ⟨kv', rfl, hkk⟩ := hRk.get
 refine zlv Tryz.func204 O Tryz.ntmps204 O (Gs 6 O (Dw (fun q => Ext w q) [] (fun wd1 hD _ => ?_)))
 refine WD.take 0 O (by kernel_rfl) O O O hD (fun w1 hw1 => R.load tg27 O ((hw1.blk hB2 (fun h => h)).cells 0 _ O)) (Ds [1] (by kernel_rfl) O (WD.take 2 O (by kernel_rfl) O O O hD (fun w1 hw1 => R.load tg84 O ((hw1.blk hB3 (fun h => h)).cells 2 _ O)) (Ds [3] (by kernel_rfl) O (zkt 4 O (by kernel_rfl) O O O (fun w1 => zk5 tR84 ts86 O O hak (by omega)) (WD.take 5 O (by kernel_rfl) O O O hD (fun w1 hw1 => zk7 tg86 ts86 O (by rfl) (hw1.cells hck (fun h => h))) (WD.call 6 O (by kernel_rfl) O O O (F.call (vs := [_, _]) tc153 O) (ih _ D Dv _ _ (hvv.ext za hD) (RTm.put (hkk.ext zl hD))) ?_))))))
 rintro _ wz2 ⟨rfl, hz2⟩
 replace hD := hD.ext hz2
 refine ⟨fun _ => hD, ?_⟩
 refine Ds [7] (by kernel_rfl) O (zkq (by kernel_rfl) ?_ _)
 replace hE := Tr1 hD hE
 refine Gs 2 O (zjG Tryz.results204 O ⟨_, rfl, rfl, hE⟩)
theorem jf {vs : List Vr} {inp : Bool} (hv : ∀ v ∈ vs, ym (v.low, v.high)) {vals : List Int} (hV : InV vs vals) (t : Tm) : zw vs inp t = true -> (rng vs t).isSome = true -> zhr vals t := by
 induction t using zkV with
 | h t ih =>
 intro hf hr cs D Dv w vv hvv ht
 obtain ⟨ok, hkf⟩ := tmOk hv hV hf hr
 have ihk : ∀ k ∈ t.kids, zhr vals k := fun k hk => ih k hk (hkf k hk).1 (hkf k hk).2
 obtain ⟨kv, rfl, hks⟩ := ht.get
 obtain ⟨a3, c3, rfl⟩ := hks.form
 obtain ⟨av, cv, rfl⟩ := hvv.form
 have hve := zev vals t
 have hops := ok.ops
 have hE := Keep.refl (fun _ => False) w
 refine zlu Tryz.func153 O Tryz.ntmps153 O (Gs 2 O (G.mem O O (M.box O O) ?_))
 rintro _ w_b2 ⟨b2, rfl, hg_b2, hs_b2, hB_b2, hk_b2⟩
 have hge_b2 : _ <= b2 := znj hE.size (Nat.le_of_eq hg_b2.symm)
 obtain ⟨hE, hks, hvv⟩ := Tr3 hk_b2 hE hks hvv
 refine G.mem O O (M.box O O) ?_
 rintro _ w_b3 ⟨b3, rfl, hg_b3, hs_b3, hB_b3, hk_b3⟩
 have hn_b2_b3 : b2 ≠ b3 := by have := hB_b2.lt; omega
 have hge_b3 : _ <= b3 := znj hE.size (Nat.le_of_eq hg_b3.symm)
 obtain ⟨hE, hks, hvv, hB_b2⟩ := Tr4 hk_b3 hE hks hvv hB_b2
 refine Gs 13 O (zlo O tg83 (hB_b3.cells 0 _ O) (Gs 9 O ?_))
 have hkid : ∀ (i : Int) (j : Nat) (k : Tm), i = (j : Int) -> t.kids[j]? = some k -> ∀ w', Ext w_b3 w' -> Calls Tryz.prog 204 #[.int .i64 i, .pointer (some ⟨b2, 0, none⟩), .pointer (some ⟨b3, 0, none⟩)] w' (Ret fun r w'' => r = .int .i64 (xS vals k) /\ Ext w' w'') := fun i j k hij hk w' hw' => by
  subst hij
  exact zih vals t j k hk b2 b3 _ _ D Dv w' (hw'.blk hB_b2 (fun h => h)) (hw'.blk hB_b3 (fun h => h)) (hks.ext zl hw') (hvv.ext za hw') (ihk k (zne hk))
 have zi : ∀ i : Nat, i < t.kids.length -> ∃ k, t.kids[i]? = some k /\ lki (zg5 vals t.kids) i = xS vals k /\ zfC (xS vals k) := fun i hi => by
  obtain ⟨k, hk⟩ : ∃ k, t.kids[i]? = some k := ⟨_, znd hi⟩
  exact ⟨k, hk, zd7 hk, ok.kid k (zne hk)⟩
 have hX := Keep.refl (fun _ => False) w_b3
 refine zjm O (fun c0 => ?_) (fun c0 => ?_)
 . refine Gs 3 O (zlo O tg3 (hB_b3.cells 1 _ O) (Gs 6 O (zjG tr153 O ⟨_, rfl, by rw [hve, jy, zno c0], hE⟩)))
 ·
  refine Gs 6 O (zjm O (fun c24 => ?_) (fun c24 => ?_))
  ·
   have hn := ok.var c24
   have hln := hV.len
   obtain ⟨bx, ox, cx, hax, _, hcx, rfl⟩ := hvv.at (zgV (l := vals) (i := t.n.toNat) (by omega))
   refine Gs 2 O (zlo O tg27 (hB_b2.cells 0 _ O) (Gs 1 O (zlo O tg3 (hB_b3.cells 1 _ O) (zlk O O (zk5 tR27 ts3 O O hax (by omega)) (zlo O tg3 (hcx 0 _ O) (Gs 6 O (zjG tr153 O ⟨_, rfl, by rw [hve, jy, znn c0, zno c24], hE⟩)))))))
  ·
   refine Gs 6 O (zjm O (fun c6 => ?_) (fun c6 => ?_))
   ·
    have h1 := ok.k1 (.inl c6)
    obtain ⟨k0, hk0, hl0, hi0⟩ := zi 0 (by omega)
    refine Gs 3 O (zkb O tc204 (hkid 0 0 k0 O hk0 _ hX) ?_)
    rintro _ wz1 ⟨rfl, hz1⟩
    obtain ⟨hE, hks, hvv, hB_b2, hB_b3, hX⟩ := Tr6 hz1 hE hks hvv hB_b2 hB_b3 hX
    refine Ga 7 O (by omega) (zjG tr153 O ⟨_, rfl, by rw [hve, jy, znn c0, znn c24, zno c6, hl0], hE⟩)
   ·
    refine Gs 6 O (zjm O (fun c7 => ?_) (fun c7 => ?_))
    ·
     have h1 := ok.k1 (.inr c7)
     obtain ⟨k0, hk0, hl0, hi0⟩ := zi 0 (by omega)
     refine Gs 3 O (zkb O tc204 (hkid 0 0 k0 O hk0 _ hX) ?_)
     rintro _ wz2 ⟨rfl, hz2⟩
     obtain ⟨hE, hks, hvv, hB_b2, hB_b3, hX⟩ := Tr6 hz2 hE hks hvv hB_b2 hB_b3 hX
     refine Gs 1 O (G.call O tc205 (zB _ _) ?_)
     rintro _ wz3 ⟨rfl, hz3⟩
     obtain ⟨hE, hks, hvv, hB_b2, hB_b3, hX⟩ := Tr6 hz3 hE hks hvv hB_b2 hB_b3 hX
     refine Gs 6 O (zjG tr153 O ⟨_, rfl, by rw [hve, jy, znn c0, znn c24, znn c6, zno c7, hl0]; rfl, hE⟩)
    ·
     refine Gs 6 O (zjm O (fun c23 => ?_) (fun c23 => ?_))
     ·
      have h1 := ok.k3 c23
      obtain ⟨k0, hk0, hl0, hi0⟩ := zi 0 (by omega)
      obtain ⟨k1, hk1, hl1, hi1⟩ := zi 1 (by omega)
      obtain ⟨k2, hk2, hl2, hi2⟩ := zi 2 (by omega)
      refine Gs 4 O (zkb O tc204 (hkid 0 0 k0 O hk0 _ hX) ?_)
      rintro _ wz4 ⟨rfl, hz4⟩
      obtain ⟨hE, hks, hvv, hB_b2, hB_b3, hX⟩ := Tr6 hz4 hE hks hvv hB_b2 hB_b3 hX
      refine Gs 3 O (zjm O (fun z => ?_) (fun z => ?_))
      ·
       refine Gs 3 O (zkb O tc204 (hkid 1 1 k1 O hk1 _ hX) ?_)
       rintro _ wz5 ⟨rfl, hz5⟩
       obtain ⟨hE, hks, hvv, hB_b2, hB_b3, hX⟩ := Tr6 hz5 hE hks hvv hB_b2 hB_b3 hX
       refine Gs 7 O (zjG tr153 O ⟨_, rfl, by rw [hve, jy, znn c0, znn c24, znn c6, znn c7, zno c23, hl0, zno z, hl1], hE⟩)
      ·
       refine Gs 5 O (zkb O tc204 (hkid 2 2 k2 O hk2 _ hX) ?_)
       rintro _ wz6 ⟨rfl, hz6⟩
       obtain ⟨hE, hks, hvv, hB_b2, hB_b3, hX⟩ := Tr6 hz6 hE hks hvv hB_b2 hB_b3 hX
       refine Gs 6 O (zjG tr153 O ⟨_, rfl, by rw [hve, jy, znn c0, znn c24, znn c6, znn c7, zno c23, hl0, znn z, hl2], hE⟩)
     ·
      refine Gs 6 O (zjm O (fun c25 => ?_) (fun c25 => ?_))
      ·
       have h1 := ok.k25 c25
       obtain ⟨k0, hk0, hl0, hi0⟩ := zi 0 (by omega)
       have hcl := qe (xS vals k0) (show (0 : Int) <= (t.kids.length : Int) - 2 by omega)
       obtain ⟨kj, hkj, hlj, hij⟩ := zi (1 + xQ (xS vals k0) 0 ((t.kids.length : Int) - 2)).toNat (by omega)
       refine Gs 1 O (Dw (fun q => Ext w_b3 q) [] (fun wd7 hD _ => ?_))
       refine Ds [0, 1, 3] (by kernel_rfl) O (WD.take 4 O (by kernel_rfl) O O O hD (fun w1 hw1 => R.load tg84 O ((hw1.blk hB_b3 (fun h => h)).cells 2 _ O)) (Da [5, 6] (by kernel_rfl) O (by omega) (WD.call 2 O (by kernel_rfl) O O O (zka (vs := [_]) tc204 O O) (hkid 0 0 k0 O hk0 _ (hX.ext hD)) ?_)))
       rintro _ wz8 ⟨rfl, hz8⟩
       replace hD := hD.ext hz8
       refine ⟨fun _ => hD, ?_⟩
       refine WD.call 7 O (by kernel_rfl) O O O (F.call (vs := [_, _, _]) Tryz.call152 O) (xZ _ _ _ _ (by omega)) ?_
       rintro _ wz9 ⟨rfl, hz9⟩
       replace hD := hD.ext hz9
       refine ⟨fun _ => hD, ?_⟩
       refine Da [8] (by kernel_rfl) O (by omega) (WD.call 9 O (by kernel_rfl) O O O (zka (vs := [_]) tc204 O O) (hkid _ _ kj (by omega) hkj _ (hX.ext hD)) ?_)
       rintro _ wz10 ⟨rfl, hz10⟩
       replace hD := hD.ext hz10
       refine ⟨fun _ => hD, ?_⟩
       refine Ds [10] (by kernel_rfl) O (zkq (by kernel_rfl) ?_ _)
       obtain ⟨hE, hks, hvv, hB_b2, hB_b3, hX⟩ := Tr6 hD hE hks hvv hB_b2 hB_b3 hX
       refine Gs 4 O (zjG tr153 O ⟨_, rfl, by rw [hve, jy, znn c0, znn c24, znn c6, znn c7, znn c23, zno c25, hl0, zd6, hlj], hE⟩)
      ·
       have h1 := ok.k2 (by omega)
       obtain ⟨k0, hk0, hl0, hi0⟩ := zi 0 (by omega)
       obtain ⟨k1, hk1, hl1, hi1⟩ := zi 1 (by omega)
       refine Gs 4 O (Dw (fun q => Ext w_b3 q) [] (fun wd11 hD _ => ?_))
       refine Ds [0] (by kernel_rfl) O (WD.take 1 O (by kernel_rfl) O O O hD (fun w1 hw1 => R.load tg83 O ((hw1.blk hB_b3 (fun h => h)).cells 0 _ O)) (Ds [2, 4] (by kernel_rfl) O (WD.call 3 O (by kernel_rfl) O O O (zka (vs := [_]) tc204 O O) (hkid 0 0 k0 O hk0 _ (hX.ext hD)) ?_)))
       rintro _ wz12 ⟨rfl, hz12⟩
       replace hD := hD.ext hz12
       refine ⟨fun _ => hD, ?_⟩
       refine WD.call 5 O (by kernel_rfl) O O O (zka (vs := [_]) tc204 O O) (hkid 1 1 k1 O hk1 _ (hX.ext hD)) ?_
       rintro _ wz13 ⟨rfl, hz13⟩
       replace hD := hD.ext hz13
       refine ⟨fun _ => hD, ?_⟩
       refine WD.call 6 O (by kernel_rfl) O O O (F.call (vs := [_, _, _]) Tryz.call206 O) (zaY _ _ _ _ hi0 hi1) ?_
       rintro _ wz14 ⟨rfl, hz14⟩
       replace hD := hD.ext hz14
       refine ⟨fun _ => hD, ?_⟩
       refine Ds [7] (by kernel_rfl) O (zkq (by kernel_rfl) ?_ _)
       obtain ⟨hE, hks, hvv, hB_b2, hB_b3, hX⟩ := Tr6 hD hE hks hvv hB_b2 hB_b3 hX
       refine Gs 2 O (zjG tr153 O ⟨_, rfl, by rw [hve, jy, znn c0, znn c24, znn c6, znn c7, znn c23, znn c25, hl0, hl1], hE⟩)
def zZ (time : Int) (s : Int × Bool) (b : Int) : Int × Bool := if time <= b /\ (s.2 = false \/ b < s.1) then (b, true) else s
def qf (bounds : List Int) (time : Int) : Int := (bounds.foldl (zZ time) (time, false)).1
theorem zdG {α β : Type} (f : β -> α -> β) (b : β) {l : List α} {i : Nat} {x : α} (h : l[i]? = some x) : (l.take (i + 1)).foldl f b = f ((l.take i).foldl f b) x := by rw [zh h, List.foldl_append]; rfl
theorem zaj (l : List Int) (time : Int) (v : Value) (D : Nat -> Prop) (w : World) (hl : SlR 1 zt D w v l) : Calls Tryz.prog 156 #[v, .int .i64 time] w (Ret fun r w' => r = .int .i64 (qf l time) /\ Ext w w') := by
 have hmx := hl.max
 obtain ⟨al, cl, rfl⟩ := hl.form
 refine zlu Tryz.func156 O Tryz.ntmps156 O (Gs 21 O (G.loop (σ := Nat × Int × Bool) (fun ⟨i, b, fd⟩ => [(1, .int .i64 time), (5, .int .i64 b), (6, .bool fd), (10, .slice al l.length cl), (11, .int .i64 l.length), (12, .int .i64 i)]) (fun ⟨i, b, fd⟩ => fun w' => i <= l.length /\ (b, fd) = (l.take i).foldl (zZ time) (time, false) /\ Ext w w') (fun ⟨i, b, fd⟩ => l.length - i) ((0, time, false)) (zl4 O) (⟨zns _, rfl, Keep.refl _ _⟩) ?_))
 rintro ⟨i, b, fd⟩ w1 ⟨hi, hs, hL1⟩
 show G _ _ _ _ _ [(1, .int .i64 time), (5, .int .i64 b), (6, .bool fd), (10, .slice al l.length cl), (11, .int .i64 l.length), (12, .int .i64 i)] _
 replace hl := Tr1 hL1 hl
 refine Gs 6 O (zjm O (fun hlt => ?_) (fun hge => ?_))
 ·
  obtain ⟨x, he_x⟩ : ∃ x, l[i]? = some x := ⟨_, znd (by omega)⟩
  obtain ⟨bx, ox, cx, hax, _, hcx, rfl⟩ := hl.at he_x
  have hst := zdG (zZ time) (time, false) he_x
  rw [<- hs, show zZ time (b, fd) x = if time <= x /\ (fd = false \/ x < b) then (x, true) else (b, fd) from rfl] at hst
  refine Gs 6 O (zlk O O (zk5 tR27 ts3 O O hax (by omega)) (zlo O tg3 (hcx 0 _ O) (Gs 9 O (zlf 19 O (fun h1 => ?_) (fun h1 => ?_)))))
  ·
   refine Gs 1 O (zlk O O (zkO O (by first | exact zb | rfl)) (Gs 1 O (zli 22 O (fun h2 => ?_) (fun h2 => ?_))))
   ·
    have h2' : fd = false := by simpa using h2
    refine Ga 19 O (by omega) (zjx ((i + 1, x, true)) (Sub.cons O (Sub.cons O (Sub.cons (by first | rfl | (show some (Value.bool true) = some (Value.bool _); simp [*])) (zl4 O)))) (⟨by omega, by rw [hst, zno ⟨h1, .inl h2'⟩], hL1⟩) (by first | omega | (dsimp only; omega)))
   ·
    have h2' : fd = true := by simpa using h2
    refine Gs 7 O (zjm O (fun h3 => ?_) (fun h3 => ?_))
    . refine Ga 11 O (by omega) (zjx ((i + 1, x, true)) (Sub.cons O (Sub.cons O (Sub.cons (by first | rfl | (show some (Value.bool true) = some (Value.bool _); simp [*])) (zl4 O)))) (⟨by omega, by rw [hst, zno ⟨h1, .inr h3⟩], hL1⟩) (by first | omega | (dsimp only; omega)))
    . refine Ga 7 O (by omega) (zjx ((i + 1, b, fd)) (zl4 O) (⟨by omega, by rw [hst, znn (fun h => h.2.elim (fun h4 => by rw [h2'] at h4; cases h4) h3)], hL1⟩) (by first | omega | (dsimp only; omega)))
  . refine Ga 18 O (by omega) (zjx ((i + 1, b, fd)) (zl4 O) (⟨by omega, by rw [hst, znn (fun h => h1 h.1)], hL1⟩) (by first | omega | (dsimp only; omega)))
 ·
  have : i = l.length := by omega
  subst this
  rw [zni] at hs
  refine Gs 12 O (zjG Tryz.results156 O ⟨_, rfl, by rw [qf, <- hs], hL1⟩)
end Go.Proofs.YtaenledoagbddaaGreatDoor
namespace Go.GL
section
variable {P : Program} {env : Env} {w : World} {dst : Option Tmp} {ty : TypeId} {pos : String} {aft : Array Edge} {g : Option (Nat × Bool)}
theorem zmL {t e : TypeId} {k by' : Nat} {z : Value} {x y : Operand} {m : Nat} {kl kc : IntKind} {zs : List Value} (hu : P.underlying t = some (.slice e)) (he : (P.info? e).map (fun i => (i.zero, i.size, i.bytes)) = some (some z, k, by')) (hx : ev env x = some (.int kl 0)) (hy : ev env y = some (.int kc (m : Int)))
  (hb : by' * m <= 281474976710656) (hm : m <= 9223372036854775807) (hz : madeCells z.cells (m * k) = zs.toArray) :
  zJ P ⟨dst, .makeSlice t x y, ty, pos, aft, g⟩ env w (fun u w' => ∃ b, u = .slice (some ⟨b, 0, none⟩) 0 m /\ New w zs e b w') := by
 obtain ⟨i, hi, hz0, hz1, hz2⟩ := info_parts he
 refine ⟨.slice (some ⟨w.heap.size, 0, none⟩) 0 m, w.alloc (.cells zs.toArray e), ?_, _, rfl, New.mk w zs e⟩
 intro n a ha
 have := run_make (P := P) w t e i z hu hi hz0 kl kc 0 (m : Int) (by omega) (by omega) (by rw [hz2]; omega) (by omega)
 rw [hz1] at this
 simp only [znz, hz, Int.toNat_zero] at this
 simp [execOp, ha.eval hx, ha.eval hy, this]
end
def xT (r : Ins) (k : Int) : List Int := if k = 1 then r.secret else if k = 2 then r.pub else r.random
structure StS where
 vals : List Int
 a : Nat
 b : Nat
 c : Nat
def kS (s : StS) (k : Int) : Nat := if k = 1 then s.a else if k = 2 then s.b else s.c
def jT (s : StS) (k : Int) (n : Int) : StS := if k = 1 then ⟨s.vals ++ [n], s.a + 1, s.b, s.c⟩ else if k = 2 then ⟨s.vals ++ [n], s.a, s.b + 1, s.c⟩ else ⟨s.vals ++ [n], s.a, s.b, s.c + 1⟩
def zm (r : Ins) (o : Option StS) (v : Vr) : Option StS := o.bind fun s => if v.kind = 0 then some { s with vals := s.vals ++ [v.init] } else ((xT r v.kind)[kS s v.kind]?).map fun n => jT s v.kind n
def jM (vs : List Vr) (r : Ins) : Option StS := vs.foldl (zm r) (some ⟨[], 0, 0, 0⟩)
def inB (p : Vr × Int) : Bool := decide (p.1.low <= p.2) && decide (p.2 <= p.1.high)
def jZ (vs : List Vr) (r : Ins) (s : StS) : Int := if s.a ≠ r.secret.length \/ s.b ≠ r.pub.length \/ s.c ≠ r.random.length then 1 else if (vs.zip s.vals).all inB then 0 else 3
def zC (vs : List Vr) (r : Ins) : Int := match jM vs r with
 | none => 1
 | some s => jZ vs r s
def xf (vs : List Vr) (r : Ins) : List Int := match jM vs r with
 | none => []
 | some s => s.vals
theorem zdH (r : Ins) (vs : List Vr) : vs.foldl (zm r) none = none := by
 induction vs with
 | nil => rfl
 | cons x t ih => rw [List.foldl_cons]; exact ih
theorem zcB {vs : List Vr} {r : Ins} {i : Nat} (h : (vs.take i).foldl (zm r) (some ⟨[], 0, 0, 0⟩) = none) : jM vs r = none := by
 have := List.take_append_drop i vs
 rw [jM, <- this, List.foldl_append, h, zdH]
theorem kT {vs : List Vr} {r : Ins} {i : Nat} {x : Vr} (h : vs[i]? = some x) {s : StS} (hs : (vs.take i).foldl (zm r) (some ⟨[], 0, 0, 0⟩) = some s) : (vs.take (i + 1)).foldl (zm r) (some ⟨[], 0, 0, 0⟩) = if x.kind = 0 then some { s with vals := s.vals ++ [x.init] } else ((xT r x.kind)[kS s x.kind]?).map fun n => jT s x.kind n := by
 rw [zh h, List.foldl_append, hs]; rfl
theorem jz (s : StS) (k n : Int) : (jT s k n).vals = s.vals ++ [n] := by
 unfold jT
 (repeat' split); all_goals rfl
theorem zau {vs : List Vr} {r : Ins} : ∀ (i : Nat) (s : StS), i <= vs.length -> (vs.take i).foldl (zm r) (some ⟨[], 0, 0, 0⟩) = some s -> s.vals.length = i /\ s.a <= i /\ s.b <= i /\ s.c <= i := by
 intro i
 induction i with
 | zero => intro s _ h; simp at h; subst h; simp
 | succ i ih =>
  intro s hi h
  obtain ⟨x, hx⟩ : ∃ x, vs[i]? = some x := ⟨_, znd (by omega)⟩
  cases h1 : (vs.take i).foldl (zm r) (some ⟨[], 0, 0, 0⟩) with
  | none => rw [zh hx, List.foldl_append, h1] at h; cases h
  | some s0 =>
   obtain ⟨e1, e2, e3, e4⟩ := ih s0 (by omega) h1
   rw [kT hx h1] at h
   split at h
   . cases h; simp; omega
   ·
    obtain ⟨n, _, rfl⟩ := Option.map_eq_some_iff.1 h
    unfold jT
    (repeat' split); all_goals (simp; omega)
theorem zbQ (s : StS) {k k' : Int} (hk : 1 <= k /\ k <= 3) (hk' : 1 <= k' /\ k' <= 3) (n : Int) : kS (jT s k n) k' = if k' = k then kS s k' + 1 else kS s k' := by
 have h1 : k = 1 \/ k = 2 \/ k = 3 := by omega
 have h2 : k' = 1 \/ k' = 2 \/ k' = 3 := by omega
 rcases h1 with rfl | rfl | rfl <;> rcases h2 with rfl | rfl | rfl <;> simp [jT, kS]
theorem zeA {vs : List Vr} {r : Ins} (hkd : ∀ v ∈ vs, 0 <= v.kind /\ v.kind <= 3) : ∀ (i : Nat) (s : StS), i <= vs.length -> (vs.take i).foldl (zm r) (some ⟨[], 0, 0, 0⟩) = some s -> ∀ k, 1 <= k -> k <= 3 -> kS s k <= (xT r k).length := by
 intro i
 induction i with
 | zero => intro s _ h k _ _; simp at h; subst h; unfold kS; (repeat' split); all_goals simp
 | succ i ih =>
  intro s hi h k hk1 hk3
  obtain ⟨x, hx⟩ : ∃ x, vs[i]? = some x := ⟨_, znd (by omega)⟩
  have hkx := hkd x (zne hx)
  cases h1 : (vs.take i).foldl (zm r) (some ⟨[], 0, 0, 0⟩) with
  | none => rw [zh hx, List.foldl_append, h1] at h; cases h
  | some s0 =>
   have e1 := ih s0 (by omega) h1 k hk1 hk3
   rw [kT hx h1] at h
   split at h
   . cases h; exact e1
   ·
    obtain ⟨n, hn, rfl⟩ := Option.map_eq_some_iff.1 h
    have := (znr.1 hn).1
    rw [zbQ s0 (k := x.kind) (by omega) ⟨hk1, hk3⟩]
    split
    . rename_i h2; subst h2; omega
    . exact e1
theorem zbR {α : Type} [DecidableEq α] : ∀ {l l' : List α}, l.Nodup -> (∀ x ∈ l, x ∈ l') -> l.length <= l'.length
 | [], _, _, _ => zns _
 | x :: r, l', h, hs => by
  rw [List.nodup_cons] at h
  have h1 := hs x (znh ..)
  have h2 := zbR (l := r) (l' := l'.erase x) h.2 (fun y hy => by
   refine (List.mem_erase_of_ne ?_).2 (hs y (zng _ hy))
   rintro rfl; exact h.1 hy)
  rw [List.length_erase_of_mem h1] at h2
  have := List.length_pos_of_mem h1
  simp only [znG]; omega
theorem RanI.len {w : World} {it m : Nat} {l : List (Int × Value)} {seen : List Int} {cur : Option (Int × Value)} (h : RanI w it m l seen cur) : seen.length <= l.length := by
 obtain ⟨es, c, since, sb, c0, h1, h2, h3, h4, h5, h6, h7, h8, h9, h10, h11, _⟩ := h
 have := zbR (l := seen) (l' := l.map (·.1)) h10 (fun k hk => by
  obtain ⟨v, hv⟩ := h11 k hk
  exact List.mem_map.2 ⟨(k, v), zd4 hv, rfl⟩)
 simpa using this
theorem zg8 {vs : List Vr} {i : Nat} {x : Vr} (hx : vs[i]? = some x) (vals : List Int) (hv : vals.length = i) (n : Int) : ((vs.take (i + 1)).zip (vals ++ [n])).all inB = (((vs.take i).zip vals).all inB && inB (x, n)) := by
 have hi := (znr.1 hx).1
 rw [zh hx, List.zip_append (by rw [znH]; omega), List.all_append]; simp
end Go.GL
namespace Go.Proofs.YtaenledoagbddaaGreatDoor
open Go.GL
def RestI (D : Nat -> Prop) (r : Ins) (s : StS) (w : World) (m : Nat) (l : List (Int × Value)) : Prop :=
 MapI w m l /\ (∀ k, 1 <= k -> k <= 3 -> ∃ v, zcA l k = some v /\ SlR 1 zt D w v ((xT r k).drop (kS s k))) /\ ∀ p ∈ l, 1 <= p.1 /\ p.1 <= 3
theorem RestI.ext {D : Nat -> Prop} {r : Ins} {s : StS} {w w' : World} {m : Nat} {l : List (Int × Value)} (h : RestI D r s w m l) (hk : Ext w w') : RestI D r s w' m l :=
 ⟨h.1.ext hk, fun k h1 h3 => by obtain ⟨v, h4, h5⟩ := h.2.1 k h1 h3; exact ⟨v, h4, h5.ext za hk⟩, h.2.2⟩
theorem RestI.keep {D : Nat -> Prop} {r : Ins} {s : StS} {w w' : World} {S : Nat -> Prop} {m : Nat} {l : List (Int × Value)} (h : RestI D r s w m l) (hk : Keep S w w') (hm : ¬ S m) (hD : ∀ q, D q -> ¬ S q) : RestI D r s w' m l :=
 ⟨h.1.keep hk hm, fun k h1 h3 => by obtain ⟨v, h4, h5⟩ := h.2.1 k h1 h3; exact ⟨v, h4, h5.keep za hk (fun q hq _ => hD q hq)⟩, h.2.2⟩
end Go.Proofs.YtaenledoagbddaaGreatDoor
namespace Go.GL
structure Sg where
 vals : List Int
 outs : List Int
 time : Int
end Go.GL
namespace Go.Proofs.YtaenledoagbddaaGreatDoor
open Go.GL
abbrev zd : Int -> Value := .int .i64
structure WkV where
 (W m : Nat) (v1 v2 v3 sv vv hv ov : Value) (rm : List (Int × Value))
def zak (vs : List Vr) (vals : List Int) (v n : Int) : List Int := match vs[v.toNat]? with
 | some x => vals.set v.toNat (xQ n x.low x.high)
 | none => vals
theorem InV.set {vs : List Vr} {vals : List Int} (hg : ∀ v ∈ vs, ym (v.low, v.high)) (h : InV vs vals) (v n : Int) : InV vs (zak vs vals v n) := by
 unfold zak
 cases hx : vs[v.toNat]? with
 | none => exact h
 | some x =>
  have hgx := hg x (zne hx)
  unfold ym at hgx
  have hc := qe n (show x.low <= x.high from hgx.2.1)
  refine ⟨by simp [h.len], fun i y hy => ?_⟩
  simp only [lki, List.getElem?_set]
  by_cases hi : v.toNat = i
  ·
   subst hi
   rw [hx] at hy; cases hy
   have := (znr.1 hx).1
   rw [zno rfl, zno (by rw [h.len]; exact this)]
   exact hc
  ·
   rw [znn hi]
   exact h.at_ i y hy
def qC (f : Fl) (hs : List Int) (s : St) (σ : Sg) : Sg :=
 if s.act = 0 then { σ with vals := zak f.vars σ.vals s.var (xS σ.vals s.term), time := σ.time + s.cost }
 else if s.act = 1 then { σ with outs := σ.outs ++ [xS σ.vals s.term], time := σ.time + s.cost }
 else if s.act = 5 then { σ with vals := zak f.vars σ.vals s.var (lki hs s.n.toNat), time := σ.time + s.cost }
 else if s.act = 6 then { σ with time := qf s.bounds (σ.time + s.cost) }
 else { σ with time := σ.time + s.cost }
structure StepOk (f : Fl) (s : St) : Prop where
 formed : zw f.vars false s.term = true
 ranged : (rng f.vars s.term).isSome = true
 small : s.term.nodes <= 1000000
 cost : 0 <= s.cost /\ s.cost <= 67108864
 var : s.act = 0 \/ s.act = 5 -> 0 <= s.var /\ s.var < f.vars.length
 num : s.act = 5 -> 0 <= s.n /\ s.n < f.hatches.length
structure WkM (w : World) (z z' : WkV) : Prop where
 W : z'.W = z.W
 m : z'.m = z.m
 vv : z'.vv = z.vv
 v1 : z'.v1 = z.v1
 sv : z'.sv = z.sv
 hv : z'.hv = z.hv
 ov : z'.ov.ownBlock = z.ov.ownBlock \/ ∃ g, z'.ov.ownBlock = some g /\ w.heap.size <= g
theorem WkM.refl (w : World) (z : WkV) : WkM w z z := ⟨rfl, rfl, rfl, rfl, rfl, rfl, .inl rfl⟩
def zi6 (rd : Int -> Int) (k n : Int) : Int -> Int := fun j => if j = k then n else rd j
def zhs (f : Fl) (hs : List Int) (x : Nd) (s : St) (σ : Sg) (rd : Int -> Int) : Int × Sg × (Int -> Int) :=
 if x.kind = 0 then (x.next, σ, rd)
 else if x.kind = 2 then (x.next, qC f hs s σ, rd)
 else if x.kind = 4 then (x.next, σ, zi6 rd x.at_ 0)
 else if x.kind = 5 /\ rd x.at_ = s.n then (x.other, σ, rd)
 else (if xS σ.vals s.term ≠ 0 then x.next else x.other, { σ with time := σ.time + s.cost }, if x.kind = 5 then zi6 rd x.at_ (rd x.at_ + 1) else rd)
def RdM (rm : List (Int × Value)) (rd : Int -> Int) : Prop := ∀ k, (zcA rm k).getD (.int .i64 0) = .int .i64 (rd k)
theorem RdM.upd {rm : List (Int × Value)} {rd : Int -> Int} (h : RdM rm rd) (hn : (rm.map (·.1)).Nodup) (k n : Int) : RdM (zg4 rm k (.int .i64 n)) (zi6 rd k n) := by
 intro j
 rw [zet hn]
 unfold zi6
 by_cases e : j = k
 . rw [zno e, zno e]; rfl
 . rw [znn e, znn e]; exact h j
def xH (body : Sg -> Sg) (cost : Int) (t : Tm) : Nat -> Sg -> Sg
 | 0, σ => σ
 | k + 1, σ => if xS σ.vals t = 0 then { σ with time := σ.time + cost } else xH body cost t k (body { σ with time := σ.time + cost })
section
variable (f : Fl) (hs : List Int)
mutual
def exS : St -> Sg -> Sg
 | .mk a c v n t th el b, σ =>
  if a = 3 then (if xS σ.vals t ≠ 0 then exL th { σ with time := σ.time + c } else exL el { σ with time := σ.time + c })
  else if a = 4 then xH (fun σ => exL th σ) c t n.toNat σ
  else qC f hs (.mk a c v n t th el b) σ
def exL : List St -> Sg -> Sg
 | [], σ => σ
 | s :: r, σ => exL r (exS s σ)
end
theorem jg (s : St) (σ : Sg) : exS f hs s σ = if s.act = 3 then (if xS σ.vals s.term ≠ 0 then exL f hs s.thn { σ with time := σ.time + s.cost } else exL f hs s.els { σ with time := σ.time + s.cost })
  else if s.act = 4 then xH (exL f hs s.thn) s.cost s.term s.n.toNat σ else qC f hs s σ := by cases s; rw [exS]; rfl
structure Mc where
 at_ : Int
 σ : Sg
 rd : Int -> Int
def noSt : St := .mk 0 0 0 0 (.mk 0 0 []) [] [] []
def zeB (g : List Nd) (k : Int) : Nd := g[k.toNat]?.getD ⟨1, -1, -1, -1⟩
def ze1 (f : Fl) (k : Int) : St := (qd f.body)[k.toNat]?.getD noSt
def zht (g : List Nd) (m : Mc) : Mc :=
 ⟨(zhs f hs (zeB g m.at_) (ze1 f (zeB g m.at_).at_) m.σ m.rd).1, (zhs f hs (zeB g m.at_) (ze1 f (zeB g m.at_).at_) m.σ m.rd).2.1, (zhs f hs (zeB g m.at_) (ze1 f (zeB g m.at_).at_) m.σ m.rd).2.2⟩
def zcC (g : List Nd) : Nat -> Mc -> Mc
 | 0, m => m
 | k + 1, m => zcC g k (zht f hs g m)
theorem kU (g : List Nd) : ∀ (a b : Nat) (m : Mc), zcC f hs g (a + b) m = zcC f hs g b (zcC f hs g a m)
 | 0, b, m => by rw [Nat.zero_add]; rfl
 | a + 1, b, m => by rw [show a + 1 + b = (a + b) + 1 by omega]; exact kU g a b (zht f hs g m)
def Goes (g : List Nd) (lo hi : Int) (k : Nat) (m m' : Mc) : Prop := zcC f hs g k m = m' /\ ∀ j, j < k -> lo <= (zcC f hs g j m).at_ /\ (zcC f hs g j m).at_ < hi
end
section
variable {f : Fl} {hs : List Int} {g : List Nd} {lo hi : Int} {k k' : Nat} {m m' m'' : Mc}
theorem Goes.refl (m : Mc) : Goes f hs g lo hi 0 m m := ⟨rfl, fun _ h => absurd h (Nat.not_lt_zero _)⟩
theorem Goes.trans (h : Goes f hs g lo hi k m m') (h' : Goes f hs g lo hi k' m' m'') : Goes f hs g lo hi (k + k') m m'' := by
 refine ⟨by rw [kU, h.1, h'.1], fun j hj => ?_⟩
 by_cases hjk : j < k
 . exact h.2 j hjk
 ·
  obtain ⟨i, rfl⟩ : ∃ i, j = k + i := ⟨j - k, by omega⟩
  rw [kU, h.1]
  exact h'.2 i (by omega)
theorem Goes.one (h : zht f hs g m = m') (h1 : lo <= m.at_ /\ m.at_ < hi) : Goes f hs g lo hi 1 m m' := by
 refine ⟨h, fun j hj => ?_⟩
 obtain rfl : j = 0 := by omega
 exact h1
end
mutual
def nbS : St -> Nat
 | .mk a _ _ n _ th el _ => if a = 3 then 1 + max (nbL th) (nbL el) else if a = 4 then 2 + n.toNat * (1 + nbL th) else 1
def nbL : List St -> Nat
 | [] => 0
 | s :: r => nbS s + nbL r
end
theorem zd8 (s : St) : nbS s = if s.act = 3 then 1 + max (nbL s.thn) (nbL s.els) else if s.act = 4 then 2 + s.n.toNat * (1 + nbL s.thn) else 1 := by cases s; rw [nbS]; rfl
theorem zii {vs : List Vr} {nh : Nat} (l : List St) : ∀ top, zc vs nh l top = 0 -> (nbL l : Int) <= 2 * (bds l).1 := by
 induction l using zkX with
 | h l ih =>
 intro top h
 have hm := xe l top h
 have key : ∀ r : List St, (∀ x ∈ r, x ∈ l) -> (nbL r : Int) <= 2 * (bds r).1 := by
  intro r
  induction r with
  | nil => intro _; simp [nbL, bds]
  | cons x r ihr =>
   intro hx
   have h1 := ihr (fun y hy => hx y (zng _ hy))
   obtain ⟨last, h2⟩ := hm x (hx x (znh ..))
   obtain ⟨h3, _, _, h4, h5⟩ := xF h2
   have h6 := (ih x (hx x (znh ..))).1 _ h4
   have h7 := (ih x (hx x (znh ..))).2 _ h5
   have b4 := yU x.thn _ h4
   have b5 := yU x.els _ h5
   rw [nbL, bds]
   have : (nbS x : Int) <= 2 * (yn x).1 := by
    rw [zd8, yA]
    by_cases a4 : x.act = 4
    ·
     rw [znn (show ¬ x.act = 3 by omega), zno a4, zno a4]
     obtain ⟨n, hn⟩ := Int.eq_ofNat_of_zero_le (h3.rep a4).1
     rw [hn, znz]
     have : ((n * (1 + nbL x.thn) : Nat) : Int) <= (n : Int) * (2 * (1 + (bds x.thn).1)) := by
      rw [Int.natCast_mul]
      exact Int.mul_le_mul_of_nonneg_left (by omega) (by omega)
     have e : (n : Int) * (2 * (1 + (bds x.thn).1)) = 2 * ((n : Int) * (1 + (bds x.thn).1)) := by rw [Int.mul_left_comm]
     simp only
     omega
    ·
     rw [znn a4, znn a4]
     by_cases a3 : x.act = 3
     . rw [zno a3]; simp only; omega
     . rw [znn a3]; simp only; omega
   simp only
   omega
 exact key l (fun x h => h)
def CtxG (g : List Nd) (n : Nat) (ns : List Nd) : Prop := ∀ (i : Nat) x, ns[i]? = some x -> g[n + i]? = some x
def CtxP (P : List St) (a : Nat) (ps : List St) : Prop := ∀ (i : Nat) x, ps[i]? = some x -> P[a + i]? = some x
theorem CtxG.left {g : List Nd} {n : Nat} {a b : List Nd} (h : CtxG g n (a ++ b)) : CtxG g n a := fun i x hx => h i x (by rw [znD (znr.1 hx).1]; exact hx)
theorem zmM {g : List Nd} {n m : Nat} {a b : List Nd} (h : CtxG g n (a ++ b)) (hm : m = n + a.length) : CtxG g m b := fun i x hx => by
 rw [hm, Nat.add_assoc]; exact h _ x (by rw [znE (by omega)]; simpa using hx)
theorem CtxG.head {g : List Nd} {n : Nat} {x : Nd} {b : List Nd} (h : CtxG g n (x :: b)) : g[n]? = some x := h 0 x rfl
theorem CtxP.left {P : List St} {n : Nat} {a b : List St} (h : CtxP P n (a ++ b)) : CtxP P n a := fun i x hx => h i x (by rw [znD (znr.1 hx).1]; exact hx)
theorem zmN {P : List St} {n m : Nat} {a b : List St} (h : CtxP P n (a ++ b)) (hm : m = n + a.length) : CtxP P m b := fun i x hx => by
 rw [hm, Nat.add_assoc]; exact h _ x (by rw [znE (by omega)]; simpa using hx)
theorem CtxP.head {P : List St} {n : Nat} {x : St} {b : List St} (h : CtxP P n (x :: b)) : P[n]? = some x := h 0 x rfl
def SameR (a n : Nat) (rd rd' : Int -> Int) : Prop := ∀ k : Int, ¬ ((a : Int) <= k /\ k < (a + n : Nat)) -> rd' k = rd k
theorem SameR.refl (a n : Nat) (rd : Int -> Int) : SameR a n rd rd := fun _ _ => rfl
theorem SameR.trans {a n : Nat} {r1 r2 r3 : Int -> Int} (h : SameR a n r1 r2) (h' : SameR a n r2 r3) : SameR a n r1 r3 := fun k hk => (h' k hk).trans (h k hk)
theorem zmr {a n : Nat} {rd : Int -> Int} {k v : Int} (h : (a : Int) <= k /\ k < (a + n : Nat)) : SameR a n rd (zi6 rd k v) := fun j hj => by
 unfold zi6; rw [znn (fun e => hj (by rw [e]; exact h))]
open Go.GL
theorem zeC {vs : List Vr} {nh : Nat} (l : List St) : ∀ top, zc vs nh l top = 0 -> ∀ s ∈ qd l, ∃ last, zy vs nh s last = 0 := by
 induction l using zkX with
 | h l ih =>
 intro top h
 have hm := xe l top h
 have key : ∀ r : List St, (∀ x ∈ r, x ∈ l) -> ∀ s ∈ qd r, ∃ last, zy vs nh s last = 0 := by
  intro r
  induction r with
  | nil => intro _ s hs; simp [qd] at hs
  | cons x r ihr =>
   intro hx s hs
   obtain ⟨last, h2⟩ := hm x (hx x (znh ..))
   obtain ⟨_, _, _, h4, h5⟩ := xF h2
   rw [qd, x.pre_eq, znw, znt, znw] at hs
   rcases hs with (rfl | hs | hs) | hs
   . exact ⟨last, h2⟩
   . exact (ih x (hx x (znh ..))).1 _ h4 s hs
   . exact (ih x (hx x (znh ..))).2 _ h5 s hs
   . exact ihr (fun y hy => hx y (zng _ hy)) s hs
 exact key l (fun x h => h)
theorem zeD (l : List St) : ∀ s ∈ qd l, s.nodes <= zq l := by
 induction l using zkX with
 | h l ih =>
 have key : ∀ r : List St, (∀ x ∈ r, x ∈ l) -> ∀ s ∈ qd r, s.nodes <= zq r := by
  intro r
  induction r with
  | nil => intro _ s hs; simp [qd] at hs
  | cons x r ihr =>
   intro hx s hs
   have h1 := (ih x (hx x (znh ..))).1
   have h2 := (ih x (hx x (znh ..))).2
   have h3 := x.nodes_eq
   rw [qd, x.pre_eq, znw, znt, znw] at hs
   rw [zq]
   rcases hs with (rfl | hs | hs) | hs
   . omega
   . have := h1 s hs; omega
   . have := h2 s hs; omega
   . have := ihr (fun y hy => hx y (zng _ hy)) s hs; omega
 exact key l (fun x h => h)
theorem zeE {f : Fl} {s : St} {last : Bool} (h : zy f.vars f.hatches.length s last = 0) (hn : s.nodes <= 100000) : StepOk f s := by
 obtain ⟨h1, h2, h3, _, _⟩ := xF h
 have hse := s.nodes_eq
 unfold zM at h2
 split at h2
 ·
  rename_i hf
  split at h2
  ·
   rename_i hr
   refine ⟨hf, hr, by omega, h1.cost, fun ha => ?_, fun ha => ?_⟩
   ·
    unfold zT at h3
    rcases ha with ha | ha
    ·
     simp [ha, xv] at h3
     omega
    ·
     simp [ha, xv] at h3
     omega
   ·
    unfold zT at h3
    simp [ha, xv] at h3
    omega
  . cases h2
 . cases h2
def qq (s : St) : Prop := s.act = 6 -> ∀ b ∈ s.bounds, b <= 67108864
theorem zeF {l : List Int} (h : xc l = true) : ∀ (d i : Nat) x y, l[i]? = some x -> l[i + d]? = some y -> x <= y := by
 intro d
 induction d with
 | zero => intro i x y hx hy; rw [Nat.add_zero, hx] at hy; cases hy; exact Int.le_refl _
 | succ d ih =>
  intro i x y hx hy
  have hlt := (znr.1 hy).1
  obtain ⟨z, hz⟩ : ∃ z, l[i + d]? = some z := ⟨_, znd (by omega)⟩
  have h1 := ih i x z hx hz
  have h2 := (xE l).1 h (i + d) z y hz hy
  omega
theorem zcD {vs : List Vr} {nh : Nat} {s : St} {last : Bool} (h : zy vs nh s last = 0) : qq s := by
 intro a6 b hb
 obtain ⟨h1, h2, h3, _, _⟩ := xF h
 have h4 : yw s = true := by
  rw [yx] at h
  split at h
  . cases h
  split at h
  . cases h
  . rename_i h5; simpa using h5
 unfold zT at h3
 simp [a6, xd] at h3
 unfold yw at h4
 simp [a6] at h4
 have hr := h3.2.2
 obtain ⟨i, hi⟩ := List.mem_iff_getElem?.1 hb
 have hlt := (znr.1 hi).1
 obtain ⟨y, hy⟩ : ∃ y, s.bounds[s.bounds.length - 1]? = some y := ⟨_, znd (by omega)⟩
 have h5 := zeF hr (s.bounds.length - 1 - i) i b y hi (by rw [show i + (s.bounds.length - 1 - i) = s.bounds.length - 1 by omega]; exact hy)
 rw [hy] at h4
 simp at h4
 omega
theorem zbS (l : List Int) (t : Int) : qf l t = t \/ (qf l t ∈ l /\ t <= qf l t) := by
 have key : ∀ (l : List Int) (s : Int × Bool), (l.foldl (zZ t) s).1 = s.1 \/ ((l.foldl (zZ t) s).1 ∈ l /\ t <= (l.foldl (zZ t) s).1) := by
  intro l
  induction l with
  | nil => intro s; exact .inl rfl
  | cons b r ih =>
   intro s
   rw [List.foldl_cons]
   rcases ih (zZ t s b) with h | h
   ·
    rw [h]
    unfold zZ
    split
    . rename_i h1; exact .inr ⟨znh .., h1.1⟩
    . exact .inl O
   . exact .inr ⟨zng _ h.1, h.2⟩
 exact key l (t, false)
structure Valid (f : Fl) : Prop where
 ok : yi f = 0
 size : zq f.body + yb f.hatches <= 1024
 bulk : xu f.body <= 1000000
section
variable {f : Fl} (V : Valid f)
include V
theorem Valid.plain : yN f.body = true := zcy V.ok
theorem Valid.good : ∀ v ∈ f.vars, ym (v.low, v.high) := zbO (zO V.ok).2.1
theorem Valid.kinds : ∀ v ∈ f.vars, 0 <= v.kind /\ v.kind <= 3 := by
 have h := (zO V.ok).2.1
 have h1 : ∀ j, j < f.vars.length -> kN f.vars j = 0 := by
  unfold zx at h
  split at h
  . rename_i h2; exact absurd h h2
  ·
   rename_i h2
   intro j hj
   exact yH f.vars.length 0 (by simpa using h2) j (zns _) (by omega)
 exact fun v hv => (qc h1 v hv).2
theorem Valid.lens : f.vars.length <= 64 /\ f.hatches.length <= 8 := by
 have h := (zO V.ok).1
 unfold jd at h
 simp at h
 omega
theorem Valid.ssize : ssize f.body <= 1024 := zcz V.size
theorem Valid.step : ∀ s ∈ qd f.body, StepOk f s /\ qq s /\ (s.act = 4 -> 0 <= s.n /\ s.n <= 4096) := by
 intro s hs
 obtain ⟨last, h⟩ := zeC f.body true (zO V.ok).2.2.2.1 s hs
 have hn := zeD f.body s hs
 have := V.size
 exact ⟨zeE h (by omega), zcD h, fun a4 => ⟨((xF h).1.rep a4).1, ((xF h).1.rep a4).2.1⟩⟩
theorem Valid.nb : nbL f.body <= 8192 := by
 have h1 := zii f.body true (zO V.ok).2.2.2.1
 have h2 := (zO V.ok).2.2.2.2
 unfold zdE at h2
 simp at h2
 omega
end
theorem zeG (l : List St) : ∀ a n e, ∀ x ∈ zaK l a n e, x.kind = 2 \/ x.kind = 3 \/ x.kind = 4 \/ x.kind = 5 := by
 induction l using zkX with
 | h l ih =>
 have key : ∀ r : List St, (∀ x ∈ r, x ∈ l) -> ∀ a n e, ∀ x ∈ zaK r a n e, x.kind = 2 \/ x.kind = 3 \/ x.kind = 4 \/ x.kind = 5 := by
  intro r
  induction r with
  | nil => intro _ a n e x hx; simp [zaK] at hx
  | cons s r ihr =>
   intro hm a n e x hx
   have h1 := (ih s (hm s (znh ..))).1
   have h2 := (ih s (hm s (znh ..))).2
   rw [zaK, znw, s.lay_eq] at hx
   rcases hx with hx | hx
   ·
    split at hx
    ·
     rw [znt, znw] at hx
     rcases hx with rfl | hx | hx
     . exact .inr (.inl O)
     . exact h1 _ _ _ x hx
     . exact h2 _ _ _ x hx
    ·
     split at hx
     ·
      rw [znt, znt] at hx
      rcases hx with rfl | rfl | hx
      . exact .inr (.inr (.inl O))
      . exact .inr (.inr (.inr O))
      . exact h1 _ _ _ x hx
     ·
      rw [znv] at hx
      subst hx; exact .inl rfl
   . exact ihr (fun y hy => hm y (zng _ hy)) _ _ _ x hx
 exact key l (fun x h => h)
structure NodeOk' (f : Fl) (x : Nd) : Prop where
 kind : x.kind = 0 \/ x.kind = 2 \/ x.kind = 3 \/ x.kind = 4 \/ x.kind = 5
 step : x.kind ≠ 0 -> 0 <= x.at_ /\ (qd f.body)[x.at_.toNat]? = some (ze1 f x.at_) /\ StepOk f (ze1 f x.at_) /\ qq (ze1 f x.at_)
theorem zmO {f : Fl} (V : Valid f) {k : Int} (h0 : 0 <= k) (h1 : k < (zd0 f).length - 1) : (zd0 f)[k.toNat]? = some (zeB (zd0 f) k) /\ NodeOk' f (zeB (zd0 f) k) := by
 obtain ⟨n, rfl⟩ := Int.eq_ofNat_of_zero_le h0
 have hlen := zfO f V.plain
 have zi : (zd0 f)[n]? = some (zeB (zd0 f) n) := by
  unfold zeB; rw [znz, znd (show n < (zd0 f).length by omega)]; rfl
 refine ⟨zi, ?_⟩
 generalize zeB (zd0 f) n = x at zi
 unfold zd0 at zi
 cases n with
 | zero => simp at zi; subst zi; exact ⟨.inl rfl, fun h => absurd rfl h⟩
 | succ n =>
  rw [List.getElem?_cons_succ, znD (by rw [zd2 _ V.plain]; omega)] at zi
  have hx := zne zi
  have hk := zeG f.body _ _ _ x hx
  have hr := (zfP f.body V.plain 0 1 (1 + zbg f.body)).range x hx
  refine ⟨.inr hk, fun _ => ⟨by omega, ?_⟩⟩
  obtain ⟨s, hs⟩ : ∃ s, (qd f.body)[x.at_.toNat]? = some s := ⟨_, znd (by rw [zg3]; omega)⟩
  have e : ze1 f x.at_ = s := by unfold ze1; rw [hs]; rfl
  have hst := V.step s (zne hs)
  rw [e]
  exact ⟨hs, hst.1, hst.2.1⟩
theorem zeH {f : Fl} {hs : List Int} {s : St} {σ : Sg} {j : Nat} (hg : ∀ v ∈ f.vars, ym (v.low, v.high)) (ho : StepOk f s) (hset : qq s) (hV : InV f.vars σ.vals) (ht : 0 <= σ.time /\ σ.time <= (j : Int) * 67108864) (hol : σ.outs.length <= j) :
  InV f.vars (qC f hs s σ).vals /\ (0 <= (qC f hs s σ).time /\ (qC f hs s σ).time <= ((j + 1 : Nat) : Int) * 67108864) /\ (qC f hs s σ).outs.length <= j + 1 := by
 have hc := ho.cost
 unfold qC
 split
 . exact ⟨hV.set hg _ _, by dsimp only; omega, by dsimp only; omega⟩
 split
 . exact ⟨hV, by dsimp only; omega, by simp; omega⟩
 split
 . exact ⟨hV.set hg _ _, by dsimp only; omega, by dsimp only; omega⟩
 split
 ·
  rename_i a6
  refine ⟨hV, ?_, by dsimp only; omega⟩
  dsimp only
  rcases zbS s.bounds (σ.time + s.cost) with h | h
  . rw [h]; omega
  ·
   have := hset a6 _ h.1
   omega
 . exact ⟨hV, by dsimp only; omega, by dsimp only; omega⟩
open Go.GL
def zj9 (f : Fl) (x : Nd) : Bool := decide (x.kind = 2) && (decide ((ze1 f x.at_).act = 0) || decide ((ze1 f x.at_).act = 5))
def varD (f : Fl) (d : Int) : Int := if ((qd f.body).length : Int) <= d then d - (qd f.body).length else (ze1 f d).var
def zja (f : Fl) (x : Nd) (d : Int) : Prop := (x.kind = 0 /\ ((qd f.body).length : Int) <= d /\ d < (qd f.body).length + f.vars.length) \/ (x.kind ≠ 0 /\ zj9 f x = true /\ d = x.at_)
def zij (f : Fl) (x : Nd) (d : Int) : Prop := x.kind ≠ 0 /\ (zj9 f x = true -> varD f d ≠ (ze1 f x.at_).var)
inductive Rch (f : Fl) (g : List Nd) : Int -> Int -> Prop
 | gen {i : Nat} {x : Nd} {to d : Int} : g[i]? = some x -> (to = x.next \/ to = x.other) -> 0 <= to -> zja f x d -> Rch f g to d
 | thru {i : Nat} {x : Nd} {to d : Int} : g[i]? = some x -> (to = x.next \/ to = x.other) -> 0 <= to -> Rch f g i d -> zij f x d -> Rch f g to d
theorem Rch.step {f : Fl} {g : List Nd} {i : Nat} {x : Nd} {to d : Int} (hx : g[i]? = some x) (ht : to = x.next \/ to = x.other) (h0 : 0 <= to) (h : zja f x d \/ (Rch f g i d /\ zij f x d)) : Rch f g to d :=
 h.elim (Rch.gen hx ht h0) (fun h => Rch.thru hx ht h0 h.1 h.2)
theorem zcE {vs : List Vr} (t : Tm) : zw vs true t = true -> zw vs false t = true := by
 induction t using zkV with
 | h t ih =>
  intro h
  rw [yT, Bool.and_eq_true, Bool.and_eq_true] at h ⊢
  refine ⟨⟨h.1.1, ?_⟩, ?_⟩
  ·
   have h2 := h.1.2
   unfold xR at h2 ⊢
   split
   ·
    rename_i e
    rw [zno e, Bool.and_eq_true] at h2
    rw [h2.1]; rfl
   ·
    rename_i e
    rw [znn e] at h2
    exact h2
  ·
   have key : ∀ l : List Tm, (∀ k ∈ l, k ∈ t.kids) -> zL vs true l = true -> zL vs false l = true := by
    intro l
    induction l with
    | nil => intro _ _; rfl
    | cons x r ihr =>
     intro hm hf
     rw [zL, Bool.and_eq_true] at hf ⊢
     exact ⟨ih x (hm x (znh ..)) hf.1, ihr (fun k hk => hm k (zng _ hk)) hf.2⟩
   exact key t.kids (fun k h => h) h.2
theorem Valid.hatch {f : Fl} (V : Valid f) : ∀ h ∈ f.hatches, zw f.vars false h.term = true /\ (rng f.vars h.term).isSome = true /\ h.term.nodes <= 1000000 /\ h.low <= h.high := by
 intro h hm
 obtain ⟨i, hi⟩ := List.mem_iff_getElem?.1 hm
 have hlt := (znr.1 hi).1
 have h0 := (zO V.ok).2.2.1
 have h1 := yH f.hatches.length 0 h0 i (zns _) (by omega)
 rw [zar hi] at h1
 have hn := xY hi
 have := V.size
 unfold yf at h1
 split at h1
 . cases h1
 split at h1
 . cases h1
 split at h1
 . cases h1
 ·
  rename_i hb
  unfold zM at h1
  split at h1
  ·
   rename_i hf
   split at h1
   ·
    rename_i hr
    refine ⟨zcE _ hf, hr, by omega, ?_⟩
    have hb' : zbh h.low h.high = true := by simpa using hb
    unfold zbh at hb'
    exact (of_decide_eq_true hb').1
   . cases h1
  . cases h1
def zg9 (vals : List Int) (hs : List Ht) : List Int := hs.map fun h => xQ (xS vals h.term) h.low h.high
theorem zeI {vals : List Int} {hs : List Ht} {i : Nat} {x : Ht} (h : hs[i]? = some x) : zg9 vals (hs.take (i + 1)) = zg9 vals (hs.take i) ++ [xQ (xS vals x.term) x.low x.high] := by
 unfold zg9; rw [zh h, List.map_append]; rfl
theorem zbT {vs : List Vr} {r : Ins} (h : zC vs r = 0) : InV vs (xf vs r) := by
 unfold zC at h
 cases hs : jM vs r with
 | none => rw [hs] at h; cases h
 | some s =>
  rw [hs] at h
  have hv : xf vs r = s.vals := by unfold xf; rw [hs]
  have hl := zau (vs := vs) (r := r) vs.length s (znC _) (by rw [zni]; exact hs)
  simp only at h
  unfold jZ at h
  split at h
  . cases h
  split at h
  ·
   rename_i ha
   rw [hv]
   refine ⟨hl.1, fun i v hi => ?_⟩
   have hlt := (znr.1 hi).1
   rw [List.all_eq_true] at ha
   have := ha (v, lki s.vals i) (List.mem_iff_getElem?.2 ⟨i, by
    rw [List.getElem?_zip_eq_some]
    exact ⟨hi, zgV (by omega)⟩⟩)
   unfold inB at this
   simp at this
   exact this
  . cases h
abbrev qx (f : Fl) (r : Ins) : List Int := zg9 (xf f.vars r) f.hatches
abbrev qD (f : Fl) (r : Ins) : Sg := ⟨xf f.vars r, [], 0⟩
abbrev mcOf (f : Fl) (r : Ins) : Mc := ⟨0, qD f r, fun _ => 0⟩
def xU (f : Fl) (r : Ins) : Sg := exL f (qx f r) f.body (qD f r)
def GoesAll (f : Fl) (r : Ins) (K : Nat) : Prop := ∃ rd', Goes f (qx f r) (zd0 f) 0 ((zd0 f).length - 1) K (mcOf f r) ⟨((zd0 f).length : Int) - 1, xU f r, rd'⟩
theorem GoesAll.unique {f : Fl} {r : Ins} {K K' : Nat} (h : GoesAll f r K) (h' : GoesAll f r K') : K = K' := by
 obtain ⟨_, h1, h2⟩ := h
 obtain ⟨_, h3, h4⟩ := h'
 rcases Nat.lt_trichotomy K K' with hh | hh | hh
 . have := (h4 K hh).2; rw [h1] at this; dsimp only at this; omega
 . exact hh
 . have := (h2 K' hh).2; rw [h3] at this; dsimp only at this; omega
theorem zaZ : ∀ (D : Nat -> Prop) (w : World) (x : Int) (cs : List Value), zt D w x cs -> cs = [zd x] := fun _ _ _ _ h => h
structure SgB (f : Fl) (N : Nat) (σ : Sg) : Prop where
 inv : InV f.vars σ.vals
 t0 : 0 <= σ.time
 t1 : σ.time <= (N : Int) * 67108864
 ol : σ.outs.length <= N
theorem SgB.mono {f : Fl} {N M : Nat} {σ : Sg} (h : SgB f N σ) (hm : N <= M) : SgB f M σ := ⟨h.inv, h.t0, by have := h.t1; omega, by have := h.ol; omega⟩
theorem SgB.cost {f : Fl} {N : Nat} {σ : Sg} {s : St} (h : SgB f N σ) (ho : StepOk f s) : SgB f (N + 1) { σ with time := σ.time + s.cost } := by
 have := ho.cost
 exact ⟨h.inv, by have := h.t0; dsimp only; omega, by have := h.t1; dsimp only; omega, by have := h.ol; dsimp only; omega⟩
abbrev PreOk (f : Fl) (l : List St) : Prop := ∀ s ∈ qd l, StepOk f s /\ qq s /\ (s.act = 4 -> 0 <= s.n)
theorem PreOk.kids {f : Fl} {l : List St} (h : PreOk f l) {x : St} (hx : x ∈ l) : (StepOk f x /\ qq x /\ (x.act = 4 -> 0 <= x.n)) /\ PreOk f x.thn /\ PreOk f x.els := by
 have hm : ∀ s ∈ x.pre, s ∈ qd l := by
  intro s hs
  induction l with
  | nil => cases hx
  | cons y r ih =>
   rw [qd, znw]
   rcases znt.1 hx with rfl | hx
   . exact .inl hs
   ·
    refine .inr (ih (fun s hs => h s ?_) hx)
    rw [qd, znw]; exact .inr hs
 rw [x.pre_eq] at hm
 exact ⟨h x (hm x (by simp)), fun s hs => h s (hm s (by simp [hs])), fun s hs => h s (hm s (by simp [hs]))⟩
theorem zbU {f : Fl} {body : Sg -> Sg} {s : St} (ho : StepOk f s) {b : Nat} (hb : ∀ N σ, SgB f N σ -> SgB f (N + b) (body σ)) : ∀ (k N : Nat) (σ : Sg), SgB f N σ -> SgB f (N + k * (1 + b)) (xH body s.cost s.term k σ)
 | 0, N, σ, h => by simpa [xH] using h
 | k + 1, N, σ, h => by
  unfold xH
  have h1 := h.cost ho
  rw [Nat.succ_mul]
  split
  . exact h1.mono (by omega)
  . exact (zbU ho hb k _ _ (hb _ _ h1)).mono (by omega)
theorem kV {f : Fl} {hs : List Int} (hg : ∀ v ∈ f.vars, ym (v.low, v.high)) (l : List St) : PreOk f l -> ∀ N σ, SgB f N σ -> SgB f (N + nbL l) (exL f hs l σ) := by
 induction l using zkX with
 | h l ih =>
 intro hp
 have key : ∀ r : List St, (∀ x ∈ r, x ∈ l) -> ∀ N σ, SgB f N σ -> SgB f (N + nbL r) (exL f hs r σ) := by
  intro r
  induction r with
  | nil => intro _ N σ h; exact h
  | cons x r ihr =>
   intro hm N σ h
   obtain ⟨⟨ho, hse, hn4⟩, hp1, hp2⟩ := hp.kids (hm x (znh ..))
   obtain ⟨i1, i2⟩ := ih x (hm x (znh ..))
   rw [exL, nbL, <- Nat.add_assoc]
   refine ihr (fun y hy => hm y (zng _ hy)) _ _ ?_
   rw [jg, zd8]
   split
   ·
    split
    . exact (i1 hp1 _ _ (h.cost ho)).mono (by omega)
    . exact (i2 hp2 _ _ (h.cost ho)).mono (by omega)
   ·
    split
    . exact (zbU ho (i1 hp1) _ _ _ h).mono (by omega)
    ·
     obtain ⟨h1, h2, h3⟩ := zeH (hs := hs) hg ho hse h.inv ⟨h.t0, h.t1⟩ h.ol
     exact ⟨h1, h2.1, h2.2, h3⟩
 exact key l (fun x h => h)
theorem zav (f : Fl) (hs : List Int) : ∀ (a b : List St) (σ : Sg), exL f hs (a ++ b) σ = exL f hs b (exL f hs a σ)
 | [], _, _ => rfl
 | x :: r, b, σ => by rw [List.cons_append, exL, exL, zav f hs r b]
theorem jA : ∀ (a b : List St), nbL (a ++ b) = nbL a + nbL b
 | [], b => by rw [List.nil_append]; simp [nbL]
 | x :: r, b => by rw [List.cons_append, nbL, nbL, jA r b, Nat.add_assoc]
theorem zga (l : List St) (i : Nat) : nbL (l.take i) <= nbL l := by
 have := jA (l.take i) (l.drop i)
 rw [List.take_append_drop] at this
 omega
theorem zhu (s : St) : 1 <= nbS s := by
 rw [zd8]
 split
 . omega
 . split <;> omega
def zD (f : Fl) (r : Ins) : Int := if yi f ≠ 0 then yi f else zC f.vars r
theorem zb0 {f : Fl} (vd : Valid f) : PreOk f f.body := fun s hs => by
 obtain ⟨h1, h2, h3⟩ := vd.step s hs
 exact ⟨h1, h2, fun h => (h3 h).1⟩
theorem kW {f : Fl} {r : Ins} (h : zC f.vars r = 0) : SgB f 0 (qD f r) := ⟨zbT h, by dsimp only; omega, by dsimp only; omega, znC _⟩
end Go.Proofs.YtaenledoagbddaaGreatDoor
namespace Go.GL
theorem RFl.keep {D S : Nat -> Prop} {w w' : World} {f : Fl} {v1 v2 v3 : Value} (h : RFl D w f v1 v2 v3) (hk : Keep S w w') (hD : ∀ q, D q -> q < w.heap.size -> ¬ S q) : RFl D w' f v1 v2 v3 := ⟨h.vars.keep yZ hk hD, h.hatches.keep yE hk hD, h.body.keep ze hk hD⟩
end Go.GL
namespace Go.Proofs.YtaenledoagbddaaGreatDoor
open Go.GL
structure MachOk (w : World) (bm : Nat) (v1 v2 v3 vv hv ov : Value) (σ : Sg) : Prop where
 box : Blk w bm [v1, v2, v3, vv, hv, ov, .int .i64 σ.time] 158
 vals : w.ownsRow 0 3 1 vv σ.vals.length (σ.vals.map zd)
 outs : w.ownsRow 0 3 1 ov σ.outs.length (σ.outs.map zd)
 a1 : vv.ownBlock ≠ some bm
 a2 : ov.ownBlock ≠ some bm
 a3 : ∀ q, vv.ownBlock = some q -> ov.ownBlock ≠ some q
def qs (bm : Nat) (vv ov : Value) (q : Nat) : Prop := q = bm \/ vv.ownBlock = some q \/ ov.ownBlock = some q
abbrev qE (bm : Nat) (v1 v2 v3 vv hv ov : Value) (σ : Sg) : Hp := [(900, .own bm [v1, v2, v3, vv, hv, ov, .int .i64 σ.time] 158), (901, .row 3 1 vv σ.vals.length (σ.vals.map zd)), (902, .row 3 1 ov σ.outs.length (σ.outs.map zd))]
def MachPost (w w' : World) (bm : Nat) (v1 v2 v3 vv hv ov : Value) (σ' : Sg) : Prop := ∃ ov', MachOk w' bm v1 v2 v3 vv hv ov' σ' /\ Keep (qs bm vv ov) w w' /\ (ov'.ownBlock = ov.ownBlock \/ ∃ g, ov'.ownBlock = some g /\ w.heap.size <= g)
section
variable {w w' : World} {bm : Nat} {v1 v2 v3 vv hv ov : Value} {σ σ' : Sg}
theorem MachOk.lent (h : MachOk w bm v1 v2 v3 vv hv ov σ) : (∀ x ∈ qE bm v1 v2 v3 vv hv ov σ, x.2.holds w /\ x.2.loc /\ (∀ b, ¬ x.2.fz b) /\ ∀ q, x.2.S q -> q < w.heap.size) /\ (qE bm v1 v2 v3 vv hv ov σ).Pairwise (fun x y => ∀ q, x.2.S q -> ¬ y.2.S q) := by
 refine ⟨?_, ?_⟩
 ·
  intro x hx
  simp only [znt, List.not_mem_nil, or_false] at hx
  rcases hx with rfl | rfl | rfl
  . exact ⟨h.box, trivial, fun _ h => h, fun q hq => by have hq : q = bm := hq; rw [hq]; exact h.box.lt⟩
  . exact ⟨h.vals, trivial, fun _ h => h, fun q hq => xl h.vals hq⟩
  . exact ⟨h.outs, trivial, fun _ h => h, fun q hq => xl h.outs hq⟩
 ·
  refine List.pairwise_cons.2 ⟨fun x hx q hq hs => ?_, List.pairwise_cons.2 ⟨fun x hx q hq hs => ?_, List.pairwise_singleton _ _⟩⟩
  ·
   have hq : q = bm := hq
   subst hq
   simp only [znt, List.not_mem_nil, or_false] at hx
   rcases hx with rfl | rfl
   . exact h.a1 hs
   . exact h.a2 hs
  ·
   simp only [znt, List.not_mem_nil, or_false] at hx
   subst hx
   exact h.a3 q hq hs
theorem machHS {q : Nat} : HS (qE bm v1 v2 v3 vv hv ov σ) q ↔ qs bm vv ov q := by
 unfold HS qs
 constructor
 ·
  rintro ⟨x, hx, hq⟩
  simp only [znt, List.not_mem_nil, or_false] at hx
  rcases hx with rfl | rfl | rfl
  . exact .inl hq
  . exact .inr (.inl hq)
  . exact .inr (.inr hq)
 ·
  rintro (hq | hq | hq)
  . exact ⟨_, znh .., hq⟩
  . exact ⟨_, zng _ (znh ..), hq⟩
  . exact ⟨_, zng _ (zng _ (znh ..)), hq⟩
theorem jN {Bs : zH} {H : Hp} (hI : VI Bs H w) (h0 : zi H 900 = some (.own bm [v1, v2, v3, vv, hv, ov, .int .i64 σ.time] 158)) (h1 : zi H 901 = some (.row 3 1 vv σ.vals.length (σ.vals.map zd))) (h2 : zi H 902 = some (.row 3 1 ov σ.outs.length (σ.outs.map zd))) : MachOk w bm v1 v2 v3 vv hv ov σ :=
 ⟨hI.at 900 h0, hI.at 901 h1, hI.at 902 h2, fun h => zk hI.apart h0 h1 rfl bm rfl h, fun h => zk hI.apart h0 h2 rfl bm rfl h, fun q hq hs => zk hI.apart h1 h2 rfl q hq hs⟩
theorem kf {H : Hp} {σ0 : Sg} {ov0 : Value} {w0 : World} (hI : VI [(w0, HS (qE bm v1 v2 v3 vv hv ov0 σ0))] H w) (h0 : zi H 900 = some (.own bm [v1, v2, v3, vv, hv, ov, .int .i64 σ.time] 158)) (h1 : zi H 901 = some (.row 3 1 vv σ.vals.length (σ.vals.map zd))) (h2 : zi H 902 = some (.row 3 1 ov σ.outs.length (σ.outs.map zd))) (ho : ov.ownBlock = ov0.ownBlock \/ ∃ g, ov.ownBlock = some g /\ w0.heap.size <= g) : MachPost w0 w bm v1 v2 v3 vv hv ov0 σ :=
 ⟨ov, jN hI h0 h1 h2, hI.k0.mono fun _ _ hq => machHS.1 hq, ho⟩
theorem MachPost.hands {H : Hp} (hp : MachOk w' bm v1 v2 v3 vv hv ov σ') {ov0 : Value} (hk : Keep (qs bm vv ov0) w w') (ho : ov.ownBlock = ov0.ownBlock \/ ∃ g, ov.ownBlock = some g /\ w.heap.size <= g) (h0 : zi H 900 = some (.own bm [v1, v2, v3, vv, hv, ov0, .int .i64 σ.time] 158)) (h1 : zi H 901 = some (.row 3 1 vv σ.vals.length (σ.vals.map zd))) (h2 : zi H 902 = some (.row 3 1 ov0 σ.outs.length (σ.outs.map zd))) : Hands H [900, 901, 902] (qE bm v1 v2 v3 vv hv ov σ') w w' := by
 obtain ⟨g1, g2⟩ := hp.lent
 have i0 : ∀ q, q = bm -> InS H [900, 901, 902] q := fun q hq => ⟨_, zf h0, rfl, hq⟩
 have i1 : ∀ q, vv.ownBlock = some q -> InS H [900, 901, 902] q := fun q hq => ⟨_, zf h1, rfl, hq⟩
 have i2 : ∀ q, ov0.ownBlock = some q -> InS H [900, 901, 902] q := fun q hq => ⟨_, zf h2, rfl, hq⟩
 refine ⟨hk.mono fun q _ hq => hq.elim (i0 q) fun hq => hq.elim (i1 q) (i2 q), fun x hx => ?_, g2⟩
 obtain ⟨k1, k2, k3, k4⟩ := g1 x hx
 refine ⟨k1, k2, k3, fun q hq => ⟨?_, k4 q hq⟩⟩
 simp only [znt, List.not_mem_nil, or_false] at hx
 rcases hx with rfl | rfl | rfl
 . exact .inl (i0 q hq)
 . exact .inl (i1 q hq)
 ·
  rcases ho with ho | ⟨g, ho, hg⟩
  . exact .inl (i2 q (ho ▸ hq))
  ·
   have hq : ov.ownBlock = some q := hq
   rw [ho] at hq
   cases hq
   exact .inr hg
theorem qF {H : Hp} {f : FuncId} {args : Array Value} {n0 : Nat} {ov0 : Value} (hc : Calls Tryz.prog f args w (Ret fun r w' => r = .tuple #[] /\ MachPost w w' bm v1 v2 v3 vv hv ov0 σ')) (hsz : n0 <= w.heap.size) (h0 : zi H 900 = some (.own bm [v1, v2, v3, vv, hv, ov0, .int .i64 σ.time] 158)) (h1 : zi H 901 = some (.row 3 1 vv σ.vals.length (σ.vals.map zd))) (h2 : zi H 902 = some (.row 3 1 ov0 σ.outs.length (σ.outs.map zd))) : Calls Tryz.prog f args w (Ret fun r w' => ∃ ov', (r = .tuple #[] /\ (ov'.ownBlock = ov0.ownBlock \/ ∃ g, ov'.ownBlock = some g /\ n0 <= g)) /\ Hands H [900, 901, 902] (qE bm v1 v2 v3 vv hv ov' σ') w w') := by
 refine hc.mono ?_
 rintro e w' ⟨r, rfl, rfl, ov', hM, hk, ho⟩
 exact ⟨_, rfl, ov', ⟨rfl, ho.imp id fun ⟨g, h1, h2⟩ => ⟨g, h1, by omega⟩⟩, MachPost.hands hM hk ho h0 h1 h2⟩
theorem zik {H : Hp} {σ0 : Sg} {ov0 : Value} {w0 : World} {bo : Nat} (hI : VI [(w0, HS (qE bm v1 v2 v3 vv hv ov0 σ0))] H w) (h0 : zi H 900 = some (.own bm [v1, v2, v3, vv, hv, ov, .int .i64 σ.time] 158)) (h1 : zi H 901 = some (.row 3 1 vv σ.vals.length (σ.vals.map zd))) (h2 : zi H 902 = some (.row 3 1 ov σ.outs.length (σ.outs.map zd))) (hb : ov.ownBlock = some bo) : ov.ownBlock = ov0.ownBlock \/ ∃ g, ov.ownBlock = some g /\ w0.heap.size <= g := by
 rcases (hI.base _ (znh ..)).2 _ (zf h2) bo hb with h | h
 ·
  rcases machHS.1 h with h | h | h
  . exact absurd h (fun e => zk hI.apart h0 h2 O bm O (e ▸ hb))
  . exact absurd hb (zk hI.apart h1 h2 O bo h)
  . exact .inl (hb.trans h.symm)
 . exact .inr ⟨bo, hb, h⟩
def zil (f : Fl) (hs : List Int) (l : List St) : Prop := ∀ (N : Nat) (σ : Sg), SgB f N σ -> N + nbL l <= 100000 -> ∀ (Df Dh : Nat -> Prop) (w : World) (bm : Nat) (v1 v2 v3 vv hv ov lv : Value), (∀ q, Df q \/ Dh q -> q < w.heap.size) -> RFl Df w f v1 v2 v3 -> SlR 1 zt Dh w hv hs -> SlR 10 RSt Df w lv l -> MachOk w bm v1 v2 v3 vv hv ov σ -> (∀ q, qs bm vv ov q -> ¬ Df q /\ ¬ Dh q) ->
 Calls Tryz.prog 123 #[.pointer (some ⟨bm, 0, none⟩), lv] w (Ret fun r w' => r = .tuple #[] /\ MachPost w w' bm v1 v2 v3 vv hv ov (exL f hs l σ))
end
open Go.GL
theorem zeJ (f : Fl) (σ : Sg) (i0 : Int) (n : Int) (v1 v2 v3 vv hv ov : Value) (Df : Nat -> Prop) (bm : Nat) (W : World) (hf : RFl Df W f v1 v2 v3) (hM : MachOk W bm v1 v2 v3 vv hv ov σ) (hD : ∀ q, qs bm vv ov q -> ¬ Df q) (hi0 : 0 <= i0 /\ i0 < f.vars.length) (hl : σ.vals.length = f.vars.length) (hg : ∀ v ∈ f.vars, ym (v.low, v.high)) :
  Calls Tryz.prog 155 #[.pointer (some ⟨bm, 0, none⟩), .int .i64 i0, .int .i64 n] W (Ret fun r w' => r = .tuple #[] /\ MachPost W w' bm v1 v2 v3 vv hv ov { σ with vals := zak f.vars σ.vals i0 n }) := by
 obtain ⟨i, rfl⟩ : ∃ i : Nat, i0 = (i : Int) := ⟨i0.toNat, by omega⟩
 have hi : i < f.vars.length := by omega
 have hvs := hf.vars
 obtain ⟨av, cv, rfl⟩ := hvs.form
 have hmx := hvs.max
 have hlow : ∀ q, HS (qE bm (.slice av f.vars.length cv) v2 v3 vv hv ov σ) q -> ¬ Df q := fun q h => hD q (machHS.1 h)
 refine zlv Tryz.func155 O Tryz.ntmps155 O (zmi [(900, .own bm [.slice av f.vars.length cv, v2, v3, vv, hv, ov, .int .i64 σ.time] 158), (901, .row 3 1 vv σ.vals.length (σ.vals.map zd)), (902, .row 3 1 ov σ.outs.length (σ.outs.map zd))] hM.lent.1 hM.lent.2 ?_)
 refine zlK 0 900 0 O O ?_
 obtain ⟨x, he_x, hm_x⟩ := gE_ f.vars (i) (by omega)
 obtain ⟨b_x, o_x, c_x, ha_x, hd_x, hc_x, hR_x⟩ := hvs.atD he_x
 obtain rfl := hR_x
 refine zm1 1000 0 O O (fun h_ => by have h1_ := hlow _ h_; have h2_ := hd_x; first | omega | exact h1_ h2_) hc_x ?_
 have hgx := hg x hm_x
 have hse : zak f.vars σ.vals i n = σ.vals.set i (xQ n x.low x.high) := by unfold zak; rw [znz, he_x]
 refine zlP 901 O (by omega) ?_
 rintro bv cq rfl hcap_901
 refine Vw [900, 1000] [] O ?_
 refine Vd [0, 1, 2, 3, 4, 5, 6, 7, 8, 9, 10, 11, 15, 16, 17, 18, 19, 20] 0 (by kernel_rfl) O O O ?_
 refine VD.ix 12 1000 tR22 ts89 O (by kernel_rfl) O ha_x (by omega) (i) (rfl) O ?_
 refine Vd [13, 14] 0 (by kernel_rfl) O O O ?_
 refine VD.ix 21 1000 tR22 ts89 O (by kernel_rfl) O ha_x (by omega) (i) (rfl) O ?_
 refine Vd [22, 23] 0 (by kernel_rfl) O O O ?_
 refine zlU 24 0 Tryz.call152 O (by kernel_rfl) O O (fun w hI => xZ n x.low x.high w hgx.2.1) ?_
 refine Vb [25] 0 (by kernel_rfl) O O O (by omega) ?_
 refine zlS 26 901 0 (i) ts3 O (by kernel_rfl) O O (by omega) (by simp; omega) ?_
 refine zkr (by kernel_rfl) ?_
 refine zm2 901 O (e' := .row 3 1 (.slice (some ⟨bv, 0, none⟩) σ.vals.length cq) (zak f.vars σ.vals i n).length ((zak f.vars σ.vals i n).map zd)) (by rw [hse, List.map_set, List.length_set]) ?_
 refine zjV Tryz.results155 (fun w hI => ⟨_, rfl, rfl, kf hI O O O (.inl O)⟩)
theorem yV {a b c : Value} {n : Nat} (h : b.ownBlock = a.ownBlock \/ ∃ g, b.ownBlock = some g /\ n <= g) (h' : c.ownBlock = b.ownBlock \/ ∃ g, c.ownBlock = some g /\ n <= g) : c.ownBlock = a.ownBlock \/ ∃ g, c.ownBlock = some g /\ n <= g := by
 rcases h' with h' | h'
 . rw [h']; exact h
 . exact .inr h'
theorem yB {bm : Nat} {vv ov ov' : Value} {n : Nat} {D : Nat -> Prop} (h : ∀ q, qs bm vv ov q -> ¬ D q) (hD : ∀ q, D q -> q < n) (ho : ov'.ownBlock = ov.ownBlock \/ ∃ g, ov'.ownBlock = some g /\ n <= g) : ∀ q, qs bm vv ov' q -> ¬ D q := by
 rintro q (hq | hq | hq)
 . exact h q (.inl hq)
 . exact h q (.inr (.inl hq))
 ·
  rcases ho with ho | ⟨g, ho, hg⟩
  . exact h q (.inr (.inr (ho ▸ hq)))
  ·
   rw [ho] at hq
   cases hq
   exact fun hd => by have := hD q hd; omega
theorem zgb (f : Fl) (hs : List Int) (hg : ∀ v ∈ f.vars, ym (v.low, v.high)) (x : St) (ho : StepOk f x) (hn : 0 <= x.n) (hp : PreOk f x.thn) (ih : zil f hs x.thn) (N : Nat) (σ : Sg) (hB : SgB f N σ) (hN : N + x.n.toNat * (1 + nbL x.thn) <= 100000) (Df Dh : Nat -> Prop) (W : World) (bm : Nat) (v1 v2 v3 vv hv ov : Value) (hDb : ∀ q, Df q \/ Dh q -> q < W.heap.size) (hf : RFl Df W f v1 v2 v3) (hh : SlR 1 zt Dh W hv hs) (hM : MachOk W bm v1 v2 v3 vv hv ov σ) (hD : ∀ q, qs bm vv ov q -> ¬ Df q /\ ¬ Dh q)
  (ax : Option Addr) (nx : Nat) (bx : Option Addr) (mx : Nat) (ex : Option Addr) (ox : Nat) (fx : Option Addr) (px : Nat) (hk : SlR 3 RTm Df W (.slice ax x.term.kids.length nx) x.term.kids) (ht : SlR 10 RSt Df W (.slice bx x.thn.length mx) x.thn) :
  Calls Tryz.prog 154 #[.pointer (some ⟨bm, 0, none⟩), .agg #[.int .i64 x.act, .int .i64 x.cost, .int .i64 x.var, .int .i64 x.n, .int .i64 x.term.op, .int .i64 x.term.n, .slice ax x.term.kids.length nx, .slice bx x.thn.length mx, .slice ex x.els.length ox, .slice fx x.bounds.length px]] W (Ret fun r w' => r = .tuple #[] /\ MachPost W w' bm v1 v2 v3 vv hv ov (xH (exL f hs x.thn) x.cost x.term x.n.toNat σ)) := by
 have hDf : ∀ q, Df q -> q < W.heap.size := fun q h => hDb q (.inl h)
 have hDh : ∀ q, Dh q -> q < W.heap.size := fun q h => hDb q (.inr h)
 have hlow : ∀ q, Df q -> q < W.heap.size -> ¬ HS (qE bm v1 v2 v3 vv hv ov σ) q := fun q h _ h' => (hD q (machHS.1 h')).1 h
 have hlow2 : ∀ q, Dh q -> q < W.heap.size -> ¬ HS (qE bm v1 v2 v3 vv hv ov σ) q := fun q h _ h' => (hD q (machHS.1 h')).2 h
 refine zlu Tryz.func154 O Tryz.ntmps154 O (zmi [(900, .own bm [v1, v2, v3, vv, hv, ov, .int .i64 (σ).time] 158), (901, .row 3 1 vv (σ).vals.length ((σ).vals.map zd)), (902, .row 3 1 ov (σ).outs.length ((σ).outs.map zd))] hM.lent.1 hM.lent.2 ?_)
 refine zlK 0 900 0 O O ?_
 refine Vs 2 O ?_
 refine V.box 3 O O (fun b3 => ?_)
 refine Vs 10 O ?_
 refine zm3 (σ := Nat × Sg × Value) [0, 3, 5] [3] [0, 3] O (fun e ⟨k, s, ov'⟩ => (6, .int .i64 k) :: e) (fun e ⟨k, s, ov'⟩ => (900, .own bm [v1, v2, v3, vv, hv, ov', .int .i64 (s).time] 158) :: (901, .row 3 1 vv (s).vals.length ((s).vals.map zd)) :: (902, .row 3 1 ov' (s).outs.length ((s).outs.map zd)) :: e) (fun ⟨k, s, ov'⟩ => k <= x.n.toNat /\ xH (exL f hs x.thn) x.cost x.term (x.n.toNat - k) s = xH (exL f hs x.thn) x.cost x.term x.n.toNat σ /\ SgB f (N + k * (1 + nbL x.thn)) s /\ (ov'.ownBlock = ov.ownBlock \/ ∃ g, ov'.ownBlock = some g /\ W.heap.size <= g)) (fun ⟨k, s, ov'⟩ => x.n.toNat - k) ((0, σ, ov)) (zl4 O) (zl5 O) (fun _ => rfl) (fun _ => rfl) (fun _ => rfl) (⟨zns _, by rw [Nat.sub_zero], by rw [Nat.zero_mul]; exact hB, .inl rfl⟩) ?_
 rintro ⟨k, s, ov'⟩ ⟨hk1, hall, hsB, hov⟩
 show V _ _ _ _ _ ((6, .int .i64 k) :: _) _ ((900, .own bm [v1, v2, v3, vv, hv, ov', .int .i64 (s).time] 158) :: (901, .row 3 1 vv (s).vals.length ((s).vals.map zd)) :: (902, .row 3 1 ov' (s).outs.length ((s).outs.map zd)) :: _) _
 have hcost := ho.cost
 have ht0 := hsB.t0
 have ht1 := hsB.t1
 refine Vs 6 O ?_
 refine zjn O (fun hlt => ?_) (fun hlt => ?_)
 ·
  obtain ⟨m, hm⟩ : ∃ m, x.n.toNat - k = m + 1 := ⟨x.n.toNat - k - 1, by omega⟩
  have hm' : x.n.toNat - (k + 1) = m := by omega
  have hkn : (k + 1) * (1 + nbL x.thn) <= x.n.toNat * (1 + nbL x.thn) := Nat.mul_le_mul_right _ (by omega)
  rw [Nat.succ_mul] at hkn
  have hkb : k <= k * (1 + nbL x.thn) := Nat.le_mul_of_pos_right _ (by omega)
  rw [hm, xH] at hall
  have hs1' := hsB.cost ho
  refine Vs 5 O ?_
  refine Vw [3, 900] [9] O ?_
  refine Vb [0, 1, 2, 3, 4, 5, 6, 7, 8] 0 (by kernel_rfl) O O O (by omega) ?_
  refine Vl 9 O (by kernel_rfl) O ?_
  refine zks (by kernel_rfl) ?_
  refine Vs 3 O ?_
  refine Vw [3, 900] [] O ?_
  refine Vd [0, 1, 2, 3, 4, 5] 0 (by kernel_rfl) O O O ?_
  refine zlU 6 0 tc153 O (by kernel_rfl) O O (fun w hI => jf hg hsB.inv x.term ho.formed ho.ranged _ Df (fun _ => True) w _ (zkx zd (fun _ _ => rfl) (hI.at 901 O) (fun _ _ => trivial)) (RTm.put (hk.keep zl hI.k0 hlow))) ?_
  refine Vd [7] 0 (by kernel_rfl) O O O ?_
  refine zkr (by kernel_rfl) ?_
  refine Vs 1 O ?_
  refine zjn O (fun z => ?_) (fun z => ?_)
  ·
   rw [zno z] at hall
   rw [<- hall]
   refine Vs 6 O ?_
   refine zjY Tryz.results154 (fun w hI => ⟨_, rfl, rfl, kf hI O O O hov⟩)
  ·
   rw [znn z] at hall
   refine Vs 6 O ?_
   refine zmj [900, 901, 902] (Hn := fun ov'' : Value => [(900, .own bm [v1, v2, v3, vv, hv, ov'', .int .i64 (exL f hs x.thn { s with time := s.time + x.cost }).time] 158), (901, .row 3 1 vv (exL f hs x.thn { s with time := s.time + x.cost }).vals.length ((exL f hs x.thn { s with time := s.time + x.cost }).vals.map zd)), (902, .row 3 1 ov'' (exL f hs x.thn { s with time := s.time + x.cost }).outs.length ((exL f hs x.thn { s with time := s.time + x.cost }).outs.map zd))]) [(0, some (900, 0)), (3, some (3, 0)), (8, some (900, 0)), (9, some (900, 0)), (10, some (900, 6)), (12, some (3, 1)), (15, some (900, 0)), (16, some (900, 6)), (17, some (900, 0)), (18, some (900, 0)), (19, some (900, 3)), (21, some (3, 4)), (25, some (900, 0)), (26, some (3, 7))] Tryz.call123 O (fun _ _ => rfl) (fun _ => rfl) (fun w hI => qF (σ := { s with time := s.time + x.cost }) (ih _ { s with time := s.time + x.cost } hs1' (by omega) Df Dh w bm v1 v2 v3 vv hv ov' _ (fun q hq => Nat.lt_of_lt_of_le (hDb q hq) (hI.k0).size) (hf.keep hI.k0 hlow) (hh.keep za hI.k0 hlow2) (ht.keep ze hI.k0 hlow) (jN hI O O O) (fun q hq => ⟨yB (fun q h => (hD q h).1) hDf hov q hq, yB (fun q h => (hD q h).2) hDh hov q hq⟩)) (hI.k0).size O O O) ?_
   rintro _ ov'' ⟨rfl, hov2⟩
   refine Va 7 O (by omega) ?_
   refine zjy (⟨k + 1, _, ov''⟩) (zl4 O) (zl5 O) (⟨by omega, by rw [hm']; exact hall, (kV hg x.thn hp _ _ hs1').mono (by rw [Nat.succ_mul]; omega), yV hov hov2⟩) (by first | omega | (dsimp only; omega)) 0 O O
 ·
  have hkk : k = x.n.toNat := by omega
  rw [hkk, Nat.sub_self, xH] at hall
  rw [<- hall]
  refine Vs 4 O ?_
  refine zjV Tryz.results154 (fun w hI => ⟨_, rfl, rfl, kf hI O O O hov⟩)
theorem zhv (f : Fl) (hs : List Int) (hg : ∀ v ∈ f.vars, ym (v.low, v.high)) (hlen : hs.length = f.hatches.length) (_ : f.vars.length <= 1000) (l : List St) : PreOk f l -> zil f hs l := by
 induction l using zkX with
 | h l ih =>
 intro hp N σ hB hN Df Dh W bm v1 v2 v3 vv hv ov lv hDb hf hh hl hM hD
 obtain ⟨al, cl, rfl⟩ := hl.form
 obtain ⟨ahv, chv, rfl⟩ := hh.form
 have hlm := hl.max
 have hDf : ∀ q, Df q -> q < W.heap.size := fun q h => hDb q (.inl h)
 have hDh : ∀ q, Dh q -> q < W.heap.size := fun q h => hDb q (.inr h)
 have hlow : ∀ q, Df q -> q < W.heap.size -> ¬ HS (qE bm v1 v2 v3 vv (.slice ahv hs.length chv) ov σ) q := fun q h _ h' => (hD q (machHS.1 h')).1 h
 have hlow2 : ∀ q, Dh q -> q < W.heap.size -> ¬ HS (qE bm v1 v2 v3 vv (.slice ahv hs.length chv) ov σ) q := fun q h _ h' => (hD q (machHS.1 h')).2 h
 have hlow' : ∀ q, HS (qE bm v1 v2 v3 vv (.slice ahv hs.length chv) ov σ) q -> ¬ Df q := fun q h => (hD q (machHS.1 h)).1
 have hlow2' : ∀ q, HS (qE bm v1 v2 v3 vv (.slice ahv hs.length chv) ov σ) q -> ¬ Dh q := fun q h => (hD q (machHS.1 h)).2
 refine zlu Tryz.func123 O Tryz.ntmps123 O (zmi [(900, .own bm [v1, v2, v3, vv, .slice ahv hs.length chv, ov, .int .i64 (σ).time] 158), (901, .row 3 1 vv (σ).vals.length ((σ).vals.map zd)), (902, .row 3 1 ov (σ).outs.length ((σ).outs.map zd))] hM.lent.1 hM.lent.2 ?_)
 refine zlK 0 900 0 O O ?_
 refine Vs 8 O ?_
 refine zm3 (σ := Nat × Sg × Value) [0, 6, 7] [] [0] O (fun e ⟨i, s, ov'⟩ => (8, .int .i64 i) :: e) (fun e ⟨i, s, ov'⟩ => (900, .own bm [v1, v2, v3, vv, .slice ahv hs.length chv, ov', .int .i64 (s).time] 158) :: (901, .row 3 1 vv (s).vals.length ((s).vals.map zd)) :: (902, .row 3 1 ov' (s).outs.length ((s).outs.map zd)) :: e) (fun ⟨i, s, ov'⟩ => i <= l.length /\ s = exL f hs (l.take i) σ /\ SgB f (N + nbL (l.take i)) s /\ (ov'.ownBlock = ov.ownBlock \/ ∃ g, ov'.ownBlock = some g /\ W.heap.size <= g)) (fun ⟨i, s, ov'⟩ => l.length - i) ((0, σ, ov)) (zl4 O) (zl5 O) (fun _ => rfl) (fun _ => rfl) (fun _ => rfl) (⟨zns _, rfl, hB, .inl rfl⟩) ?_
 rintro ⟨i, s, ov'⟩ ⟨hi, hall, hsB, hov⟩
 show V _ _ _ _ _ ((8, .int .i64 i) :: _) _ ((900, .own bm [v1, v2, v3, vv, .slice ahv hs.length chv, ov', .int .i64 (s).time] 158) :: (901, .row 3 1 vv (s).vals.length ((s).vals.map zd)) :: (902, .row 3 1 ov' (s).outs.length ((s).outs.map zd)) :: _) _
 have ht0 := hsB.t0
 have ht1 := hsB.t1
 have hol := hsB.ol
 refine Vs 6 O ?_
 refine zjn O (fun hlt => ?_) (fun hlt => ?_)
 ·
  refine Vs 6 O ?_
  obtain ⟨x, he_x, hm_x⟩ := gE_ l (i) (by omega)
  obtain ⟨b_x, o_x, c_x, ha_x, hd_x, hc_x, hR_x⟩ := hl.atD he_x
  obtain ⟨v1_x, v2_x, v3_x, v4_x, rfl, hk_x, ht_x, hs_x, hb_x⟩ := hR_x.get
  obtain ⟨a1_x, n1_x, rfl⟩ := hk_x.form
  obtain ⟨a2_x, n2_x, rfl⟩ := ht_x.form
  obtain ⟨a3_x, n3_x, rfl⟩ := hs_x.form
  obtain ⟨a4_x, n4_x, rfl⟩ := hb_x.form
  refine zm1 1000 0 O O (fun h_ => by have h1_ := hlow' _ h_; have h2_ := hd_x; first | omega | exact h1_ h2_) hc_x ?_
  refine V.ix 1000 tR24 ts92 O ha_x (by omega) (_) (rfl) O ?_
  obtain ⟨⟨ho, hse, hn4⟩, hp1, hp2⟩ := hp.kids hm_x
  obtain ⟨i1, i2⟩ := ih x hm_x
  have hcost := ho.cost
  have hnx : nbL (l.take (i + 1)) = nbL (l.take i) + nbS x := by rw [zh he_x, jA]; rfl
  have hnl : nbL (l.take (i + 1)) <= nbL l := zga l (i + 1)
  have hnx1 := zhu x
  have hex : exL f hs (l.take (i + 1)) σ = exS f hs x s := by rw [zh he_x, zav, <- hall]; rfl
  have hnS := zd8 x
  have hinv : SgB f (N + nbL (l.take (i + 1))) (exS f hs x s) := by
   rw [<- hex]
   exact kV hg _ (fun s hs => hp s (by rw [<- List.take_append_drop (i + 1) l, qz]; simp [hs])) N σ hB
  have hs1' := hsB.cost ho
  have hi1 : i + 1 <= l.length := by omega
  refine Vs 1 O ?_
  refine V.alloc 5 tz92 O O (fun b5 => ?_)
  refine Vs 11 O ?_
  refine zjn O (fun a4 => ?_) (fun a4 => ?_)
  ·
   rw [znn (by omega), zno a4] at hnS
   have hx : exS f hs x s = xH (exL f hs x.thn) x.cost x.term x.n.toNat s := by rw [jg, znn (by omega), zno a4]
   refine Vs 4 O ?_
   refine zmj [900, 901, 902] (Hn := fun ov'' : Value => [(900, .own bm [v1, v2, v3, vv, .slice ahv hs.length chv, ov'', .int .i64 (xH (exL f hs x.thn) x.cost x.term x.n.toNat s).time] 158), (901, .row 3 1 vv (xH (exL f hs x.thn) x.cost x.term x.n.toNat s).vals.length ((xH (exL f hs x.thn) x.cost x.term x.n.toNat s).vals.map zd)), (902, .row 3 1 ov'' (xH (exL f hs x.thn) x.cost x.term x.n.toNat s).outs.length ((xH (exL f hs x.thn) x.cost x.term x.n.toNat s).outs.map zd))]) [(0, some (900, 0)), (5, some (5, 0)), (10, some (1000, 0)), (12, some (5, 0)), (15, some (900, 0))] Tryz.call154 O (fun _ _ => rfl) (fun _ => rfl) (fun w hI => qF (σ := s) (zgb f hs hg x ho (hn4 a4) hp1 (i1 hp1) _ s hsB (by omega) Df Dh w bm v1 v2 v3 vv _ ov' (fun q hq => Nat.lt_of_lt_of_le (hDb q hq) (hI.k0).size) (hf.keep hI.k0 hlow) (hh.keep za hI.k0 hlow2) (jN hI O O O) (fun q hq => ⟨yB (fun q h => (hD q h).1) hDf hov q hq, yB (fun q h => (hD q h).2) hDh hov q hq⟩) _ _ _ _ _ _ _ _ (hk_x.keep zl hI.k0 hlow) (ht_x.keep ze hI.k0 hlow)) (hI.k0).size O O O) ?_
   rintro _ ov'' ⟨rfl, hov2⟩
   refine Va 10 O (by omega) ?_
   refine zjy (⟨i + 1, _, ov''⟩) (zl4 O) (zl5 O) (⟨hi1, by rw [hex, hx], by rw [<- hx]; exact hinv, yV hov hov2⟩) (by first | omega | (dsimp only; omega)) 0 O O
  ·
   refine Vs 3 O ?_
   refine Vw [900, 1000, 5] [9] O ?_
   refine Vb [0, 1, 2, 3, 4, 5, 6, 7, 8] 0 (by kernel_rfl) O O O (by omega) ?_
   refine Vl 9 O (by kernel_rfl) O ?_
   refine zks (by kernel_rfl) ?_
   refine Vs 14 O ?_
   refine zjn O (fun a0 => ?_) (fun a0 => ?_)
   ·
    have hx : exS f hs x s = { s with vals := zak f.vars s.vals x.var (xS s.vals x.term), time := s.time + x.cost } := by rw [jg, znn (by omega), znn a4]; unfold qC; rw [zno a0]
    have hvar := ho.var (.inl a0)
    refine Vw [1000, 5] [] O ?_
    refine Vd [0, 1, 2, 3, 4, 5, 7, 8] 0 (by kernel_rfl) O O O ?_
    refine Vo 6 0 O (by kernel_rfl) O O ?_
    refine zlU 9 0 tc153 O (by kernel_rfl) O O (fun w hI => jf hg hsB.inv x.term ho.formed ho.ranged _ Df (fun _ => True) w _ (zkx zd (fun _ _ => rfl) (hI.at 901 O) (fun _ _ => trivial)) (RTm.put (hk_x.keep zl hI.k0 hlow))) ?_
    refine zmk 10 0 [900, 901, 902] (Hn := fun ov'' : Value => [(900, .own bm [v1, v2, v3, vv, .slice ahv hs.length chv, ov'', .int .i64 ({ s with vals := zak f.vars s.vals x.var (xS s.vals x.term), time := s.time + x.cost }).time] 158), (901, .row 3 1 vv ({ s with vals := zak f.vars s.vals x.var (xS s.vals x.term), time := s.time + x.cost }).vals.length (({ s with vals := zak f.vars s.vals x.var (xS s.vals x.term), time := s.time + x.cost }).vals.map zd)), (902, .row 3 1 ov'' ({ s with vals := zak f.vars s.vals x.var (xS s.vals x.term), time := s.time + x.cost }).outs.length (({ s with vals := zak f.vars s.vals x.var (xS s.vals x.term), time := s.time + x.cost }).outs.map zd))]) [(0, some (900, 0)), (5, some (5, 0)), (10, some (1000, 0)), (12, some (5, 0)), (18, some (900, 0)), (19, some (900, 0)), (20, some (900, 6)), (22, some (5, 1)), (25, some (900, 0)), (26, some (900, 6)), (27, some (5, 0)), (31, some (900, 0)), (32, some (5, 2)), (34, some (900, 0)), (35, some (900, 0)), (36, some (900, 3)), (38, some (5, 4))] Tryz.call155 O (by kernel_rfl) O O (fun _ => rfl) (fun _ _ => rfl) (fun _ => rfl) (fun w hI => qF (σ := { s with time := s.time + x.cost }) (zeJ f { s with time := s.time + x.cost } x.var (xS s.vals x.term) v1 v2 v3 vv _ ov' Df bm w (hf.keep hI.k0 hlow) (jN hI O O O) (yB (fun q h => (hD q h).1) hDf hov) hvar hsB.inv.len hg) (hI.k0).size O O O) ?_
    rintro _ ov'' ⟨rfl, hov2⟩
    refine zkr (by kernel_rfl) ?_
    refine Va 7 O (by omega) ?_
    refine zjy (⟨i + 1, _, ov''⟩) (zl4 O) (zl5 O) (⟨hi1, by rw [hex, hx], by rw [<- hx]; exact hinv, yV hov hov2⟩) (by first | omega | (dsimp only; omega)) 0 O O
   ·
    refine Vs 6 O ?_
    refine zjn O (fun a1 => ?_) (fun a1 => ?_)
    ·
     have hx : exS f hs x s = { s with outs := s.outs ++ [xS s.vals x.term], time := s.time + x.cost } := by rw [jg, znn (by omega), znn a4]; unfold qC; rw [znn a0, zno a1]
     refine Vw [900, 1000, 5] [16] O ?_
     refine Vd [0, 1, 2, 3, 4, 5, 6, 7, 8, 9, 10] 0 (by kernel_rfl) O O O ?_
     refine zlU 11 0 tc153 O (by kernel_rfl) O O (fun w hI => jf hg hsB.inv x.term ho.formed ho.ranged _ Df (fun _ => True) w _ (zkx zd (fun _ _ => rfl) (hI.at 901 O) (fun _ _ => trivial)) (RTm.put (hk_x.keep zl hI.k0 hlow))) ?_
     refine zm7 12 56 0 [(0, _)] tR27 ts3 tz3 (by decide) O (by kernel_rfl) O O (by kernel_rfl) (fun b56 => ?_)
     refine zlO 13 902 56 0 tu27 Tryz.el3 O (by decide) O (by kernel_rfl) O O O (by omega) (by omega) (fun u902 => ?_)
     refine Vd [14, 15] 0 (by kernel_rfl) O O O ?_
     refine zlQ 902 O (by omega) ?_
     rintro bo co rfl hcap_902
     refine Vl 16 O (by kernel_rfl) O ?_
     refine zks (by kernel_rfl) ?_
     refine Va 7 O (by omega) ?_
     refine zm2 902 O (e' := .row 3 1 (.slice (some ⟨bo, 0, none⟩) (s.outs.length + 1) co) (s.outs ++ [xS s.vals x.term]).length ((s.outs ++ [xS s.vals x.term]).map zd)) (by rw [znl, List.map_append]; rfl) ?_
     refine zlF (p := (Value.slice (some ⟨bo, 0, none⟩) (s.outs.length + 1) co).ownBlock = ov.ownBlock \/ ∃ g, (Value.slice (some ⟨bo, 0, none⟩) (s.outs.length + 1) co).ownBlock = some g /\ W.heap.size <= g) (fun w hI => zik (σ := { s with outs := s.outs ++ [xS s.vals x.term], time := s.time + x.cost }) hI O O O O) (fun hov2 => ?_)
     refine zjy (⟨i + 1, { s with outs := s.outs ++ [xS s.vals x.term], time := s.time + x.cost }, _⟩) (zl4 O) (zl5 O) (⟨hi1, by rw [hex, hx], by rw [<- hx]; exact hinv, hov2⟩) (by first | omega | (dsimp only; omega)) 0 O O
    ·
     refine Vs 6 O ?_
     refine zjn O (fun a3 => ?_) (fun a3 => ?_)
     ·
      have hx := jg f hs x s
      rw [zno a3] at hx
      rw [zno a3] at hnS
      refine Vs 1 O ?_
      refine Vw [900, 1000, 5] [] O ?_
      refine Vd [0, 1, 2, 3, 4, 5] 0 (by kernel_rfl) O O O ?_
      refine zlU 6 0 tc153 O (by kernel_rfl) O O (fun w hI => jf hg hsB.inv x.term ho.formed ho.ranged _ Df (fun _ => True) w _ (zkx zd (fun _ _ => rfl) (hI.at 901 O) (fun _ _ => trivial)) (RTm.put (hk_x.keep zl hI.k0 hlow))) ?_
      refine Vd [7] 0 (by kernel_rfl) O O O ?_
      refine zkr (by kernel_rfl) ?_
      refine Vs 1 O ?_
      refine zjn O (fun z => ?_) (fun z => ?_)
      ·
       rw [zno z] at hx
       refine Vs 4 O ?_
       refine zmj [900, 901, 902] (Hn := fun ov'' : Value => [(900, .own bm [v1, v2, v3, vv, .slice ahv hs.length chv, ov'', .int .i64 (exL f hs x.thn { s with time := s.time + x.cost }).time] 158), (901, .row 3 1 vv (exL f hs x.thn { s with time := s.time + x.cost }).vals.length ((exL f hs x.thn { s with time := s.time + x.cost }).vals.map zd)), (902, .row 3 1 ov'' (exL f hs x.thn { s with time := s.time + x.cost }).outs.length ((exL f hs x.thn { s with time := s.time + x.cost }).outs.map zd))]) [(0, some (900, 0)), (5, some (5, 0)), (10, some (1000, 0)), (12, some (5, 0)), (18, some (900, 0)), (19, some (900, 0)), (20, some (900, 6)), (22, some (5, 1)), (25, some (900, 0)), (26, some (900, 6)), (27, some (5, 0)), (62, some (900, 0)), (63, some (900, 0)), (64, some (900, 3)), (66, some (5, 4)), (70, some (900, 0)), (71, some (5, 7))] Tryz.call123 O (fun _ _ => rfl) (fun _ => rfl) (fun w hI => qF (σ := { s with time := s.time + x.cost }) (i1 hp1 _ { s with time := s.time + x.cost } hs1' (by omega) Df Dh w bm v1 v2 v3 vv _ ov' _ (fun q hq => Nat.lt_of_lt_of_le (hDb q hq) (hI.k0).size) (hf.keep hI.k0 hlow) (hh.keep za hI.k0 hlow2) (ht_x.keep ze hI.k0 hlow) (jN hI O O O) (fun q hq => ⟨yB (fun q h => (hD q h).1) hDf hov q hq, yB (fun q h => (hD q h).2) hDh hov q hq⟩)) (hI.k0).size O O O) ?_
       rintro _ ov'' ⟨rfl, hov2⟩
       refine Va 8 O (by omega) ?_
       refine zjy (⟨i + 1, _, ov''⟩) (zl4 O) (zl5 O) (⟨hi1, by rw [hex, hx], by rw [<- hx]; exact hinv, yV hov hov2⟩) (by first | omega | (dsimp only; omega)) 0 O O
      ·
       rw [znn z] at hx
       refine Vs 4 O ?_
       refine zmj [900, 901, 902] (Hn := fun ov'' : Value => [(900, .own bm [v1, v2, v3, vv, .slice ahv hs.length chv, ov'', .int .i64 (exL f hs x.els { s with time := s.time + x.cost }).time] 158), (901, .row 3 1 vv (exL f hs x.els { s with time := s.time + x.cost }).vals.length ((exL f hs x.els { s with time := s.time + x.cost }).vals.map zd)), (902, .row 3 1 ov'' (exL f hs x.els { s with time := s.time + x.cost }).outs.length ((exL f hs x.els { s with time := s.time + x.cost }).outs.map zd))]) [(0, some (900, 0)), (5, some (5, 0)), (10, some (1000, 0)), (12, some (5, 0)), (18, some (900, 0)), (19, some (900, 0)), (20, some (900, 6)), (22, some (5, 1)), (25, some (900, 0)), (26, some (900, 6)), (27, some (5, 0)), (62, some (900, 0)), (63, some (900, 0)), (64, some (900, 3)), (66, some (5, 4)), (74, some (900, 0)), (75, some (5, 8))] Tryz.call123 O (fun _ _ => rfl) (fun _ => rfl) (fun w hI => qF (σ := { s with time := s.time + x.cost }) (i2 hp2 _ { s with time := s.time + x.cost } hs1' (by omega) Df Dh w bm v1 v2 v3 vv _ ov' _ (fun q hq => Nat.lt_of_lt_of_le (hDb q hq) (hI.k0).size) (hf.keep hI.k0 hlow) (hh.keep za hI.k0 hlow2) (hs_x.keep ze hI.k0 hlow) (jN hI O O O) (fun q hq => ⟨yB (fun q h => (hD q h).1) hDf hov q hq, yB (fun q h => (hD q h).2) hDh hov q hq⟩)) (hI.k0).size O O O) ?_
       rintro _ ov'' ⟨rfl, hov2⟩
       refine Va 8 O (by omega) ?_
       refine zjy (⟨i + 1, _, ov''⟩) (zl4 O) (zl5 O) (⟨hi1, by rw [hex, hx], by rw [<- hx]; exact hinv, yV hov hov2⟩) (by first | omega | (dsimp only; omega)) 0 O O
     ·
      refine Vs 6 O ?_
      refine zjn O (fun a5 => ?_) (fun a5 => ?_)
      ·
       have hx : exS f hs x s = { s with vals := zak f.vars s.vals x.var (lki hs x.n.toNat), time := s.time + x.cost } := by rw [jg, znn (by omega), znn a4]; unfold qC; rw [znn a0, znn a1, zno a5]
       have hvar := ho.var (.inr a5)
       have hnum := ho.num a5
       obtain ⟨y, he_y, hm_y⟩ := gE_ hs (x.n.toNat) (by omega)
       obtain ⟨b_y, o_y, c_y, ha_y, hd_y, hc_y, hR_y⟩ := hh.atD he_y
       obtain rfl := hR_y
       refine zm1 2000 0 O O (fun h_ => by have h1_ := hlow2' _ h_; have h2_ := hd_y; first | omega | exact h1_ h2_) hc_y ?_
       have hy : lki hs x.n.toNat = y := zgU he_y
       rw [hy] at hx
       refine Vw [1000, 5, 2000] [] O ?_
       refine Vd [0, 1, 2, 3, 4, 5, 7, 8] 0 (by kernel_rfl) O O O ?_
       refine Vo 6 0 O (by kernel_rfl) O O ?_
       refine VD.ix 9 2000 tR27 ts3 O (by kernel_rfl) O ha_y (by omega) (x.n.toNat) (by omega) O ?_
       refine Vd [10] 0 (by kernel_rfl) O O O ?_
       refine zmk 11 0 [900, 901, 902] (Hn := fun ov'' : Value => [(900, .own bm [v1, v2, v3, vv, .slice ahv hs.length chv, ov'', .int .i64 ({ s with vals := zak f.vars s.vals x.var (y), time := s.time + x.cost }).time] 158), (901, .row 3 1 vv ({ s with vals := zak f.vars s.vals x.var (y), time := s.time + x.cost }).vals.length (({ s with vals := zak f.vars s.vals x.var (y), time := s.time + x.cost }).vals.map zd)), (902, .row 3 1 ov'' ({ s with vals := zak f.vars s.vals x.var (y), time := s.time + x.cost }).outs.length (({ s with vals := zak f.vars s.vals x.var (y), time := s.time + x.cost }).outs.map zd))]) [(0, some (900, 0)), (5, some (5, 0)), (10, some (1000, 0)), (12, some (5, 0)), (18, some (900, 0)), (19, some (900, 0)), (20, some (900, 6)), (22, some (5, 1)), (25, some (900, 0)), (26, some (900, 6)), (27, some (5, 0)), (80, some (900, 0)), (81, some (5, 2)), (83, some (900, 0)), (84, some (900, 0)), (85, some (900, 4)), (87, some (5, 3)), (89, some (2000, 0))] Tryz.call155 O (by kernel_rfl) O O (fun _ => rfl) (fun _ _ => rfl) (fun _ => rfl) (fun w hI => qF (σ := { s with time := s.time + x.cost }) (zeJ f { s with time := s.time + x.cost } x.var (y) v1 v2 v3 vv _ ov' Df bm w (hf.keep hI.k0 hlow) (jN hI O O O) (yB (fun q h => (hD q h).1) hDf hov) hvar hsB.inv.len hg) (hI.k0).size O O O) ?_
       rintro _ ov'' ⟨rfl, hov2⟩
       refine zkr (by kernel_rfl) ?_
       refine Va 7 O (by omega) ?_
       refine zjy (⟨i + 1, _, ov''⟩) (zl4 O) (zl5 O) (⟨hi1, by rw [hex, hx], by rw [<- hx]; exact hinv, yV hov hov2⟩) (by first | omega | (dsimp only; omega)) 0 O O
      ·
       refine Vs 6 O ?_
       refine zjn O (fun a6 => ?_) (fun a6 => ?_)
       ·
        have hx : exS f hs x s = { s with time := qf x.bounds (s.time + x.cost) } := by rw [jg, znn (by omega), znn a4]; unfold qC; rw [znn a0, znn a1, znn a5, zno a6]
        refine Vw [900, 1000, 5] [10] O ?_
        refine Vd [0, 1, 2, 3, 4, 5, 6] 0 (by kernel_rfl) O O O ?_
        refine zlU 7 0 Tryz.call156 O (by kernel_rfl) O O (fun w hI => zaj x.bounds (s.time + x.cost) _ Df w (hb_x.keep za hI.k0 hlow)) ?_
        refine Vd [8, 9] 0 (by kernel_rfl) O O O ?_
        refine Vl 10 O (by kernel_rfl) O ?_
        refine zks (by kernel_rfl) ?_
        refine Va 7 O (by omega) ?_
        refine zjy (⟨i + 1, { s with time := qf x.bounds (s.time + x.cost) }, ov'⟩) (zl4 O) (zl5 O) (⟨hi1, by rw [hex, hx], by rw [<- hx]; exact hinv, hov⟩) (by first | omega | (dsimp only; omega)) 0 O O
       ·
        have hx : exS f hs x s = { s with time := s.time + x.cost } := by rw [jg, znn (by omega), znn a4]; unfold qC; rw [znn a0, znn a1, znn a5, znn a6]
        refine Va 8 O (by omega) ?_
        refine zjy (⟨i + 1, { s with time := s.time + x.cost }, ov'⟩) (zl4 O) (zl5 O) (⟨hi1, by rw [hex, hx], by rw [<- hx]; exact hinv, hov⟩) (by first | omega | (dsimp only; omega)) 0 O O
 ·
  have hii : i = l.length := by omega
  subst hii
  rw [zni] at hall
  subst hall
  refine Vs 4 O ?_
  refine zjV Tryz.results123 (fun w hI => ⟨_, rfl, rfl, kf hI O O O hov⟩)
end Go.Proofs.YtaenledoagbddaaGreatDoor
