/-
  Contracts and the mathematics that the proof needs. Nothing here is a claim.
-/
import Derived.Test.YtbkhagigkglgoaaGreatDoorKU3
namespace Go.Proofs.YtbkhagigkglgoaaGreatDoor
open Go.GL
def RNew (cs : List Value) (e : TypeId) : World -> Value -> World -> Prop := fun a v a' => ∃ b, v = .pointer (some ⟨b, 0, none⟩) /\ New a cs e b a'
theorem RNew.ext {cs : List Value} {e : TypeId} {a a' : World} {v : Value} (h : RNew cs e a v a') : Ext a a' := by obtain ⟨_, _, h⟩ := h; obtain ⟨_, _, _, h⟩ := h; exact h
theorem RNew.apart {cs cs' : List Value} {e e' : TypeId} {v u : Value} {b c : Nat} (h : zgT (RNew cs e) v (RNew cs' e') u) (hb : v = .pointer (some ⟨b, 0, none⟩)) (hc : u = .pointer (some ⟨c, 0, none⟩)) : b ≠ c := by
 rcases h with ⟨a, a', d, d', ⟨b1, e1, g1, s1, _, _⟩, ⟨c1, e2, g2, s2, _, _⟩, hk⟩ | ⟨a, a', d, d', ⟨b1, e1, g1, s1, _, _⟩, ⟨c1, e2, g2, s2, _, _⟩, hk⟩
 . rw [hb] at e1; rw [hc] at e2; cases e1; cases e2; have := hk.size; omega
 . rw [hb] at e1; rw [hc] at e2; cases e1; cases e2; have := hk.size; omega
theorem zfI (vs : List Vr) (nh : Nat) (l : List St) : ∀ (v : Value) (D : Nat -> Prop) (w : World) (top : Bool), zb vs nh l top = 0 -> SlR 10 RSt D w v l -> zr l <= 1000000 -> Calls Tryz.prog 161 #[v] w (Ret fun r w' => r = .agg #[.int .i64 (cap 1099511627776 (bds l).1), .int .i64 (cap 1099511627776 (bds l).2.1), .int .i64 (cap 1099511627776 (bds l).2.2)] /\ Ext w w') := by
 induction l using zk9 with
 | h l ih =>
 intro v D w top hok hl hb
 have hmx := hl.max
 obtain ⟨av, nv, rfl⟩ := hl.form
 have hl0 := hl
 have hE := Keep.refl (fun _ => False) w
 refine zkG Tryz.func161 O Tryz.ntmps161 O (Gs 2 O (zjs O O (M.alloc (cs := _) tz223 O) ?_))
 rintro _ w_r ⟨r, rfl, hg_r, hs_r, hB_r, hk_r⟩
 have hge_r : _ <= r := zme hE.size (Nat.le_of_eq hg_r.symm)
 obtain ⟨hE, hl⟩ := Tr2 hk_r hE hl
 refine Gs 4 O (zjs O O (M.alloc (cs := _) tz223 O) ?_)
 rintro _ w_o ⟨o, rfl, hg_o, hs_o, hB_o, hk_o⟩
 have hn_r_o : r ≠ o := by have := hB_r.lt; omega
 have hge_o : _ <= o := zme hE.size (Nat.le_of_eq hg_o.symm)
 obtain ⟨hE, hl, hB_r⟩ := Tr3 hk_o hE hl hB_r
 refine Gs 11 O ?_
 have hk0 := Keep.refl (fun q => q = o) w_o
 refine G.loop (σ := Nat) (fun i => [(2, .pointer (some ⟨r, 0, none⟩)), (3, .pointer (some ⟨o, 0, none⟩)), (9, .slice av l.length nv), (10, .int .i64 l.length), (11, .int .i64 i)]) (fun i => fun w' => i <= l.length /\ Blk w' o [.int .i64 (cap 1099511627776 (bds (l.take i)).1), .int .i64 (cap 1099511627776 (bds (l.take i)).2.1), .int .i64 (cap 1099511627776 (bds (l.take i)).2.2)] 223 /\ Blk w' r [.int .i64 0, .int .i64 0, .int .i64 0] 223 /\ Ext w w') (fun i => l.length - i) (0) (zkg O) (⟨Nat.zero_le _, hB_o, hB_r, hE⟩) ?_
 rintro i w1 ⟨hi, hB_o, hB_r, hE⟩
 have hl := hl0.ext zd hE
 refine Gs 6 O (ziA O (fun hlt => ?_) (fun hlt => ?_))
 ·
  obtain ⟨x, he_x, hm_x⟩ := gE_ l (i) (by omega)
  obtain ⟨b_x, o_x, c_x, ha_x, _, hc_x, hR_x⟩ := hl.at he_x
  have h1_x := RSt.one hR_x
  obtain ⟨v1_x, v2_x, v3_x, v4_x, rfl, hk_x, ht_x, hs_x, hb_x⟩ := hR_x.get
  obtain ⟨a1_x, n1_x, rfl⟩ := hk_x.form
  obtain ⟨a2_x, n2_x, rfl⟩ := ht_x.form
  obtain ⟨a3_x, n3_x, rfl⟩ := hs_x.form
  obtain ⟨a4_x, n4_x, rfl⟩ := hb_x.form
  have hlt_x : b_x < _ := zma _ _ (hc_x 0 _ rfl)
  have htk := zdd he_x
  have htk1 : (bds (l.take (i + 1))).1 = (bds (l.take i)).1 + (yh x).1 := by rw [htk]
  have htk2 : (bds (l.take (i + 1))).2.1 = (bds (l.take i)).2.1 + (yh x).2.1 := by rw [htk]
  have htk3 : (bds (l.take (i + 1))).2.2 = (bds (l.take i)).2.2 + (yh x).2.2 := by rw [htk]
  have hpre : 0 <= (bds (l.take i)).1 /\ 0 <= (bds (l.take i)).2.1 /\ 0 <= (bds (l.take i)).2.2 := zeu hok i
  obtain ⟨last, hx0⟩ := xl l top hok x hm_x
  obtain ⟨hS, _, _, hs1, hs2⟩ := xN hx0
  have hcost := hS.cost
  have n1 := yA x.thn _ hs1
  have n2 := yA x.els _ hs2
  have y := jQ hx0
  have hbx := qa hm_x
  rw [St.bulk_eq] at hbx
  refine Gs 6 O (zkw O O (zjj tR54 ts134 O O ha_x (by omega)) (zkC O tg134 ts134 hc_x O (zjs O O (M.alloc (cs := _) tz134 O) ?_)))
  rintro _ wa1 ⟨c, rfl, hg_c, hs_c, hB_c, hk_c⟩
  refine zjv O (zjw ts134 O O O O h1_x hB_c (by simp)) ?_
  rintro w_c ⟨_, hB_c, hkk_c⟩
  replace hk_c := hk_c.trans hkk_c (fun q hq h => by have h : q = c := h; omega)
  have hn_r_c : r ≠ c := by have := hB_r.lt; omega
  have hn_o_c : o ≠ c := by have := hB_o.lt; omega
  have hge_c : _ <= c := zme hE.size (Nat.le_of_eq hg_c.symm)
  obtain ⟨hE, hl, hB_r, hB_o, hc_x, hk_x, ht_x⟩ := Tr7 hk_c hE hl hB_r hB_o hc_x hk_x ht_x
  obtain ⟨hs_x, hb_x⟩ := Tr2 hk_c hs_x hb_x
  refine Gs 5 O (zkA O tg3 (hB_c.cells 1 _ O) (zkw O O (R.build (v := .agg #[.int .i64 1, .int .i64 0, .int .i64 x.cost]) [(0, _), (2, _)] O (fun _ => by kernel_rfl)) (zjs O O (M.alloc (cs := _) tz223 O) ?_)))
  rintro _ wa2 ⟨p, rfl, hg_p, hs_p, hB_p, hk_p⟩
  refine zjv O (zjw ts223 O O O O (by simp [Value.oneCell']) hB_p (by simp)) ?_
  rintro w_p ⟨_, hB_p, hkk_p⟩
  replace hk_p := hk_p.trans hkk_p (fun q hq h => by have h : q = p := h; omega)
  have hn_r_p : r ≠ p := by have := hB_r.lt; omega
  have hn_o_p : o ≠ p := by have := hB_o.lt; omega
  have hn_c_p : c ≠ p := by have := hB_c.lt; omega
  have hge_p : _ <= p := zme hE.size (Nat.le_of_eq hg_p.symm)
  obtain ⟨hE, hl, hB_r, hB_o, hk_x, ht_x, hs_x⟩ := Tr7 hk_p hE hl hB_r hB_o hk_x ht_x hs_x
  obtain ⟨hb_x, hB_c⟩ := Tr2 hk_p hb_x hB_c
  refine Gs 3 O ?_
  have hlr : r < w_p.heap.size := hB_r.lt
  have hlo : o < w_p.heap.size := hB_o.lt
  have hlc : c < w_p.heap.size := hB_c.lt
  have hlp : p < w_p.heap.size := hB_p.lt
  refine Dw (fun q => Ext w_p q) [] (fun wd0 hD _ => (Ds [0] (by kernel_rfl) O (WD.take 1 O (by kernel_rfl) O O O hD (fun w1 hw1 => R.load tg54 O ((hw1.blk hB_c (fun h => h)).cells 7 _ O)) (Ds [3] (by kernel_rfl) O (WD.take 4 O (by kernel_rfl) O O O hD (fun w1 hw1 => R.load tg54 O ((hw1.blk hB_c (fun h => h)).cells 8 _ O)) ?_)))))
  refine zlJ (fuel := 2) (L3 := #[true, true, true, true, true, true, true, true, false, false]) [⟨2, _, 20, fun a v a' => v = .agg #[.int .i64 (cap 1099511627776 (bds x.thn).1), .int .i64 (cap 1099511627776 (bds x.thn).2.1), .int .i64 (cap 1099511627776 (bds x.thn).2.2)] /\ Ext a a'⟩, ⟨5, _, 23, fun a v a' => v = .agg #[.int .i64 (cap 1099511627776 (bds x.els).1), .int .i64 (cap 1099511627776 (bds x.els).2.1), .int .i64 (cap 1099511627776 (bds x.els).2.2)] /\ Ext a a'⟩, ⟨6, _, 7, RNew [.int .i64 0, .int .i64 0, .int .i64 0] 223⟩, ⟨7, _, 8, RNew [.int .i64 0, .int .i64 0, .int .i64 0] 223⟩]
   (List.forall_mem_cons.2 ⟨⟨rfl, rfl, rfl, rfl, rfl⟩, List.forall_mem_cons.2 ⟨⟨rfl, rfl, rfl, rfl, rfl⟩, List.forall_mem_cons.2 ⟨⟨rfl, rfl, rfl, rfl, rfl⟩, List.forall_mem_cons.2 ⟨⟨rfl, rfl, rfl, rfl, rfl⟩, by simp⟩⟩⟩⟩)
   (show List.Nodup [20, 23, 7, 8] by decide) (show List.Nodup [2, 5, 6, 7] by decide) (by kernel_rfl) (fun w' h => hD.ext h) ?_ ?_ ?_
  . refine List.forall_mem_cons.2 ⟨fun a v a' h => h.2, List.forall_mem_cons.2 ⟨fun a v a' h => h.2, List.forall_mem_cons.2 ⟨fun a v a' h => h.ext, List.forall_mem_cons.2 ⟨fun a v a' h => h.ext, by simp⟩⟩⟩⟩
  . refine List.forall_mem_cons.2 ⟨fun w' h => Does.call (F.call (vs := [_]) Tryz.call161 O) ((ih x hm_x).1 _ _ _ _ hs1 (ht_x.ext zd (hD.ext h)) (by omega)), List.forall_mem_cons.2 ⟨fun w' h => Does.call (F.call (vs := [_]) Tryz.call161 O) ((ih x hm_x).2 _ _ _ _ hs2 (hs_x.ext zd (hD.ext h)) (by omega)), List.forall_mem_cons.2 ⟨fun w' h => zkf (M.alloc (cs := _) tz223 O), List.forall_mem_cons.2 ⟨fun w' h => zkf (M.alloc (cs := _) tz223 O), by simp⟩⟩⟩⟩
  intro val wm hEm hmade hap
  obtain ⟨_, _, _, ⟨e2, _⟩, _⟩ := hmade _ (zmc ..)
  obtain ⟨_, _, _, ⟨e5, _⟩, _⟩ := hmade _ (zmb _ (zmc ..))
  obtain ⟨a6, a6', h61, ⟨t, e6, hg6, hs6, hB6, hk6⟩, h62⟩ := hmade _ (zmb _ (zmb _ (zmc ..)))
  obtain ⟨a7, a7', h71, ⟨u, e7, hg7, hs7, hB7, hk7⟩, h72⟩ := hmade _ (zmb _ (zmb _ (zmb _ (zmc ..))))
  have hn_t_u : t ≠ u := RNew.apart (hap _ (zmb _ (zmb _ (zmc ..))) _ (zmb _ (zmb _ (zmb _ (zmc ..)))) (show (7 : Nat) ≠ 8 by decide)) e6 e7
  have hgt : w_p.heap.size <= t := by have := hD.size; have := h61.size; omega
  have hgu : w_p.heap.size <= u := by have := hD.size; have := h71.size; omega
  have hB_t := h62.blk hB6 (fun h => h)
  have hB_u := h72.blk hB7 (fun h => h)
  replace hD := hD.ext hEm
  have hn_r_t : r ≠ t := by omega
  have hn_r_u : r ≠ u := by omega
  have hn_o_t : o ≠ t := by omega
  have hn_o_u : o ≠ u := by omega
  have hn_c_t : c ≠ t := by omega
  have hn_c_u : c ≠ u := by omega
  have hn_p_t : p ≠ t := by omega
  have hn_p_u : p ≠ u := by omega
  show WD _ _ _ _ _ _ _ _ ((20, val 20) :: (23, val 23) :: (7, val 7) :: (8, val 8) :: _) _
  rw [e2, e5, e6, e7]
  refine zju 8 O (by kernel_rfl) O O (zjw ts223 O O O O (by simp [Value.oneCell']) hB_t (by simp)) ?_
  rintro ws1 ⟨_, hB_t, hs1⟩
  replace hB_u := hs1.blk hB_u (fun h => hn_t_u h.symm)
  replace hD := hD.trans hs1 (fun q hq h => by have h : q = t := h; omega)
  refine ⟨fun _ => hD, ?_⟩
  refine zju 9 O (by kernel_rfl) O O (zjw ts223 O O O O (by simp [Value.oneCell']) hB_u (by simp)) ?_
  rintro ws2 ⟨_, hB_u, hs2⟩
  replace hB_t := hs2.blk hB_t hn_t_u
  replace hD := hD.trans hs2 (fun q hq h => by have h : q = u := h; omega)
  refine ⟨fun _ => hD, ?_⟩
  refine zjH (by kernel_rfl) ?_ _
  obtain ⟨hE, hl, hB_r, hB_o, hk_x, ht_x, hs_x⟩ := Tr7 hD hE hl hB_r hB_o hk_x ht_x hs_x
  obtain ⟨hb_x, hB_c, hB_p⟩ := Tr3 hD hb_x hB_c hB_p
  have hge_t : w.heap.size <= t := by have := hE.size; omega
  have hge_u : w.heap.size <= u := by have := hE.size; omega
  have r1 := zD n1.1 (show (0:Int) <= 1099511627776 by decide)
  have r2 := zD n1.2.1 (show (0:Int) <= 1099511627776 by decide)
  have r3 := zD n1.2.2 (show (0:Int) <= 1099511627776 by decide)
  have r4 := zD n2.1 (show (0:Int) <= 1099511627776 by decide)
  have r5 := zD n2.2.1 (show (0:Int) <= 1099511627776 by decide)
  have r6 := zD n2.2.2 (show (0:Int) <= 1099511627776 by decide)
  have t1 := zD hpre.1 (show (0:Int) <= 1099511627776 by decide)
  have t2 := zD hpre.2.1 (show (0:Int) <= 1099511627776 by decide)
  have t3 := zD hpre.2.2 (show (0:Int) <= 1099511627776 by decide)
  refine Gs 5 O (zkA O tg128 (hB_c.cells 0 _ O) (Gs 9 O (ziA O (fun a1 => ?_) (fun a1 => ?_))))
  ·
   obtain ⟨g1, g2⟩ := hS.free (by omega) (by omega)
   have eB : yh x = (1, 1, x.cost) := by rw [zV, g1, g2, if_neg (by omega)]; simp [bds, a1]
   have f1 : cap 1099511627776 1 = cap 1099511627776 (yh x).1 := by rw [eB]
   have f2 : cap 1099511627776 1 = cap 1099511627776 (yh x).2.1 := by rw [eB]
   have f3 : cap 1099511627776 x.cost = cap 1099511627776 (yh x).2.2 := by rw [eB]
   have z1 : (0 : Int) <= 1 := by decide
   have z2 : (0 : Int) <= 1 := by decide
   have z3 := hcost.1
   refine Gs 2 O (zjv O (M.store ts3 O O O O hB_p (by simp)) ?_)
   rintro ws3 ⟨_, hB_p, hs3⟩
   replace hE := hE.trans hs3 (fun q hq h => by have h : q = p := h; omega)
   replace hB_r := hs3.blk hB_r hn_r_p
   replace hB_o := hs3.blk hB_o hn_o_p
   replace hB_c := hs3.blk hB_c hn_c_p
   replace hB_t := hs3.blk hB_t (fun h => hn_p_t h.symm)
   replace hB_u := hs3.blk hB_u (fun h => hn_p_u h.symm)
   refine Gs 6 O (zkA O tg3 (hB_o.cells 0 _ O) (Gs 1 O (zkA O tg3 (hB_p.cells 0 _ O) (Ga 3 O (by omega) (zjv O (M.store ts3 O O O O hB_o (by simp)) ?_)))))
   rintro ws4 ⟨_, hB_o, hs4⟩
   replace hE := hE.trans hs4 (fun q hq h => by have h : q = o := h; omega)
   replace hB_r := hs4.blk hB_r hn_r_o
   replace hB_c := hs4.blk hB_c (fun h => hn_o_c h.symm)
   replace hB_p := hs4.blk hB_p (fun h => hn_o_p h.symm)
   replace hB_t := hs4.blk hB_t (fun h => hn_o_t h.symm)
   replace hB_u := hs4.blk hB_u (fun h => hn_o_u h.symm)
   refine Gs 5 O (zkA O tg3 (hB_o.cells 1 _ O) (Gs 1 O (zkA O tg3 (hB_p.cells 1 _ O) (Ga 3 O (by omega) (zjv O (M.store ts3 O O O O hB_o (by simp)) ?_)))))
   rintro ws5 ⟨_, hB_o, hs5⟩
   replace hE := hE.trans hs5 (fun q hq h => by have h : q = o := h; omega)
   replace hB_r := hs5.blk hB_r hn_r_o
   replace hB_c := hs5.blk hB_c (fun h => hn_o_c h.symm)
   replace hB_p := hs5.blk hB_p (fun h => hn_o_p h.symm)
   replace hB_t := hs5.blk hB_t (fun h => hn_o_t h.symm)
   replace hB_u := hs5.blk hB_u (fun h => hn_o_u h.symm)
   refine Gs 4 O (zkA O tg3 (hB_o.cells 2 _ O) (Gs 1 O (zkA O tg3 (hB_p.cells 2 _ O) (Ga 3 O (by omega) (zjv O (M.store ts3 O O O O hB_o (by simp)) ?_)))))
   rintro ws6 ⟨_, hB_o, hs6⟩
   replace hE := hE.trans hs6 (fun q hq h => by have h : q = o := h; omega)
   replace hB_r := hs6.blk hB_r hn_r_o
   replace hB_c := hs6.blk hB_c (fun h => hn_o_c h.symm)
   replace hB_p := hs6.blk hB_p (fun h => hn_o_p h.symm)
   replace hB_t := hs6.blk hB_t (fun h => hn_o_t h.symm)
   replace hB_u := hs6.blk hB_u (fun h => hn_o_u h.symm)
   refine Ga 7 O (by omega) (ziL (i + 1) (zkg O) (⟨by omega, by rw [htk1, htk2, htk3, <- zX hpre.1 y.1 z1 f1, <- zX hpre.2.1 y.2.1 z2 f2, <- zX hpre.2.2 y.2.2 z3 f3]; exact hB_o, hB_r, hE⟩) (by first | omega | (dsimp only; omega)))
  ·
   refine Gs 6 O (ziA O (fun a3 => ?_) (fun a3 => ?_))
   ·
    have n4 : ¬ x.act = 4 := by omega
    have f1 : cap 1099511627776 (1 + max (cap 1099511627776 (bds x.thn).1) (cap 1099511627776 (bds x.els).1)) = cap 1099511627776 (yh x).1 := by rw [zV, if_neg n4]; exact zb4 (by omega) n1.1 n2.1
    have f2 : cap 1099511627776 (max (cap 1099511627776 (bds x.thn).2.1) (cap 1099511627776 (bds x.els).2.1)) = cap 1099511627776 (yh x).2.1 := by rw [zV, if_neg n4]; simp only [a1, if_false]; exact zde n1.2.1 n2.2.1
    have f3 : cap 1099511627776 (x.cost + max (cap 1099511627776 (bds x.thn).2.2) (cap 1099511627776 (bds x.els).2.2)) = cap 1099511627776 (yh x).2.2 := by rw [zV, if_neg n4]; exact zb4 hcost.1 n1.2.2 n2.2.2
    have z1 : 0 <= 1 + max (cap 1099511627776 (bds x.thn).1) (cap 1099511627776 (bds x.els).1) := by omega
    have z2 : 0 <= max (cap 1099511627776 (bds x.thn).2.1) (cap 1099511627776 (bds x.els).2.1) := by omega
    have z3 : 0 <= x.cost + max (cap 1099511627776 (bds x.thn).2.2) (cap 1099511627776 (bds x.els).2.2) := by omega
    refine Gs 3 O (zkA O tg3 (hB_p.cells 0 _ O) (Gs 1 O (zkA O tg3 (hB_t.cells 0 _ O) (Gs 1 O (zkA O tg3 (hB_u.cells 0 _ O) (Ga 3 O (by omega) (zjv O (M.store ts3 O O O O hB_p (by simp)) ?_)))))))
    rintro ws7 ⟨_, hB_p, hs7⟩
    replace hE := hE.trans hs7 (fun q hq h => by have h : q = p := h; omega)
    replace hB_r := hs7.blk hB_r hn_r_p
    replace hB_o := hs7.blk hB_o hn_o_p
    replace hB_c := hs7.blk hB_c hn_c_p
    replace hB_t := hs7.blk hB_t (fun h => hn_p_t h.symm)
    replace hB_u := hs7.blk hB_u (fun h => hn_p_u h.symm)
    refine Gs 5 O (zkA O tg3 (hB_t.cells 1 _ O) (Gs 1 O (zkA O tg3 (hB_u.cells 1 _ O) (Gs 2 O (zjv O (M.store ts3 O O O O hB_p (by simp)) ?_)))))
    rintro ws8 ⟨_, hB_p, hs8⟩
    replace hE := hE.trans hs8 (fun q hq h => by have h : q = p := h; omega)
    replace hB_r := hs8.blk hB_r hn_r_p
    replace hB_o := hs8.blk hB_o hn_o_p
    replace hB_c := hs8.blk hB_c hn_c_p
    replace hB_t := hs8.blk hB_t (fun h => hn_p_t h.symm)
    replace hB_u := hs8.blk hB_u (fun h => hn_p_u h.symm)
    refine Gs 4 O (zkA O tg3 (hB_p.cells 2 _ O) (Gs 1 O (zkA O tg3 (hB_t.cells 2 _ O) (Gs 1 O (zkA O tg3 (hB_u.cells 2 _ O) (Ga 3 O (by omega) (zjv O (M.store ts3 O O O O hB_p (by simp)) ?_)))))))
    rintro ws9 ⟨_, hB_p, hs9⟩
    replace hE := hE.trans hs9 (fun q hq h => by have h : q = p := h; omega)
    replace hB_r := hs9.blk hB_r hn_r_p
    replace hB_o := hs9.blk hB_o hn_o_p
    replace hB_c := hs9.blk hB_c hn_c_p
    replace hB_t := hs9.blk hB_t (fun h => hn_p_t h.symm)
    replace hB_u := hs9.blk hB_u (fun h => hn_p_u h.symm)
    refine Gs 6 O (zkA O tg3 (hB_o.cells 0 _ O) (Gs 1 O (zkA O tg3 (hB_p.cells 0 _ O) (Ga 3 O (by omega) (zjv O (M.store ts3 O O O O hB_o (by simp)) ?_)))))
    rintro ws10 ⟨_, hB_o, hs10⟩
    replace hE := hE.trans hs10 (fun q hq h => by have h : q = o := h; omega)
    replace hB_r := hs10.blk hB_r hn_r_o
    replace hB_c := hs10.blk hB_c (fun h => hn_o_c h.symm)
    replace hB_p := hs10.blk hB_p (fun h => hn_o_p h.symm)
    replace hB_t := hs10.blk hB_t (fun h => hn_o_t h.symm)
    replace hB_u := hs10.blk hB_u (fun h => hn_o_u h.symm)
    refine Gs 5 O (zkA O tg3 (hB_o.cells 1 _ O) (Gs 1 O (zkA O tg3 (hB_p.cells 1 _ O) (Ga 3 O (by omega) (zjv O (M.store ts3 O O O O hB_o (by simp)) ?_)))))
    rintro ws11 ⟨_, hB_o, hs11⟩
    replace hE := hE.trans hs11 (fun q hq h => by have h : q = o := h; omega)
    replace hB_r := hs11.blk hB_r hn_r_o
    replace hB_c := hs11.blk hB_c (fun h => hn_o_c h.symm)
    replace hB_p := hs11.blk hB_p (fun h => hn_o_p h.symm)
    replace hB_t := hs11.blk hB_t (fun h => hn_o_t h.symm)
    replace hB_u := hs11.blk hB_u (fun h => hn_o_u h.symm)
    refine Gs 4 O (zkA O tg3 (hB_o.cells 2 _ O) (Gs 1 O (zkA O tg3 (hB_p.cells 2 _ O) (Ga 3 O (by omega) (zjv O (M.store ts3 O O O O hB_o (by simp)) ?_)))))
    rintro ws12 ⟨_, hB_o, hs12⟩
    replace hE := hE.trans hs12 (fun q hq h => by have h : q = o := h; omega)
    replace hB_r := hs12.blk hB_r hn_r_o
    replace hB_c := hs12.blk hB_c (fun h => hn_o_c h.symm)
    replace hB_p := hs12.blk hB_p (fun h => hn_o_p h.symm)
    replace hB_t := hs12.blk hB_t (fun h => hn_o_t h.symm)
    replace hB_u := hs12.blk hB_u (fun h => hn_o_u h.symm)
    refine Ga 7 O (by omega) (ziL (i + 1) (zkg O) (⟨by omega, by rw [htk1, htk2, htk3, <- zX hpre.1 y.1 z1 f1, <- zX hpre.2.1 y.2.1 z2 f2, <- zX hpre.2.2 y.2.2 z3 f3]; exact hB_o, hB_r, hE⟩) (by first | omega | (dsimp only; omega)))
   ·
    refine Gs 6 O (ziA O (fun a4 => ?_) (fun a4 => ?_))
    ·
     have hr := hS.rep a4
     have p1 := xB x.n (1 + cap 1099511627776 (bds x.thn).1) 4096 1099511627777 hr.1 hr.2.1 (by omega) (by omega)
     have p2 := xB x.n (cap 1099511627776 (bds x.thn).2.1) 4096 1099511627776 hr.1 hr.2.1 (by omega) (by omega)
     have p3 := xB x.n (x.cost + cap 1099511627776 (bds x.thn).2.2) 4096 1099578736640 hr.1 hr.2.1 (by omega) (by omega)
     have q1 := Int.mul_nonneg hr.1 (show 0 <= 1 + (bds x.thn).1 by omega)
     have f1 : cap 1099511627776 (1 + x.n * (1 + cap 1099511627776 (bds x.thn).1)) = cap 1099511627776 (yh x).1 := by rw [zV, if_pos a4]; exact zet p1.1 q1 (za8 hr.1 (by omega) n1.1 (by omega))
     have f2 : cap 1099511627776 (x.n * cap 1099511627776 (bds x.thn).2.1) = cap 1099511627776 (yh x).2.1 := by rw [zV, if_pos a4]; exact zdf hr.1 n1.2.1 (by omega)
     have f3 : cap 1099511627776 (x.n * (x.cost + cap 1099511627776 (bds x.thn).2.2)) = cap 1099511627776 (yh x).2.2 := by rw [zV, if_pos a4]; exact za8 hr.1 hcost.1 n1.2.2 (by omega)
     have z1 : 0 <= 1 + x.n * (1 + cap 1099511627776 (bds x.thn).1) := by omega
     have z2 := p2.1
     have z3 := p3.1
     refine Gs 3 O (zkA O tg3 (hB_p.cells 0 _ O) (Gs 1 O (zkA O tg3 (hB_c.cells 3 _ O) (Gs 1 O (zkA O tg3 (hB_t.cells 0 _ O) (Ga 4 O (by omega) (zjv O (M.store ts3 O O O O hB_p (by simp)) ?_)))))))
     rintro ws13 ⟨_, hB_p, hs13⟩
     replace hE := hE.trans hs13 (fun q hq h => by have h : q = p := h; omega)
     replace hB_r := hs13.blk hB_r hn_r_p
     replace hB_o := hs13.blk hB_o hn_o_p
     replace hB_c := hs13.blk hB_c hn_c_p
     replace hB_t := hs13.blk hB_t (fun h => hn_p_t h.symm)
     replace hB_u := hs13.blk hB_u (fun h => hn_p_u h.symm)
     refine Gs 5 O (zkA O tg3 (hB_c.cells 3 _ O) (Gs 1 O (zkA O tg3 (hB_t.cells 1 _ O) (Ga 2 O (by omega) (zjv O (M.store ts3 O O O O hB_p (by simp)) ?_)))))
     rintro ws14 ⟨_, hB_p, hs14⟩
     replace hE := hE.trans hs14 (fun q hq h => by have h : q = p := h; omega)
     replace hB_r := hs14.blk hB_r hn_r_p
     replace hB_o := hs14.blk hB_o hn_o_p
     replace hB_c := hs14.blk hB_c hn_c_p
     replace hB_t := hs14.blk hB_t (fun h => hn_p_t h.symm)
     replace hB_u := hs14.blk hB_u (fun h => hn_p_u h.symm)
     refine Gs 4 O (zkA O tg3 (hB_c.cells 3 _ O) (Gs 1 O (zkA O tg3 (hB_c.cells 1 _ O) (Gs 1 O (zkA O tg3 (hB_t.cells 2 _ O) (Ga 3 O (by omega) (zjv O (M.store ts3 O O O O hB_p (by simp)) ?_)))))))
     rintro ws15 ⟨_, hB_p, hs15⟩
     replace hE := hE.trans hs15 (fun q hq h => by have h : q = p := h; omega)
     replace hB_r := hs15.blk hB_r hn_r_p
     replace hB_o := hs15.blk hB_o hn_o_p
     replace hB_c := hs15.blk hB_c hn_c_p
     replace hB_t := hs15.blk hB_t (fun h => hn_p_t h.symm)
     replace hB_u := hs15.blk hB_u (fun h => hn_p_u h.symm)
     refine Gs 6 O (zkA O tg3 (hB_o.cells 0 _ O) (Gs 1 O (zkA O tg3 (hB_p.cells 0 _ O) (Ga 3 O (by omega) (zjv O (M.store ts3 O O O O hB_o (by simp)) ?_)))))
     rintro ws16 ⟨_, hB_o, hs16⟩
     replace hE := hE.trans hs16 (fun q hq h => by have h : q = o := h; omega)
     replace hB_r := hs16.blk hB_r hn_r_o
     replace hB_c := hs16.blk hB_c (fun h => hn_o_c h.symm)
     replace hB_p := hs16.blk hB_p (fun h => hn_o_p h.symm)
     replace hB_t := hs16.blk hB_t (fun h => hn_o_t h.symm)
     replace hB_u := hs16.blk hB_u (fun h => hn_o_u h.symm)
     refine Gs 5 O (zkA O tg3 (hB_o.cells 1 _ O) (Gs 1 O (zkA O tg3 (hB_p.cells 1 _ O) (Ga 3 O (by omega) (zjv O (M.store ts3 O O O O hB_o (by simp)) ?_)))))
     rintro ws17 ⟨_, hB_o, hs17⟩
     replace hE := hE.trans hs17 (fun q hq h => by have h : q = o := h; omega)
     replace hB_r := hs17.blk hB_r hn_r_o
     replace hB_c := hs17.blk hB_c (fun h => hn_o_c h.symm)
     replace hB_p := hs17.blk hB_p (fun h => hn_o_p h.symm)
     replace hB_t := hs17.blk hB_t (fun h => hn_o_t h.symm)
     replace hB_u := hs17.blk hB_u (fun h => hn_o_u h.symm)
     refine Gs 4 O (zkA O tg3 (hB_o.cells 2 _ O) (Gs 1 O (zkA O tg3 (hB_p.cells 2 _ O) (Ga 3 O (by omega) (zjv O (M.store ts3 O O O O hB_o (by simp)) ?_)))))
     rintro ws18 ⟨_, hB_o, hs18⟩
     replace hE := hE.trans hs18 (fun q hq h => by have h : q = o := h; omega)
     replace hB_r := hs18.blk hB_r hn_r_o
     replace hB_c := hs18.blk hB_c (fun h => hn_o_c h.symm)
     replace hB_p := hs18.blk hB_p (fun h => hn_o_p h.symm)
     replace hB_t := hs18.blk hB_t (fun h => hn_o_t h.symm)
     replace hB_u := hs18.blk hB_u (fun h => hn_o_u h.symm)
     refine Ga 7 O (by omega) (ziL (i + 1) (zkg O) (⟨by omega, by rw [htk1, htk2, htk3, <- zX hpre.1 y.1 z1 f1, <- zX hpre.2.1 y.2.1 z2 f2, <- zX hpre.2.2 y.2.2 z3 f3]; exact hB_o, hB_r, hE⟩) (by first | omega | (dsimp only; omega)))
    ·
     obtain ⟨g1, g2⟩ := hS.free a3 a4
     have eB : yh x = (1, 0, x.cost) := by rw [zV, g1, g2, if_neg a4]; simp [bds, a1]
     have f1 : cap 1099511627776 1 = cap 1099511627776 (yh x).1 := by rw [eB]
     have f2 : cap 1099511627776 0 = cap 1099511627776 (yh x).2.1 := by rw [eB]
     have f3 : cap 1099511627776 x.cost = cap 1099511627776 (yh x).2.2 := by rw [eB]
     have z1 : (0 : Int) <= 1 := by decide
     have z2 : (0 : Int) <= 0 := by decide
     have z3 := hcost.1
     refine Gs 6 O (zkA O tg3 (hB_o.cells 0 _ O) (Gs 1 O (zkA O tg3 (hB_p.cells 0 _ O) (Ga 3 O (by omega) (zjv O (M.store ts3 O O O O hB_o (by simp)) ?_)))))
     rintro ws19 ⟨_, hB_o, hs19⟩
     replace hE := hE.trans hs19 (fun q hq h => by have h : q = o := h; omega)
     replace hB_r := hs19.blk hB_r hn_r_o
     replace hB_c := hs19.blk hB_c (fun h => hn_o_c h.symm)
     replace hB_p := hs19.blk hB_p (fun h => hn_o_p h.symm)
     replace hB_t := hs19.blk hB_t (fun h => hn_o_t h.symm)
     replace hB_u := hs19.blk hB_u (fun h => hn_o_u h.symm)
     refine Gs 5 O (zkA O tg3 (hB_o.cells 1 _ O) (Gs 1 O (zkA O tg3 (hB_p.cells 1 _ O) (Ga 3 O (by omega) (zjv O (M.store ts3 O O O O hB_o (by simp)) ?_)))))
     rintro ws20 ⟨_, hB_o, hs20⟩
     replace hE := hE.trans hs20 (fun q hq h => by have h : q = o := h; omega)
     replace hB_r := hs20.blk hB_r hn_r_o
     replace hB_c := hs20.blk hB_c (fun h => hn_o_c h.symm)
     replace hB_p := hs20.blk hB_p (fun h => hn_o_p h.symm)
     replace hB_t := hs20.blk hB_t (fun h => hn_o_t h.symm)
     replace hB_u := hs20.blk hB_u (fun h => hn_o_u h.symm)
     refine Gs 4 O (zkA O tg3 (hB_o.cells 2 _ O) (Gs 1 O (zkA O tg3 (hB_p.cells 2 _ O) (Ga 3 O (by omega) (zjv O (M.store ts3 O O O O hB_o (by simp)) ?_)))))
     rintro ws21 ⟨_, hB_o, hs21⟩
     replace hE := hE.trans hs21 (fun q hq h => by have h : q = o := h; omega)
     replace hB_r := hs21.blk hB_r hn_r_o
     replace hB_c := hs21.blk hB_c (fun h => hn_o_c h.symm)
     replace hB_p := hs21.blk hB_p (fun h => hn_o_p h.symm)
     replace hB_t := hs21.blk hB_t (fun h => hn_o_t h.symm)
     replace hB_u := hs21.blk hB_u (fun h => hn_o_u h.symm)
     refine Ga 7 O (by omega) (ziL (i + 1) (zkg O) (⟨by omega, by rw [htk1, htk2, htk3, <- zX hpre.1 y.1 z1 f1, <- zX hpre.2.1 y.2.1 z2 f2, <- zX hpre.2.2 y.2.2 z3 f3]; exact hB_o, hB_r, hE⟩) (by first | omega | (dsimp only; omega)))
 ·
  have hii : i = l.length := by omega
  subst hii
  rw [zmd] at hB_o
  refine Gs 7 O (zkC O Tryz.isAgg223 ts223 hB_o.cells O (zjv O (zjw ts223 O O O O (by simp [Value.oneCell']) hB_r (by simp)) ?_))
  rintro wf ⟨_, hBf, hkf⟩
  refine Gs 3 O (zj2 Tryz.results161 O (zn Tryz.isAgg223 ts223 O hBf.cells) ?_)
  exact ⟨_, rfl, rfl, hE.trans hkf (fun q hq h => by have h : q = r := h; omega)⟩
def yX (f : Fl) : Bool := decide (f.vars.length <= 64) && decide (f.hatches.length <= 8) && f.hatches.all (fun h => decide (h.term.depth <= 12)) && (decide (zI f.body <= 12) && !zY f.body)
theorem zcG (f : Fl) (v1 v2 v3 : Value) (D : Nat -> Prop) (w : World) (hf : RFl D w f v1 v2 v3) (hsz : zj f.body + zB f.hatches <= 1024) : Calls Tryz.prog 76 #[.agg #[v1, v2, v3]] w (Ret fun r w' => r = .bool (yX f) /\ Ext w w') := by
 obtain ⟨hvs, hhs, hbd⟩ := hf
 have hm1 := hvs.max
 have hm2 := hhs.max
 obtain ⟨a1, n1, rfl⟩ := hvs.form
 obtain ⟨a2, n2, rfl⟩ := hhs.form
 have hE := Keep.refl (fun _ => False) w
 refine zkG Tryz.func76 O Tryz.ntmps76 O (Gs 2 O (zjs O O (M.box O O) ?_))
 rintro _ w_b ⟨b, rfl, hg_b, hs_b, hB_b, hk_b⟩
 have hge_b : _ <= b := zme hE.size (Nat.le_of_eq hg_b.symm)
 obtain ⟨hE, hvs, hhs, hbd⟩ := Tr4 hk_b hE hvs hhs hbd
 refine Gs 7 O (zkA O tg52 (hB_b.cells 0 _ O) (Gs 3 O (zkr 9 O (fun g1 => ?_) (fun g1 => ?_))))
 . refine Gs 15 O (ziU tr76 O ⟨_, rfl, by unfold yX; rw [decide_eq_false (show ¬ f.vars.length <= 64 by omega)]; rfl, hE⟩)
 ·
  refine Gs 1 O (zkA O tg53 (hB_b.cells 1 _ O) (Gs 5 O (ziA O (fun g2 => ?_) (fun g2 => ?_))))
  . refine Gs 7 O (ziU tr76 O ⟨_, rfl, by unfold yX; rw [decide_eq_false (show ¬ f.hatches.length <= 8 by omega), Bool.and_false]; rfl, hE⟩)
  ·
   have hpre : yX f = (f.hatches.all (fun h => decide (h.term.depth <= 12)) && (decide (zI f.body <= 12) && !zY f.body)) := by
    unfold yX; rw [decide_eq_true (show f.vars.length <= 64 by omega), decide_eq_true (show f.hatches.length <= 8 by omega)]; rfl
   refine Gs 5 O (zkA O tg54 (hB_b.cells 2 _ O) (G.call O Tryz.call103 (zcy f.body _ D _ hbd (by omega)) ?_))
   rintro _ wz1 ⟨rfl, hz1⟩
   obtain ⟨hE, hvs, hhs, hbd, hB_b⟩ := Tr5 hz1 hE hvs hhs hbd hB_b
   refine Gs 10 O (G.loop (σ := Nat) (fun i => [(1, .pointer (some ⟨b, 0, none⟩)), (3, .int .i64 ((zj f.body : Int) + zB (f.hatches.take i))), (4, .int .i64 i)]) (fun i => fun w' => i <= f.hatches.length /\ (f.hatches.take i).all (fun h => decide (h.term.depth <= 12)) = true /\ Ext wz1 w') (fun i => f.hatches.length - i) (0) (zkg O) (⟨Nat.zero_le _, rfl, Keep.refl _ _⟩) ?_)
   rintro i w1 ⟨hi, hall, hL1⟩
   obtain ⟨hE, hvs, hhs, hbd, hB_b⟩ := Tr5 hL1 hE hvs hhs hbd hB_b
   refine Gs 5 O (zkA O tg53 (hB_b.cells 1 _ O) (Gs 4 O (ziA O (fun hlt => ?_) (fun hlt => ?_))))
   ·
    obtain ⟨x, he_x, hm_x⟩ := gE_ f.hatches (i) (by omega)
    obtain ⟨b_x, o_x, c_x, ha_x, _, hc_x, hR_x⟩ := hhs.at he_x
    have h1_x := RHt.one hR_x
    obtain ⟨v1_x, rfl, hk_x⟩ := hR_x
    obtain ⟨a1_x, n1_x, rfl⟩ := hk_x.form
    have hlt_x : b_x < _ := zma _ _ (hc_x 0 _ rfl)
    have hsp := yQ he_x
    have htk := qJ he_x
    have hdn : x.term.depth <= x.term.nodes := by have := jL [x.term]; simp [ym, zJ] at this; exact this
    refine Gs 8 O (zkA O tg53 (hB_b.cells 1 _ O) (Gs 1 O (zkw O O (zjj tR53 ts137 O O ha_x (by omega)) (Gs 1 O (zkC O tg132 ts132 (hc_x.sub 3 3) O (G.call O Tryz.call104 (qc x.term _ D _ (RTm.put hk_x) (by omega)) ?_))))))
    rintro _ wz2 ⟨rfl, hz2⟩
    obtain ⟨hE, hvs, hhs, hbd, hB_b, hL1, hc_x⟩ := Tr7 hz2 hE hvs hhs hbd hB_b hL1 hc_x
    replace hk_x := Tr1 hz2 hk_x
    refine Ga 7 O (by omega) (zkA O tg53 (hB_b.cells 1 _ O) (Gs 1 O (zkw O O (zjj tR53 ts137 O O ha_x (by omega)) (Gs 1 O (zkC O tg132 ts132 (hc_x.sub 3 3) O (G.call O Tryz.call105 (qd x.term _ D _ (RTm.put hk_x) (by omega)) ?_))))))
    rintro _ wz3 ⟨rfl, hz3⟩
    obtain ⟨hE, hvs, hhs, hbd, hB_b, hL1, hc_x⟩ := Tr7 hz3 hE hvs hhs hbd hB_b hL1 hc_x
    replace hk_x := Tr1 hz3 hk_x
    refine Gs 3 O (ziA O (fun dd => ?_) (fun dd => ?_))
    ·
     have hfa : f.hatches.all (fun h => decide (h.term.depth <= 12)) = false := by
      rw [Bool.eq_false_iff]; intro h; have := List.all_eq_true.1 h x hm_x; simp at this; omega
     refine Gs 11 O (ziU tr76 O ⟨_, rfl, by rw [hpre, hfa, Bool.false_and], hE⟩)
    . refine Ga 8 O (by omega) (ziL (i + 1) (Sub.cons O (Sub.cons (xn O (by rw [htk]; omega)) (zkg O))) (⟨by omega, by rw [zg he_x, List.all_append, hall]; simp; omega, hL1⟩) (by first | omega | (dsimp only; omega)))
   ·
    have hii : i = f.hatches.length := by omega
    subst hii
    rw [zmd] at hall
    rw [hall, Bool.true_and] at hpre
    have hsd := qb f.body
    refine Gs 10 O (zkr 44 O (fun gn => ?_) (fun gn => ?_))
    ·
     refine Gs 1 O (zkA O tg54 (hB_b.cells 2 _ O) (G.call O Tryz.call106 (kU f.body _ D _ hbd (by omega)) ?_))
     rintro _ wz4 ⟨rfl, hz4⟩
     obtain ⟨hE, hvs, hhs, hbd, hB_b, hL1⟩ := Tr6 hz4 hE hvs hhs hbd hB_b hL1
     refine Gs 3 O (zkr 50 O (fun gd => ?_) (fun gd => ?_))
     ·
      refine Gs 1 O (zkA O tg54 (hB_b.cells 2 _ O) (G.call O Tryz.call107 (kV f.body _ D _ hbd (by omega)) ?_))
      rintro _ wz5 ⟨rfl, hz5⟩
      obtain ⟨hE, hvs, hhs, hbd, hB_b, hL1⟩ := Tr6 hz5 hE hvs hhs hbd hB_b hL1
      refine zkw O O (zk0 O (by first | exact za | rfl)) (Gs 5 O (ziU tr76 O ⟨_, rfl, by rw [hpre, decide_eq_true (show zI f.body <= 12 by omega)]; rfl, hE⟩))
     . refine Gs 9 O (ziU tr76 O ⟨_, rfl, by rw [hpre, decide_eq_false (show ¬ zI f.body <= 12 by omega)]; rfl, hE⟩)
    . exact absurd (by rw [zmd]; omega) gn
def zb5 (f : Fl) : Bool := decide (4096 < (bds f.body).1) || decide (8 < (bds f.body).2.1) || decide (67108864 < (bds f.body).2.2)
def zZ (f : Fl) : Int :=
 if yX f = false then 4
 else if zt f.vars ≠ 0 then zt f.vars
 else if zv f.vars f.hatches ≠ 0 then zv f.vars f.hatches
 else if zb f.vars f.hatches.length f.body true ≠ 0 then zb f.vars f.hatches.length f.body true
 else if zb5 f then 4 else 0
theorem zaa {vs : List Vr} (h : zt vs = 0) : ∀ v ∈ vs, yn (v.low, v.high) := by
 have h1 : ∀ j, j < vs.length -> ji vs j = 0 := by
  unfold zt at h
  split at h
  . rename_i h2; exact absurd h h2
  ·
   rename_i h2
   intro j hj
   exact yT vs.length 0 (by simpa using h2) j (Nat.zero_le _) (by omega)
 exact fun v hv => (xx h1 v hv).1
theorem zab (f : Fl) (v1 v2 v3 : Value) (D : Nat -> Prop) (w : World) (hf : RFl D w f v1 v2 v3) (hsz : zj f.body + zB f.hatches <= 1024) (hbk : zr f.body <= 1000000) : Calls Tryz.prog 42 #[.agg #[v1, v2, v3]] w (Ret fun r w' => r = .int .i64 (zZ f) /\ Ext w w') := by
 obtain ⟨hvs, hhs, hbd⟩ := hf
 have hm1 := hvs.max
 have hm2 := hhs.max
 obtain ⟨a1, n1, rfl⟩ := hvs.form
 obtain ⟨a2, n2, rfl⟩ := hhs.form
 have hE := Keep.refl (fun _ => False) w
 refine zkG Tryz.func42 O Tryz.ntmps42 O (Gs 2 O (zjs O O (M.box O O) ?_))
 rintro _ w_b ⟨b, rfl, hg_b, hs_b, hB_b, hk_b⟩
 have hge_b : _ <= b := zme hE.size (Nat.le_of_eq hg_b.symm)
 obtain ⟨hE, hvs, hhs, hbd⟩ := Tr4 hk_b hE hvs hhs hbd
 refine Gs 6 O (zkC O tg56 ts56 hB_b.cells O (G.call O Tryz.call76 (zcG f _ _ _ D _ ⟨hvs, hhs, hbd⟩ hsz) ?_))
 rintro _ wz1 ⟨rfl, hz1⟩
 obtain ⟨hE, hvs, hhs, hbd, hB_b⟩ := Tr5 hz1 hE hvs hhs hbd hB_b
 refine zkw O O (zk0 O (by first | exact za | rfl)) (Gs 2 O (G.bool O (fun s0 => ?_) (fun s0 => ?_)))
 ·
  have s0' : yX f = false := by simpa using s0
  refine Gs 7 O (ziU tr42 O ⟨_, rfl, by rw [zZ, if_pos s0'], hE⟩)
 ·
  have s0' : ¬ yX f = false := by simpa using s0
  refine Gs 5 O (zkA O tg52 (hB_b.cells 0 _ O) (G.call O Tryz.call77 (za6 f.vars _ D _ hvs) ?_))
  rintro _ wz2 ⟨rfl, hz2⟩
  obtain ⟨hE, hvs, hhs, hbd, hB_b⟩ := Tr5 hz2 hE hvs hhs hbd hB_b
  refine Gs 10 O (ziA O (fun vz => ?_) (fun vz => ?_))
  . refine Gs 8 O (ziU tr42 O ⟨_, rfl, by rw [zZ, if_neg s0', if_pos vz], hE⟩)
  ·
   have hg := zaa (show zt f.vars = 0 by omega)
   refine Gs 9 O ?_
   have hch : zZ f = if zv f.vars f.hatches ≠ 0 then zv f.vars f.hatches else if zb f.vars f.hatches.length f.body true ≠ 0 then zb f.vars f.hatches.length f.body true else if zb5 f then 4 else 0 := by rw [zZ, if_neg s0', if_neg vz]
   refine G.loop (σ := Nat) (fun i => [(1, .pointer (some ⟨b, 0, none⟩)), (4, .int .i64 i)]) (fun i => fun w' => i <= f.hatches.length /\ (∀ j, j < i -> xM f.vars f.hatches j = 0) /\ Ext wz2 w') (fun i => f.hatches.length - i) (0) (zkg O) (⟨Nat.zero_le _, fun j h => absurd h (Nat.not_lt_zero _), Keep.refl _ _⟩) ?_
   rintro i w1 ⟨hi, hall, hL1⟩
   obtain ⟨hE, hvs, hhs, hbd, hB_b⟩ := Tr5 hL1 hE hvs hhs hbd hB_b
   refine Gs 5 O (zkA O tg53 (hB_b.cells 1 _ O) (Gs 4 O (ziA O (fun hlt => ?_) (fun hlt => ?_))))
   ·
    obtain ⟨x, he_x, hm_x⟩ := gE_ f.hatches (i) (by omega)
    obtain ⟨b_x, o_x, c_x, ha_x, _, hc_x, hR_x⟩ := hhs.at he_x
    have h1_x := RHt.one hR_x
    obtain ⟨v1_x, rfl, hk_x⟩ := hR_x
    obtain ⟨a1_x, n1_x, rfl⟩ := hk_x.form
    have hlt_x : b_x < _ := zma _ _ (hc_x 0 _ rfl)
    have hat := jD (vs := f.vars) he_x
    have hbad : ∀ c : Int, zH f.vars (f.hatches.take i) x = c -> c ≠ 0 -> zZ f = c := by
     intro c h1 h2
     have h3 : xM f.vars f.hatches i ≠ 0 := by rw [hat, h1]; exact h2
     have h4 : zv f.vars f.hatches = c := by rw [zv, xL hall (by omega) h3, hat, h1]
     rw [hch, h4, if_pos h2]
    have hnext : zH f.vars (f.hatches.take i) x = 0 -> ∀ j, j < i + 1 -> xM f.vars f.hatches j = 0 := by
     intro h j hj
     by_cases e : j = i
     . subst e; rw [hat, h]
     . exact hall j (by omega)
    have hxn := yQ he_x
    refine Gs 7 O (zkA O tg53 (hB_b.cells 1 _ O) (Gs 1 O (zkw O O (zjj tR53 ts137 O O ha_x (by omega)) (zkC O tg137 ts137 hc_x O (zjs O O (M.alloc (cs := _) tz137 O) ?_)))))
    rintro _ wa3 ⟨c, rfl, hg_c, hs_c, hB_c, hk_c⟩
    refine zjv O (zjw ts137 O O O O h1_x hB_c (by simp)) ?_
    rintro w_c ⟨_, hB_c, hkk_c⟩
    replace hk_c := hk_c.trans hkk_c (fun q hq h => by have h : q = c := h; omega)
    have hn_b_c : b ≠ c := by have := hB_b.lt; omega
    have hge_c : _ <= c := zme hE.size (Nat.le_of_eq hg_c.symm)
    obtain ⟨hE, hvs, hhs, hbd, hB_b, hL1, hc_x⟩ := Tr7 hk_c hE hvs hhs hbd hB_b hL1 hc_x
    replace hk_x := Tr1 hk_c hk_x
    refine Gs 6 O (zkA O tg9 (hB_c.cells 0 _ O) (G.call O Tryz.call78 (jM x.name _) ?_))
    rintro _ wz4 ⟨rfl, hz4⟩
    obtain ⟨hE, hvs, hhs, hbd, hB_b, hL1, hc_x⟩ := Tr7 hz4 hE hvs hhs hbd hB_b hL1 hc_x
    obtain ⟨hk_x, hB_c⟩ := Tr2 hz4 hk_x hB_c
    refine zkw O O (zk0 O (by first | exact za | rfl)) (Gs 2 O (G.bool O (fun n0 => ?_) (fun n0 => ?_)))
    ·
     have n0' : kY x.name = false := by simpa using n0
     refine Gs 12 O (ziU tr42 O ⟨_, rfl, by rw [hbad 7 (by rw [zH, if_pos n0']) (by decide)], hE⟩)
    ·
     have n0' : ¬ kY x.name = false := by simpa using n0
     refine Gs 9 O (G.loop (σ := Nat) (fun j => [(1, .pointer (some ⟨b, 0, none⟩)), (4, .int .i64 i), (5, .pointer (some ⟨c, 0, none⟩)), (6, .int .i64 j)]) (fun j => fun w' => j <= i /\ (f.hatches.take j).any (fun u => zO u.name x.name) = false /\ Ext wz4 w') (fun j => i - j) (0) (zkg O) (⟨Nat.zero_le _, rfl, Keep.refl _ _⟩) ?_)
     rintro j w2 ⟨hj, hno, hL2⟩
     obtain ⟨hE, hvs, hhs, hbd, hB_b, hL1, hc_x⟩ := Tr7 hL2 hE hvs hhs hbd hB_b hL1 hc_x
     obtain ⟨hk_x, hB_c⟩ := Tr2 hL2 hk_x hB_c
     refine Gs 8 O (ziA O (fun hjl => ?_) (fun hjl => ?_))
     ·
      obtain ⟨y, he_y, hm_y⟩ := gE_ f.hatches (j) (by omega)
      obtain ⟨b_y, o_y, c_y, ha_y, _, hc_y, hR_y⟩ := hhs.at he_y
      have h1_y := RHt.one hR_y
      obtain ⟨v1_y, rfl, hk_y⟩ := hR_y
      obtain ⟨a1_y, n1_y, rfl⟩ := hk_y.form
      have hlt_y : b_y < _ := zma _ _ (hc_y 0 _ rfl)
      refine Gs 5 O (Qt (by kernel_rfl) (Gs 1 O (zkB O tg53 (fun w1 hw1 => ((hw1.blk hB_b (fun h => h)).cells 1 _ O)) (Gs 1 O (zkz O O (fun w1 hw1 => zjj tR53 ts137 O O ha_y (by omega)) (Gs 1 O (zkB O tg9 (fun w1 hw1 => ((hw1.cells hc_y (fun h => h)) 0 _ O)) (Gs 1 O (zkB O tg9 (fun w1 hw1 => ((hw1.blk hB_c (fun h => h)).cells 0 _ O)) (Gs 1 O (zkD (fun wz5 hz5 => ?_))))))))))))
      obtain ⟨hE, hvs, hhs, hbd, hB_b, hL1, hc_x⟩ := Tr7 hz5 hE hvs hhs hbd hB_b hL1 hc_x
      obtain ⟨hk_x, hB_c, hL2, hc_y, hk_y⟩ := Tr5 hz5 hk_x hB_c hL2 hc_y hk_y
      refine Gs 1 O (ziA O (fun hd => ?_) (fun hd => ?_))
      ·
       have hany : (f.hatches.take i).any (fun u => zO u.name x.name) = true := by
        rw [List.any_eq_true]
        refine ⟨y, zm9 (i := j) (by rw [List.getElem?_take, if_pos (by omega)]; exact he_y), ?_⟩
        unfold zO; exact decide_eq_true hd
       refine Gs 16 O (ziU tr42 O ⟨_, rfl, by rw [hbad 8 (by rw [zH, if_neg n0', if_pos hany]) (by decide)], hE⟩)
      . refine Ga 8 O (by omega) (ziL (j + 1) (zkg O) (⟨by omega, by rw [zg he_y, List.any_append, hno]; simp [zO, hd], hL2⟩) (by first | omega | (dsimp only; omega)))
     ·
      have hji : j = i := by omega
      subst hji
      have n1 : ¬ (f.hatches.take j).any (fun u => zO u.name x.name) = true := by rw [hno]; decide
      refine Gs 9 O (zkA O tg3 (hB_c.cells 1 _ O) (Gs 1 O (zkA O tg3 (hB_c.cells 2 _ O) (G.call O Tryz.call79 (jh x.low x.high _) ?_))))
      rintro _ wz6 ⟨rfl, hz6⟩
      obtain ⟨hE, hvs, hhs, hbd, hB_b, hL1, hc_x⟩ := Tr7 hz6 hE hvs hhs hbd hB_b hL1 hc_x
      obtain ⟨hk_x, hB_c, hL2⟩ := Tr3 hz6 hk_x hB_c hL2
      refine zkw O O (zk0 O (by first | exact za | rfl)) (Gs 2 O (G.bool O (fun n3 => ?_) (fun n3 => ?_)))
      ·
       have n3' : zat x.low x.high = false := by simpa using n3
       refine Gs 12 O (ziU tr42 O ⟨_, rfl, by rw [hbad 3 (by rw [zH, if_neg n0', if_neg n1, if_pos n3']) (by decide)], hE⟩)
      ·
       have n3' : ¬ zat x.low x.high = false := by simpa using n3
       have hcc : zH f.vars (f.hatches.take j) x = zC f.vars true x.term := by rw [zH, if_neg n0', if_neg n1, if_neg n3']
       refine Gs 5 O (zkA O tg52 (hB_b.cells 0 _ O) (Gs 1 O (zkC O tg132 ts132 (hB_c.cells.sub 3 3) O (G.call O Tryz.call80 (xj f.vars true _ _ D D _ x.term hg hvs (RTm.put hk_x) (by omega)) ?_))))
       rintro _ wz7 ⟨rfl, hz7⟩
       obtain ⟨hE, hvs, hhs, hbd, hB_b, hL1, hc_x⟩ := Tr7 hz7 hE hvs hhs hbd hB_b hL1 hc_x
       obtain ⟨hk_x, hB_c, hL2⟩ := Tr3 hz7 hk_x hB_c hL2
       refine Gs 9 O (ziA O (fun tz => ?_) (fun tz => ?_))
       . refine Gs 12 O (ziU tr42 O ⟨_, rfl, by rw [hbad _ hcc tz], hE⟩)
       . refine Ga 8 O (by omega) (ziL (j + 1) (zkg O) (⟨by omega, hnext (by rw [hcc]; omega), hL1⟩) (by first | omega | (dsimp only; omega)))
   ·
    have hii : i = f.hatches.length := by omega
    subst hii
    have hh0 : zv f.vars f.hatches = 0 := xa hall
    rw [hh0, if_neg (by decide)] at hch
    refine Gs 7 O (zkC O tg56 ts56 hB_b.cells O (Gs 1 O (zkA O tg54 (hB_b.cells 2 _ O) (G.call O tc81 (zb3 f _ _ _ hg D f.body _ D _ true ⟨hvs, hhs, hbd⟩ hbd hbk) ?_))))
    rintro _ wz8 ⟨rfl, hz8⟩
    obtain ⟨hE, hvs, hhs, hbd, hB_b, hL1⟩ := Tr6 hz8 hE hvs hhs hbd hB_b hL1
    refine Gs 10 O (ziA O (fun sz => ?_) (fun sz => ?_))
    . refine Gs 8 O (ziU tr42 O ⟨_, rfl, by rw [hch, if_pos sz], hE⟩)
    ·
     have hs0 : zb f.vars f.hatches.length f.body true = 0 := by omega
     rw [if_neg sz] at hch
     refine Gs 5 O (zkA O tg54 (hB_b.cells 2 _ O) (G.call O Tryz.call82 (jR f.vars f.hatches.length f.body _ D _ true hs0 hbd hbk) ?_))
     rintro _ wz9 ⟨rfl, hz9⟩
     obtain ⟨hE, hvs, hhs, hbd, hB_b, hL1⟩ := Tr6 hz9 hE hvs hhs hbd hB_b hL1
     have c1 : (4096 < cap 4097 (bds f.body).1) ↔ 4096 < (bds f.body).1 := by unfold cap; omega
     have c2 : (8 < cap 9 (bds f.body).2.1) ↔ 8 < (bds f.body).2.1 := by unfold cap; omega
     have c3 : (67108864 < cap 67108865 (bds f.body).2.2) ↔ 67108864 < (bds f.body).2.2 := by unfold cap; omega
     have ho : zb5 f = (decide (4096 < cap 4097 (bds f.body).1) || decide (8 < cap 9 (bds f.body).2.1) || decide (67108864 < cap 67108865 (bds f.body).2.2)) := by
      unfold zb5; rw [decide_eq_decide.2 c1, decide_eq_decide.2 c2, decide_eq_decide.2 c3]
     refine Gs 15 O (zkr 79 O (fun b1 => ?_) (fun b1 => ?_))
     . refine Gs 17 O (ziU tr42 O ⟨_, rfl, by rw [hch, if_pos (by rw [ho, decide_eq_true b1]; rfl)], hE⟩)
     ·
      refine Gs 4 O (zkr 83 O (fun b2 => ?_) (fun b2 => ?_))
      . refine Gs 13 O (ziU tr42 O ⟨_, rfl, by rw [hch, if_pos (by rw [ho, decide_eq_true b2, Bool.or_true]; rfl)], hE⟩)
      ·
       refine Gs 5 O (ziA O (fun b3 => ?_) (fun b3 => ?_))
       . refine Gs 7 O (ziU tr42 O ⟨_, rfl, by rw [hch, if_pos (by rw [ho, decide_eq_true b3, Bool.or_true])], hE⟩)
       . refine Gs 8 O (ziU tr42 O ⟨_, rfl, by rw [hch, if_neg (by rw [ho, decide_eq_false b1, decide_eq_false b2, decide_eq_false b3]; decide)], hE⟩)
theorem jS (f : Fl) (v1 v2 v3 : Value) (D : Nat -> Prop) (w : World) (hf : RFl D w f v1 v2 v3) (hsz : zj f.body + zB f.hatches <= 1024) (hbk : zr f.body <= 1000000) : Calls Tryz.prog 126 #[.agg #[v1, v2, v3]] w (Ret fun r w' => r = .int .i64 (zZ f) /\ Ext w w') := by
 replace hf := hf.narrow
 generalize hD0 : (fun b => D b /\ b < w.heap.size) = E at hf
 have hDw : ∀ q, E q -> q < w.heap.size := fun q h => by rw [<- hD0] at h; exact h.2
 obtain ⟨hvs, hhs, hbd⟩ := hf
 have hm1 := hvs.max
 have hm2 := hhs.max
 obtain ⟨a1, n1, rfl⟩ := hvs.form
 obtain ⟨a2, n2, rfl⟩ := hhs.form
 have hE := Keep.refl (fun _ => False) w
 refine zkG Tryz.func126 O Tryz.ntmps126 O (Gs 2 O (zjs O O (M.box O O) ?_))
 rintro _ w_b ⟨b, rfl, hg_b, hs_b, hB_b, hk_b⟩
 have hge_b : _ <= b := zme hE.size (Nat.le_of_eq hg_b.symm)
 replace hE := Tr1 hk_b hE
 refine Gs 5 O (zjs O O (M.alloc (cs := _) Tryz.zeroValue219 O) ?_)
 rintro _ w_m ⟨m, rfl, hg_m, hs_m, hB_m, hk_m⟩
 have hn_b_m : b ≠ m := by have := hB_b.lt; omega
 have hge_m : _ <= m := zme hE.size (Nat.le_of_eq hg_m.symm)
 obtain ⟨hE, hB_b⟩ := Tr2 hk_m hE hB_b
 refine Gs 5 O (zkA O tg54 (hB_b.cells 2 _ O) ?_)
 have hvs0 := hvs
 have hhs0 := hhs
 have hbd0 := hbd
 have DM : ∀ q, E q -> q ≠ m := fun q h => by have := hDw q h; omega
 refine G.call O Tryz.call155 (zbS f.body _ E _ m 0 false 1 (hbd.ext zd hE) DM hB_m (by omega) (by omega) (by omega) (by omega)) ?_
 rintro _ w2 ⟨rfl, ⟨m2, h1, h2, hB_m⟩, hz⟩
 replace hE := hE.trans hz (fun q hq h => by have h : q = m := h; omega)
 replace hB_b := hz.blk hB_b (hn_b_m)
 refine Gs 6 O (zkA O tg53 (hB_b.cells 1 _ O) (Gs 5 O (G.loop (σ := Nat) (fun i => [(1, .pointer (some ⟨b, 0, none⟩)), (3, .pointer (some ⟨m, 0, none⟩)), (14, .slice a2 f.hatches.length n2), (15, .int .i64 f.hatches.length), (16, .int .i64 i)]) (fun i => fun w' => i <= f.hatches.length /\ (∃ m' : Int, 0 <= m' /\ m' <= zj f.body + zB (f.hatches.take i) /\ Blk w' m [.int .i64 m', .bool (xo 1 f.body || (f.hatches.take i).any (fun h => decide (12 < h.term.depth)))] 219) /\ Blk w' b [.slice a1 f.vars.length n1, .slice a2 f.hatches.length n2, v3] 56 /\ Ext w w') (fun i => f.hatches.length - i) (0) (zkg O) (⟨Nat.zero_le _, ⟨m2, by omega, by simp [zB]; omega, by simpa using hB_m⟩, hB_b, hE⟩) ?_)))
 rintro i w3 ⟨hi, ⟨m', hm0, hm'1, hB_m⟩, hB_b, hE⟩
 have hhs := hhs0.ext yO hE
 refine Gs 6 O (ziA O (fun hlt => ?_) (fun hlt => ?_))
 ·
  obtain ⟨x, he_x, hm_x⟩ := gE_ f.hatches (i) (by omega)
  obtain ⟨b_x, o_x, c_x, ha_x, _, hc_x, hR_x⟩ := hhs.at he_x
  have h1_x := RHt.one hR_x
  obtain ⟨v1_x, rfl, hk_x⟩ := hR_x
  obtain ⟨a1_x, n1_x, rfl⟩ := hk_x.form
  have hlt_x : b_x < _ := zma _ _ (hc_x 0 _ rfl)
  have hxn := yQ he_x
  have htk := qJ he_x
  refine Gs 6 O (zkw O O (zjj tR53 ts137 O O ha_x (by omega)) (zkC O tg137 ts137 hc_x O (zjs O O (M.alloc (cs := _) tz137 O) ?_)))
  rintro _ wa1 ⟨c, rfl, hg_c, hs_c, hB_c, hk_c⟩
  refine zjv O (zjw ts137 O O O O h1_x hB_c (by simp)) ?_
  rintro w_c ⟨_, hB_c, hkk_c⟩
  replace hk_c := hk_c.trans hkk_c (fun q hq h => by have h : q = c := h; omega)
  have hn_b_c : b ≠ c := by have := hB_b.lt; omega
  have hn_m_c : m ≠ c := by have := hB_m.lt; omega
  have hge_c : _ <= c := zme hE.size (Nat.le_of_eq hg_c.symm)
  obtain ⟨hE, hB_b, hB_m, hhs, hc_x, hk_x⟩ := Tr6 hk_c hE hB_b hB_m hhs hc_x hk_x
  refine Gs 4 O (G.call O Tryz.call156 (xO m _ _ _ hB_m) ?_)
  rintro _ wz2 ⟨rfl, hz2⟩
  obtain ⟨hE, hB_b, hB_m, hhs, hc_x, hk_x, hB_c⟩ := Tr7 hz2 hE hB_b hB_m hhs hc_x hk_x hB_c
  have ho : decide (1024 < m') = false := decide_eq_false (by omega)
  rw [ho, Bool.or_false]
  refine zkw O O (zk0 O (by first | exact za | rfl)) (Gs 2 O (G.bool O (fun hov => ?_) (fun hov => ?_)))
  ·
   have hov' : (xo 1 f.body || (f.hatches.take i).any (fun h => decide (12 < h.term.depth))) = false := by simpa using hov
   rw [hov'] at hB_m
   refine Gs 2 O (zkC O tg132 ts132 (hB_c.cells.sub 3 3) O (G.call O Tryz.call157 (za9 x.term _ E _ m _ _ 1 (RTm.put hk_x) DM hB_m (by omega) (by omega) (by omega) (by omega)) ?_))
   rintro _ w6 ⟨rfl, ⟨n2', h1', h2', hB2⟩, hz⟩
   replace hE := hE.trans hz (fun q hq h => by have h : q = m := h; omega)
   replace hB_b := hz.blk hB_b (hn_b_m)
   replace hB_c := hz.blk hB_c (fun h => hn_m_c h.symm)
   refine Ga 7 O (by omega) (ziL (i + 1) (zkg O) (⟨by omega, ⟨n2', by omega, by omega, ?_⟩, hB_b, hE⟩) (by first | omega | (dsimp only; omega)))
   have hb : (false || decide (12 < 1 + (x.term.depth : Int) - 1)) = (xo 1 f.body || (f.hatches.take (i + 1)).any (fun h => decide (12 < h.term.depth))) := by
    rw [zg he_x, List.any_append, <- Bool.or_assoc, hov', Bool.false_or, Bool.false_or]
    simp; omega
   rw [<- hb]; exact hB2
  ·
   have hov' : (xo 1 f.body || (f.hatches.take i).any (fun h => decide (12 < h.term.depth))) = true := by rw [<- Bool.not_eq_false]; intro h; rw [h] at hov; cases hov
   refine Ga 7 O (by omega) (ziL (i + 1) (zkg O) (⟨by omega, ⟨m', by omega, by omega, ?_⟩, hB_b, hE⟩) (by first | omega | (dsimp only; omega)))
   rw [hov'] at hB_m
   rw [zg he_x, List.any_append, <- Bool.or_assoc, hov', Bool.true_or]
   exact hB_m
 ·
  have hii : i = f.hatches.length := by omega
  subst hii
  rw [zmd] at hB_m hm'1
  have hsz2 : yX f = (decide (f.vars.length <= 64) && decide (f.hatches.length <= 8) && !(xo 1 f.body || f.hatches.any (fun h => decide (12 < h.term.depth)))) := by
   unfold yX xo
   have e1 : (f.hatches.all fun h => decide (h.term.depth <= 12)) = !(f.hatches.any fun h => decide (12 < h.term.depth)) := by
    rw [List.not_any_eq_all_not]; congr 1; funext h; rw [<- decide_not, decide_eq_decide]; omega
   have e2 : decide (12 < 1 + (zI f.body : Int) - 1) = !decide (zI f.body <= 12) := by rw [<- decide_not, decide_eq_decide]; omega
   rw [e1, e2]
   generalize decide (f.vars.length <= 64) = p1
   generalize decide (f.hatches.length <= 8) = p2
   generalize (f.hatches.any fun h => decide (12 < h.term.depth)) = p3
   generalize decide (zI f.body <= 12) = p4
   generalize zY f.body = p5
   revert p1 p2 p3 p4 p5; decide
  refine Gs 9 O (zkA O tg52 (hB_b.cells 0 _ O) (Gs 3 O (zkr 30 O (fun g1 => ?_) (fun g1 => ?_))))
  ·
   have s0 : yX f = false := by rw [hsz2, decide_eq_false (show ¬ f.vars.length <= 64 by omega)]; rfl
   refine Gs 18 O (ziU tr126 O ⟨_, rfl, by rw [zZ, if_pos s0], hE⟩)
  ·
   refine Gs 1 O (zkA O tg53 (hB_b.cells 1 _ O) (Gs 4 O (zkr 36 O (fun g2 => ?_) (fun g2 => ?_))))
   ·
    have s0 : yX f = false := by rw [hsz2, decide_eq_false (show ¬ f.hatches.length <= 8 by omega), Bool.and_false]; rfl
    refine Gs 12 O (ziU tr126 O ⟨_, rfl, by rw [zZ, if_pos s0], hE⟩)
   ·
    have hvs := hvs0.ext yN hE
    have hbd := hbd0.ext zd hE
    refine G.call O Tryz.call156 (xO m _ _ _ hB_m) ?_
    rintro _ wz3 ⟨rfl, hz3⟩
    obtain ⟨hE, hB_b, hB_m, hhs, hvs, hbd⟩ := Tr6 hz3 hE hB_b hB_m hhs hvs hbd
    have ho : decide (1024 < m') = false := decide_eq_false (by omega)
    rw [ho, Bool.or_false]
    rw [decide_eq_true (show f.vars.length <= 64 by omega), decide_eq_true (show f.hatches.length <= 8 by omega), Bool.true_and, Bool.true_and] at hsz2
    refine Gs 3 O (G.bool O (fun s1 => ?_) (fun s1 => ?_))
    ·
     have s0 : yX f = false := by rw [hsz2, s1]; rfl
     refine Gs 7 O (ziU tr126 O ⟨_, rfl, by rw [zZ, if_pos s0], hE⟩)
    ·
     have s0 : ¬ yX f = false := by rw [hsz2, s1]; decide
     refine Gs 6 O (zkA O tg52 (hB_b.cells 0 _ O) (G.call O Tryz.call158 (zcC f.vars _ E _ hvs (by omega)) ?_))
     rintro _ wz4 ⟨rfl, hz4⟩
     obtain ⟨hE, hB_b, hB_m, hhs, hvs, hbd⟩ := Tr6 hz4 hE hB_b hB_m hhs hvs hbd
     refine Gs 9 O (ziA O (fun vz => ?_) (fun vz => ?_))
     . refine Gs 8 O (ziU tr126 O ⟨_, rfl, by rw [zZ, if_neg s0, if_pos vz], hE⟩)
     ·
      have hg := zaa (show zt f.vars = 0 by omega)
      refine Gs 5 O (zkC O tg56 ts56 hB_b.cells O ?_)
      have hch : zZ f = if zv f.vars f.hatches ≠ 0 then zv f.vars f.hatches else if zb f.vars f.hatches.length f.body true ≠ 0 then zb f.vars f.hatches.length f.body true else if zb5 f then 4 else 0 := by rw [zZ, if_neg s0, if_neg vz]
      have hhs := hhs0.ext yO hE
      refine G.call O Tryz.call159 (zau f _ _ _ E _ ⟨hvs, hhs, hbd⟩ hg (fun h hh => by obtain ⟨i, hi⟩ := List.mem_iff_getElem?.1 hh; have := yQ hi; omega) (by omega)) ?_
      rintro _ wz5 ⟨rfl, hz5⟩
      obtain ⟨hE, hB_b, hB_m, hvs, hbd, hhs⟩ := Tr6 hz5 hE hB_b hB_m hvs hbd hhs
      refine Gs 9 O (ziA O (fun hz2 => ?_) (fun hz2 => ?_))
      . refine Gs 8 O (ziU tr126 O ⟨_, rfl, by rw [hch, if_pos hz2], hE⟩)
      ·
       rw [if_neg hz2] at hch
       refine Gs 5 O (zkC O tg56 ts56 hB_b.cells O (Gs 1 O (zkA O tg54 (hB_b.cells 2 _ O) (G.call O Tryz.call160 (zbR f _ _ _ hg E f.body _ E _ true ⟨hvs, hhs, hbd⟩ hbd hbk) ?_))))
       rintro _ wz6 ⟨rfl, hz6⟩
       obtain ⟨hE, hB_b, hB_m, hvs, hbd, hhs⟩ := Tr6 hz6 hE hB_b hB_m hvs hbd hhs
       refine Gs 9 O (ziA O (fun sz => ?_) (fun sz => ?_))
       . refine Gs 8 O (ziU tr126 O ⟨_, rfl, by rw [hch, if_pos sz], hE⟩)
       ·
        have hs0 : zb f.vars f.hatches.length f.body true = 0 := by omega
        rw [if_neg sz] at hch
        refine Gs 6 O (zkA O tg54 (hB_b.cells 2 _ O) (G.call O Tryz.call161 (zfI f.vars f.hatches.length f.body _ E _ true hs0 hbd hbk) ?_))
        rintro _ wz7 ⟨rfl, hz7⟩
        obtain ⟨hE, hB_b, hB_m, hvs, hbd, hhs⟩ := Tr6 hz7 hE hB_b hB_m hvs hbd hhs
        have c1 : (4096 < cap 1099511627776 (bds f.body).1) ↔ 4096 < (bds f.body).1 := by unfold cap; omega
        have c2 : (8 < cap 1099511627776 (bds f.body).2.1) ↔ 8 < (bds f.body).2.1 := by unfold cap; omega
        have c3 : (67108864 < cap 1099511627776 (bds f.body).2.2) ↔ 67108864 < (bds f.body).2.2 := by unfold cap; omega
        have ho2 : zb5 f = (decide (4096 < cap 1099511627776 (bds f.body).1) || decide (8 < cap 1099511627776 (bds f.body).2.1) || decide (67108864 < cap 1099511627776 (bds f.body).2.2)) := by
         unfold zb5; rw [decide_eq_decide.2 c1, decide_eq_decide.2 c2, decide_eq_decide.2 c3]
        refine zjs O O (M.alloc (cs := _) tz223 O) ?_
        rintro _ wa8 ⟨c, rfl, hg_c, hs_c, hB_c, hk_c⟩
        refine zjv O (zjw ts223 O O O O (by simp [Value.oneCell']) hB_c (by simp)) ?_
        rintro w_c ⟨_, hB_c, hkk_c⟩
        replace hk_c := hk_c.trans hkk_c (fun q hq h => by have h : q = c := h; omega)
        have hn_b_c : b ≠ c := by have := hB_b.lt; omega
        have hn_m_c : m ≠ c := by have := hB_m.lt; omega
        have hge_c : _ <= c := zme hE.size (Nat.le_of_eq hg_c.symm)
        obtain ⟨hE, hB_b, hB_m, hvs, hbd, hhs⟩ := Tr6 hk_c hE hB_b hB_m hvs hbd hhs
        refine Gs 5 O (zkA O tg3 (hB_c.cells 0 _ O) (Gs 2 O (zkr 63 O (fun b1 => ?_) (fun b1 => ?_))))
        . refine Gs 19 O (ziU tr126 O ⟨_, rfl, by rw [hch, if_pos (by rw [ho2, decide_eq_true b1]; rfl)], hE⟩)
        ·
         refine Gs 1 O (zkA O tg3 (hB_c.cells 1 _ O) (Gs 3 O (zkr 68 O (fun b2 => ?_) (fun b2 => ?_))))
         . refine Gs 14 O (ziU tr126 O ⟨_, rfl, by rw [hch, if_pos (by rw [ho2, decide_eq_true b2, Bool.or_true]; rfl)], hE⟩)
         ·
          refine Gs 1 O (zkA O tg3 (hB_c.cells 2 _ O) (Gs 4 O (ziA O (fun b3 => ?_) (fun b3 => ?_))))
          . refine Gs 7 O (ziU tr126 O ⟨_, rfl, by rw [hch, if_pos (by rw [ho2, decide_eq_true b3, Bool.or_true])], hE⟩)
          . refine Gs 8 O (ziU tr126 O ⟨_, rfl, by rw [hch, if_neg (by rw [ho2, decide_eq_false b1, decide_eq_false b2, decide_eq_false b3]; decide)], hE⟩)
end Go.Proofs.YtbkhagigkglgoaaGreatDoor
namespace Go.GL
instance decNd : DecidableEq Nd := fun a b =>
 if h : a.kind = b.kind /\ a.at_ = b.at_ /\ a.next = b.next /\ a.other = b.other then isTrue (zlH h.1 h.2.1 h.2.2.1 h.2.2.2) else isFalse (fun e => h (by subst e; exact ⟨rfl, rfl, rfl, rfl⟩))
end Go.GL
namespace Go.Proofs.YtbkhagigkglgoaaGreatDoor
open Go.GL
theorem yo {f : Fl} (h : zZ f = 0) : yX f = true /\ zt f.vars = 0 /\ zv f.vars f.hatches = 0 /\ zb f.vars f.hatches.length f.body true = 0 /\ zb5 f = false := by
 unfold zZ at h
 split at h
 . cases h
 split at h
 . rename_i h1; exact absurd h h1
 split at h
 . rename_i h1; exact absurd h h1
 split at h
 . rename_i h1; exact absurd h h1
 split at h
 . cases h
 rename_i h1 h2 h3 h4 h5
 refine ⟨by simpa using h1, by omega, by omega, by omega, by simpa using h5⟩
theorem zcH {f : Fl} (hsz : zj f.body + zB f.hatches <= 1024) : ssize f.body <= 1024 := by have := zbH f.body; omega
end Go.Proofs.YtbkhagigkglgoaaGreatDoor
namespace Go.GL
mutual
/-- The steps in preorder. -/
def St.pre : St -> List St
 | .mk a c v n t f g b => .mk a c v n t f g b :: (jx f ++ jx g)
def jx : List St -> List St
 | [] => []
 | s :: r => s.pre ++ jx r
end
theorem St.pre_eq (s : St) : s.pre = s :: (jx s.thn ++ jx s.els) := by cases s; rw [St.pre]; rfl
theorem qM (a b : List St) : jx (a ++ b) = jx a ++ jx b := by
 induction a with
 | nil => rfl
 | cons x r ih => rw [List.cons_append, jx, ih, jx, List.append_assoc]
open Go.RowKit Go.ChangeMaps
def lkm : List (Int × Value) -> Int -> Option (Nat × Value)
 | [], _ => none
 | (a, v) :: r, k => if k = a then some (0, v) else (lkm r k).map fun p => (p.1 + 1, p.2)
def zdg (l : List (Int × Value)) (k : Int) : Option Value := (lkm l k).map (·.2)
def zgV (l : List (Int × Value)) (k : Int) (v : Value) : List (Int × Value) := match lkm l k with
 | some p => l.set p.1 (k, v)
 | none => l ++ [(k, v)]
theorem kr {l : List (Int × Value)} {k : Int} {p : Nat × Value} (h : lkm l k = some p) : l[p.1]? = some (k, p.2) := by
 induction l generalizing p with
 | nil => simp [lkm] at h
 | cons x r ih =>
  obtain ⟨a, v⟩ := x
  rw [lkm] at h
  split at h
  . rename_i h1; cases h; rw [h1]; rfl
  ·
   obtain ⟨q, h2, rfl⟩ := Option.map_eq_some_iff.1 h
   simpa using ih h2
theorem zb6 {l : List (Int × Value)} {k : Int} (h : lkm l k = none) : ∀ p ∈ l, p.1 ≠ k := by
 induction l with
 | nil => intro p hp; simp at hp
 | cons x r ih =>
  obtain ⟨a, v⟩ := x
  rw [lkm] at h
  split at h
  . cases h
  ·
   rename_i h1
   intro p hp
   rcases List.mem_cons.1 hp with rfl | hp
   . exact fun h2 => h1 h2.symm
   . exact ih (by simpa using h) p hp
theorem zdh {l : List (Int × Value)} {k : Int} {v : Value} (h : zdg l k = some v) : (k, v) ∈ l := by
 obtain ⟨p, h1, rfl⟩ := Option.map_eq_some_iff.1 h
 exact zm9 (kr h1)
theorem qN {l : List (Int × Value)} (hn : (l.map (·.1)).Nodup) {k : Int} {v : Value} (h : (k, v) ∈ l) : zdg l k = some v := by
 induction l with
 | nil => simp at h
 | cons x r ih =>
  obtain ⟨a, u⟩ := x
  rw [List.map_cons, List.nodup_cons] at hn
  rw [zdg, lkm]
  rcases List.mem_cons.1 h with h1 | h1
  . cases h1; simp
  ·
   have hne : k ≠ a := fun e => hn.1 (List.mem_map.2 ⟨(k, v), h1, e⟩)
   rw [if_neg hne]
   have := ih hn.2 h1
   rw [zdg] at this
   simpa [Option.map_map] using this
theorem zb7 {l : List (Int × Value)} {k : Int} : zdg l k = none ↔ ∀ p ∈ l, p.1 ≠ k := by
 rw [zdg, Option.map_eq_none_iff]
 refine ⟨zb6, fun h => ?_⟩
 cases h1 : lkm l k with
 | none => rfl
 | some p => exact absurd rfl (h _ (zm9 (kr h1)))
theorem zev (l : List (Int × Value)) (k : Int) (v : Value) : (zgV l k v).map (·.1) = match lkm l k with
 | some _ => l.map (·.1)
 | none => l.map (·.1) ++ [k] := by
 unfold zgV
 cases h : lkm l k with
 | none => simp
 | some p =>
  have h1 := kr h
  simp only
  rw [List.map_set]
  apply List.ext_getElem?
  intro j
  rw [List.getElem?_set]
  split
  ·
   rename_i hj; subst hj
   rw [List.getElem?_map, h1]
   split
   . rfl
   . rename_i h2; rw [List.length_map] at h2; exact absurd (List.getElem?_eq_some_iff.1 h1).1 h2
  . rfl
theorem zdJ {l : List (Int × Value)} (hn : (l.map (·.1)).Nodup) (k : Int) (v : Value) : ((zgV l k v).map (·.1)).Nodup := by
 rw [zev]
 cases h : lkm l k with
 | some p => exact hn
 | none =>
  simp only
  rw [List.nodup_append]
  refine ⟨hn, by simp, fun a ha b hb => ?_⟩
  rw [List.mem_singleton] at hb
  subst hb
  obtain ⟨p, hp, rfl⟩ := List.mem_map.1 ha
  exact zb6 h p hp
theorem zew {l : List (Int × Value)} (hn : (l.map (·.1)).Nodup) (k k' : Int) (v : Value) : zdg (zgV l k v) k' = if k' = k then some v else zdg l k' := by
 have hn' := zdJ hn k v
 have key : ∀ u, (k', u) ∈ zgV l k v ↔ (k' = k /\ u = v) \/ (k' ≠ k /\ (k', u) ∈ l) := by
  intro u
  unfold zgV
  cases h : lkm l k with
  | none =>
   have h1 := zb6 h
   simp only [List.mem_append, List.mem_singleton, Prod.mk.injEq]
   constructor
   ·
    rintro (h2 | h2)
    . exact .inr ⟨h1 _ h2, h2⟩
    . exact .inl h2
   ·
    rintro (h2 | h2)
    . exact .inr h2
    . exact .inl h2.2
  | some p =>
   have h1 := kr h
   obtain ⟨hlt, h1'⟩ := List.getElem?_eq_some_iff.1 h1
   simp only
   constructor
   ·
    intro h2
    obtain ⟨j, hj⟩ := List.mem_iff_getElem?.1 h2
    rw [List.getElem?_set] at hj
    split at hj
    ·
     first
      | (split at hj <;> cases hj <;> exact .inl ⟨rfl, rfl⟩)
      | (cases hj; exact .inl ⟨rfl, rfl⟩)
    ·
     rename_i hne
     refine .inr ⟨?_, zm9 hj⟩
     rintro rfl
     have hjl := (List.getElem?_eq_some_iff.1 hj).1
     have := (List.nodup_iff_pairwise_ne.1 hn)
     rw [List.pairwise_iff_getElem] at this
     have e1 : (l.map (·.1))[p.1]'(by rw [List.length_map]; exact hlt) = k' := by rw [List.getElem_map, h1']
     have e2 : (l.map (·.1))[j]'(by rw [List.length_map]; exact hjl) = k' := by rw [List.getElem_map, (List.getElem?_eq_some_iff.1 hj).2]
     rcases Nat.lt_or_ge p.1 j with h3 | h3
     . exact this p.1 j _ _ h3 (by rw [e1, e2])
     . exact this j p.1 _ _ (by omega) (by rw [e1, e2])
   ·
    rintro (⟨rfl, rfl⟩ | ⟨h2, h3⟩)
    . exact zm9 (by rw [List.getElem?_set_self hlt])
    ·
     obtain ⟨j, hj⟩ := List.mem_iff_getElem?.1 h3
     refine List.mem_iff_getElem?.2 ⟨j, ?_⟩
     rw [List.getElem?_set_ne]
     . exact hj
     ·
      rintro rfl
      rw [h1] at hj
      exact h2 (congrArg Prod.fst (Option.some.inj hj)).symm
 by_cases h : k' = k
 ·
  rw [if_pos h]
  exact qN hn' ((key v).2 (.inl ⟨h, rfl⟩))
 ·
  rw [if_neg h]
  cases h2 : zdg l k' with
  | some u => exact qN hn' ((key u).2 (.inr ⟨h, zdh h2⟩))
  | none =>
   rw [zb7] at h2 ⊢
   rintro ⟨a, u⟩ hp rfl
   rcases (key u).1 hp with h3 | h3
   . exact h h3.1
   . exact h2 _ h3.2 O
def MapI (w : World) (m : Nat) (l : List (Int × Value)) : Prop :=
 ∃ (es : Array MapEntry) (clock : Nat), w.heap[m]? = some (.map es clock) /\ es.toList.map (fun e => (e.key, e.val)) = l.map (fun p => (Value.int .i64 p.1, p.2)) /\ (∀ e ∈ es.toList, e.born < clock) /\ (es.toList.map (·.born)).Nodup /\ (l.map (·.1)).Nodup
theorem MapI.keep {w w' : World} {S : Nat -> Prop} {m : Nat} {l : List (Int × Value)} (h : MapI w m l) (hk : Keep S w w') (hS : ¬ S m) : MapI w' m l := by
 obtain ⟨es, c, h1, r⟩ := h
 exact ⟨es, c, by rw [hk.block m (Array.getElem?_eq_some_iff.1 h1).1 hS]; exact h1, r⟩
theorem MapI.ext {w w' : World} {m : Nat} {l : List (Int × Value)} (h : MapI w m l) (hk : Ext w w') : MapI w' m l := h.keep hk (fun h => h)
theorem MapI.lt {w : World} {m : Nat} {l : List (Int × Value)} (h : MapI w m l) : m < w.heap.size := by
 obtain ⟨es, c, h1, r⟩ := h
 exact (Array.getElem?_eq_some_iff.1 h1).1
theorem MapI.ne {w : World} {m b : Nat} {l : List (Int × Value)} {cs : List Value} {e : TypeId} (h : MapI w m l) (hb : Blk w b cs e) : b ≠ m := by
 rintro rfl
 obtain ⟨es, c, h1, r⟩ := h
 unfold Blk at hb
 rw [h1] at hb
 cases hb
section
variable {P : Program} {w : World} {m : Nat} {l : List (Int × Value)} {t kt et : TypeId}
theorem xb {o o' : Obj} (h : w.heap[m]? = some o) : Keep (fun q => q = m) w (setBlock w m o') :=
 ⟨rfl, rfl, rfl, Nat.le_refl _, by simp [setBlock], fun k _ hn => (MapKept.heap_set h).2 k hn⟩
theorem zdK {β : Type} (f : MapEntry -> β) (g : MapEntry -> MapEntry) (y : β) : ∀ (es : List MapEntry) (i : Nat), (∀ e, es[i]? = some e -> f (g e) = y) -> (es.modify i g).map f = (es.map f).set i y := by
 intro es i h
 apply List.ext_getElem?
 intro j
 rw [List.getElem?_map, List.getElem?_modify, List.getElem?_set]
 by_cases hj : i = j
 ·
  subst hj
  cases h1 : es[i]? with
  | none =>
   have := List.getElem?_eq_none_iff.1 h1
   rw [if_pos rfl, if_neg (by rw [List.length_map]; omega)]
   simp
  | some e =>
   have := (List.getElem?_eq_some_iff.1 h1).1
   rw [if_pos rfl, if_pos (by rw [List.length_map]; omega)]
   simp [h e h1]
 ·
  rw [if_neg hj, List.getElem?_map]
  cases es[j]? <;> simp [hj]
end
section
variable {P : Program} {env : Env} {w : World} {dst : Option Tmp} {ty : TypeId} {pos : String} {aft : Array Edge} {g : Option (Nat × Bool)} {t kt et : TypeId} {m : Nat} {l : List (Int × Value)}
theorem M.makeMap : yp P ⟨dst, .makeMap t none, ty, pos, aft, g⟩ env w (fun u w' => ∃ b, u = .map (some b) /\ b = w.heap.size /\ w'.heap.size = w.heap.size + 1 /\ MapI w' b [] /\ Ext w w') := by
 refine ⟨.map (some w.heap.size), w.alloc (.map #[] 0), ?_, _, rfl, rfl, by simp, ⟨#[], 0, (MapKept.heap_alloc w _).1, rfl, by simp, by simp, by simp⟩, Keep.alloc w _⟩
 intro n a ha
 have h : (Instr.makeMap t none).run P w = .ok (.map (some w.heap.size)) (w.alloc (.map #[] 0)) := by simp [Instr.makeMap, Result.andThen]
 simp [execOp, h]
end
def MapE (w : World) (m : Nat) (l : List (Int × Value)) (k : Int) (st : Nat) : Prop :=
 ∃ (es : Array MapEntry) (clock i : Nat) (e : MapEntry) (v : Value), w.heap[m]? = some (.map es clock) /\ es.toList.map (fun e => (e.key, e.val)) = l.map (fun p => (Value.int .i64 p.1, p.2)) /\ (∀ e ∈ es.toList, e.born < clock) /\ (es.toList.map (·.born)).Nodup /\ (l.map (·.1)).Nodup /\
  es.toList[i]? = some e /\ e.born = st /\ lkm l k = some (i, v)
theorem MapE.keep {w w' : World} {S : Nat -> Prop} {m st : Nat} {k : Int} {l : List (Int × Value)} (h : MapE w m l k st) (hk : Keep S w w') (hS : ¬ S m) : MapE w' m l k st := by
 obtain ⟨es, c, i, e, v, h1, r⟩ := h
 exact ⟨es, c, i, e, v, by rw [hk.block m (Array.getElem?_eq_some_iff.1 h1).1 hS]; exact h1, r⟩
theorem MapE.map {w : World} {m st : Nat} {k : Int} {l : List (Int × Value)} (h : MapE w m l k st) : MapI w m l := by
 obtain ⟨es, c, i, e, v, h1, h2, h3, h4, h5, _⟩ := h
 exact ⟨es, c, h1, h2, h3, h4, h5⟩
def RanI (w : World) (it m : Nat) (l : List (Int × Value)) (seen : List Int) (cur : Option (Int × Value)) : Prop :=
 ∃ (es : Array MapEntry) (clock since : Nat) (sb : Array Nat) (c0 : Nat), w.heap[m]? = some (.map es clock) /\ es.toList.map (fun e => (e.key, e.val)) = l.map (fun p => (Value.int .i64 p.1, p.2)) /\ (∀ e ∈ es.toList, e.born < clock) /\ (es.toList.map (·.born)).Nodup /\ (l.map (·.1)).Nodup /\
  w.heap[it]? = some (.mapIter (some m) since sb c0) /\ (∀ e ∈ es.toList, e.born < since) /\ since <= c0 /\ (∀ e ∈ es.toList, ∀ k, e.key = .int .i64 k -> (e.born ∈ sb ↔ k ∈ seen)) /\ seen.Nodup /\ (∀ k ∈ seen, ∃ v, zdg l k = some v) /\
  since <= clock /\ (∀ q, cur = some q -> c0 = clock /\ ∃ (e : MapEntry) (s : Array Nat), e ∈ es.toList /\ sb = s.push e.born /\ e.key = .int .i64 q.1 /\ e.val = q.2)
theorem RanI.keep {w w' : World} {S : Nat -> Prop} {it m : Nat} {l : List (Int × Value)} {seen : List Int} {cur : Option (Int × Value)} (h : RanI w it m l seen cur) (hk : Keep S w w') (hS : ¬ S m) (hI : ¬ S it) : RanI w' it m l seen cur := by
 obtain ⟨es, c, since, sb, c0, h1, h2, h3, h4, h5, h6, r⟩ := h
 exact ⟨es, c, since, sb, c0, by rw [hk.block m (Array.getElem?_eq_some_iff.1 h1).1 hS]; exact h1, h2, h3, h4, h5, by rw [hk.block it (Array.getElem?_eq_some_iff.1 h6).1 hI]; exact h6, r⟩
theorem RanI.map {w : World} {it m : Nat} {l : List (Int × Value)} {seen : List Int} {cur : Option (Int × Value)} (h : RanI w it m l seen cur) : MapI w m l := by
 obtain ⟨es, c, since, sb, c0, h1, h2, h3, h4, h5, _⟩ := h
 exact ⟨es, c, h1, h2, h3, h4, h5⟩
theorem RanI.lt {w : World} {it m : Nat} {l : List (Int × Value)} {seen : List Int} {cur : Option (Int × Value)} (h : RanI w it m l seen cur) : it < w.heap.size := by
 obtain ⟨es, c, since, sb, c0, h1, h2, h3, h4, h5, h6, _⟩ := h
 exact (Array.getElem?_eq_some_iff.1 h6).1
theorem RanI.ne {w : World} {it m : Nat} {l : List (Int × Value)} {seen : List Int} {cur : Option (Int × Value)} (h : RanI w it m l seen cur) : it ≠ m := by
 obtain ⟨es, c, since, sb, c0, h1, h2, h3, h4, h5, h6, _⟩ := h
 rintro rfl
 rw [h1] at h6; cases h6
section
variable {P : Program} {env : Env} {w : World} {dst : Option Tmp} {ty : TypeId} {pos : String} {aft : Array Edge} {g : Option (Nat × Bool)} {t kt et : TypeId} {m : Nat} {l : List (Int × Value)}
theorem M.range {x : Operand} (h : MapI w m l) (ht : P.underlying t = some (.map kt et)) (hx : ev env x = some (.map (some m))) :
  yp P ⟨dst, .range t x, ty, pos, aft, g⟩ env w (fun u w' => ∃ it, u = .pointer (some ⟨it, 0, none⟩) /\ it = w.heap.size /\ RanI w' it m l [] none /\ Ext w w' /\ w'.heap.size = w.heap.size + 1) := by
 have hlt := h.lt
 obtain ⟨es, c, h1, h2, h3, h4, h5⟩ := h
 have hrun : (Instr.range t (.map (some m))).run P w = .ok (.pointer (some ⟨w.heap.size, 0, none⟩)) (w.alloc (.mapIter (some m) c #[] c)) := by
  simp [Instr.range, run_underlying ht, MapKept.run_getObj_map h1, Result.andThen]
 refine ⟨.pointer (some ⟨w.heap.size, 0, none⟩), w.alloc (.mapIter (some m) c #[] c), fun n a ha => ?_, w.heap.size, rfl, rfl, ⟨es, c, c, #[], c, by rw [(MapKept.heap_alloc w _).2 _ hlt]; exact h1, h2, h3, h4, h5, (MapKept.heap_alloc w _).1, h3, Nat.le_refl _, fun e _ k _ => by simp, List.Pairwise.nil, by simp, Nat.le_refl _, by simp⟩, Keep.alloc w _, by simp⟩
 simp [execOp, ha.eval hx, hrun]
theorem M.next {x : Operand} {it : Nat} {seen : List Int} {cur : Option (Int × Value)} (h : RanI w it m l seen cur) (hx : ev env x = some (.pointer (some ⟨it, 0, none⟩))) :
  yp P ⟨dst, .next x false, ty, pos, aft, g⟩ env w (fun u w' => (u = .tuple #[.bool false] /\ w' = w /\ ∀ p ∈ l, p.1 ∈ seen) \/ ∃ k v, u = .tuple #[.bool true, .int .i64 k, v] /\ zdg l k = some v /\ k ∉ seen /\ RanI w' it m l (seen ++ [k]) (some (k, v)) /\ Keep (fun q => q = it) w w' /\ w'.heap.size = w.heap.size) := by
 have hne := h.ne
 obtain ⟨es, c, since, sb, c0, h1, h2, h3, h4, h5, h6, h7, h8, h9, h10, h11, hsc, h12⟩ := h
 have hkey : ∀ e ∈ es.toList, ∃ k, e.key = .int .i64 k /\ zdg l k = some e.val := by
  intro e he
  obtain ⟨i, hi⟩ := List.mem_iff_getElem?.1 he
  have := congrArg (fun L => L[i]?) h2
  simp only [List.getElem?_map, hi, Option.map_some] at this
  obtain ⟨p, hp, hp2⟩ := Option.map_eq_some_iff.1 this.symm
  simp only [Prod.mk.injEq] at hp2
  refine ⟨p.1, hp2.1.symm, ?_⟩
  rw [<- hp2.2]
  exact qN h5 (zm9 hp)
 rcases run_next_at (P := P) w ty it m since c0 sb es c h6 h1 h7 h8 with ⟨h0, hrun⟩ | ⟨e, he, w1, hal, hrun⟩
 ·
  refine ⟨_, _, fun n a ha => ?_, .inl ⟨rfl, rfl, fun p hp => ?_⟩⟩
  . simp [execOp, ha.eval hx, hrun]
  ·
   obtain ⟨i, hi⟩ := List.mem_iff_getElem?.1 hp
   have h13 := congrArg (fun L => L[i]?) h2
   simp only [List.getElem?_map, hi, Option.map_some] at h13
   obtain ⟨e, he, he2⟩ := Option.map_eq_some_iff.1 h13
   simp only [Prod.mk.injEq] at he2
   rw [<- h9 e (zm9 he) p.1 he2.1]
   have h14 : e ∉ leftOf es sb := by
    have : leftOf es sb = #[] := Array.eq_empty_of_size_eq_zero h0
    rw [this]; simp
   unfold leftOf at h14
   have h15 := zm9 he
   simp at h14 h15
   exact h14 h15
 ·
  have he' : e ∈ es.toList /\ e.born ∉ sb := by
   unfold leftOf at he
   simp at he
   exact ⟨by simpa using he.1, he.2⟩
  obtain ⟨k, hk1, hk2⟩ := hkey e he'.1
  have hr1 : w1.heap[it]? = some (.mapIter (some m) since sb c0) := by rcases hal with rfl | rfl <;> exact h6
  have hb1 : w1.heap[m]? = some (.map es c) := by rcases hal with rfl | rfl <;> exact h1
  have hset := MapKept.heap_set (o' := .mapIter (some m) since (sb.push e.born) c) hr1
  have hks : k ∉ seen := fun hh => he'.2 ((h9 e he'.1 k hk1).2 hh)
  have hinj : ∀ e' ∈ es.toList, e'.born = e.born -> e' = e := by
   intro e' h' hb
   obtain ⟨i, hi⟩ := List.mem_iff_getElem?.1 h'
   obtain ⟨j, hj⟩ := List.mem_iff_getElem?.1 he'.1
   have hil := (List.getElem?_eq_some_iff.1 hi).1
   have hjl := (List.getElem?_eq_some_iff.1 hj).1
   have hp := List.nodup_iff_pairwise_ne.1 h4
   rw [List.pairwise_iff_getElem] at hp
   by_cases hij : i = j
   . subst hij; rw [hi] at hj; exact Option.some.inj hj
   ·
    exfalso
    rcases Nat.lt_or_ge i j with h3 | h3
    ·
     have := hp i j (by rw [List.length_map]; omega) (by rw [List.length_map]; omega) h3
     rw [List.getElem_map, List.getElem_map, (List.getElem?_eq_some_iff.1 hi).2, (List.getElem?_eq_some_iff.1 hj).2] at this
     exact this hb
    ·
     have := hp j i (by rw [List.length_map]; omega) (by rw [List.length_map]; omega) (by omega)
     rw [List.getElem_map, List.getElem_map, (List.getElem?_eq_some_iff.1 hi).2, (List.getElem?_eq_some_iff.1 hj).2] at this
     exact this hb.symm
  have hKeep : Keep (fun q => q = it) w (setBlock w1 it (.mapIter (some m) since (sb.push e.born) c)) := by
   rcases hal with rfl | rfl
   . exact xb h6
   . exact (Keep.mono (Keep.drew w) (fun _ _ h => h.elim)).trans (xb hr1) (fun _ _ h => h)
  refine ⟨_, _, fun n a ha => ?_, .inr ⟨k, e.val, by rw [<- hk1], hk2, hks, ⟨es, c, since, sb.push e.born, c, ?_, h2, h3, h4, h5, hset.1, h7, hsc, ?_, ?_, ?_, hsc, ?_⟩, hKeep, ?_⟩⟩
  . simp [execOp, ha.eval hx, hrun]
  . exact (hset.2 m (fun h => hne h.symm)).trans hb1
  ·
   intro e' h' k' hk'
   rw [Array.mem_push, h9 e' h' k' hk', List.mem_append, List.mem_singleton]
   constructor
   ·
    rintro (h13 | h13)
    . exact .inl h13
    ·
     have := hinj e' h' h13
     subst this
     rw [hk1] at hk'; cases hk'
     exact .inr O
   ·
    rintro (h13 | h13)
    . exact .inl h13
    ·
     subst h13
     right
     obtain ⟨i, hi⟩ := List.mem_iff_getElem?.1 h'
     obtain ⟨j, hj⟩ := List.mem_iff_getElem?.1 he'.1
     have g1 := congrArg (fun L => L[i]?) h2
     have g2 := congrArg (fun L => L[j]?) h2
     simp only [List.getElem?_map, hi, hj, Option.map_some] at g1 g2
     obtain ⟨p1, hp1, hp1'⟩ := Option.map_eq_some_iff.1 g1.symm
     obtain ⟨p2, hp2, hp2'⟩ := Option.map_eq_some_iff.1 g2.symm
     simp only [Prod.mk.injEq] at hp1' hp2'
     have e1 : p1.1 = k' := by have := hp1'.1.trans hk'; cases this; rfl
     have e2 : p2.1 = k' := by have := hp2'.1.trans hk1; cases this; rfl
     have hil := (List.getElem?_eq_some_iff.1 hp1).1
     have hjl := (List.getElem?_eq_some_iff.1 hp2).1
     have hp := List.nodup_iff_pairwise_ne.1 h5
     rw [List.pairwise_iff_getElem] at hp
     by_cases hij : i = j
     . subst hij; rw [hi] at hj; rw [Option.some.inj hj]
     ·
      exfalso
      rcases Nat.lt_or_ge i j with h3' | h3'
      ·
       have := hp i j (by rw [List.length_map]; omega) (by rw [List.length_map]; omega) h3'
       rw [List.getElem_map, List.getElem_map, (List.getElem?_eq_some_iff.1 hp1).2, (List.getElem?_eq_some_iff.1 hp2).2, e1, e2] at this
       exact this O
      ·
       have := hp j i (by rw [List.length_map]; omega) (by rw [List.length_map]; omega) (by omega)
       rw [List.getElem_map, List.getElem_map, (List.getElem?_eq_some_iff.1 hp1).2, (List.getElem?_eq_some_iff.1 hp2).2, e1, e2] at this
       exact this O
  ·
   rw [List.nodup_append]
   exact ⟨h10, by simp, fun a ha b hb => by rw [List.mem_singleton] at hb; subst hb; exact fun h => hks (h ▸ ha)⟩
  ·
   intro k' hk'
   rcases List.mem_append.1 hk' with hk' | hk'
   . exact h11 k' hk'
   . rw [List.mem_singleton] at hk'; subst hk'; exact ⟨_, hk2⟩
  ·
   intro q hq
   cases hq
   exact ⟨rfl, e, sb, he'.1, rfl, hk1, rfl⟩
  . rcases hal with rfl | rfl <;> simp [setBlock]
end
end Go.GL
namespace Go.Proofs.YtbkhagigkglgoaaGreatDoor
open Go.GL
def yW (b : Bool) : Int := if b then 1 else 0
def lki (l : List Int) (i : Nat) : Int := l[i]?.getD 0
theorem zgv {l : List Int} {i : Nat} {x : Int} (h : l[i]? = some x) : lki l i = x := by simp [lki, h]
theorem zgw {l : List Int} {i : Nat} (h : i < l.length) : l[i]? = some (lki l i) := by simp [lki, zm8 h]
def qO (op a b : Int) : Int :=
 if op = 8 then a + b else if op = 9 then a - b else if op = 10 then a * b else if op = 11 then a.fdiv b
 else if op = 12 then (if b = 0 then 0 else a - b * a.fdiv b) else if op = 13 then yW (decide (a = b)) else if op = 14 then yW (decide (a ≠ b))
 else if op = 15 then yW (decide (a < b)) else if op = 16 then yW (decide (a <= b)) else if op = 17 then yW (decide (b < a)) else if op = 18 then yW (decide (b <= a))
 else if op = 19 then yW (decide (a ≠ 0) && decide (b ≠ 0)) else if op = 20 then yW (decide (a ≠ 0) || decide (b ≠ 0)) else if op = 21 then min a b else max a b
def jE (vals : List Int) (op n : Int) (ks : List Int) : Int :=
 if op = 0 then n else if op = 24 then lki vals n.toNat else if op = 6 then -(lki ks 0) else if op = 7 then yW (decide (lki ks 0 = 0))
 else if op = 23 then (if lki ks 0 ≠ 0 then lki ks 1 else lki ks 2)
 else if op = 25 then lki ks (1 + xS (lki ks 0) 0 ((ks.length : Int) - 2)).toNat
 else qO op (lki ks 0) (lki ks 1)
mutual
def xV (vals : List Int) : Tm -> Int
 | .mk op n ks => jE vals op n (zfJ vals ks)
def zfJ (vals : List Int) : List Tm -> List Int
 | [] => []
 | k :: r => xV vals k :: zfJ vals r
end
theorem zex (vals : List Int) (t : Tm) : xV vals t = jE vals t.op t.n (zfJ vals t.kids) := by cases t; rw [xV]; rfl
theorem zdi (vals : List Int) (l : List Tm) : zfJ vals l = l.map (xV vals) := by
 induction l with
 | nil => rfl
 | cons x r ih => rw [zfJ, ih]; rfl
theorem zdj (vals : List Int) (l : List Tm) : (zfJ vals l).length = l.length := by rw [zdi, List.length_map]
theorem zdk {vals : List Int} {l : List Tm} {i : Nat} {k : Tm} (h : l[i]? = some k) : lki (zfJ vals l) i = xV vals k := by
 apply zgv; rw [zdi, List.getElem?_map, h]; rfl
structure InV (vs : List Vr) (vals : List Int) : Prop where
 len : vals.length = vs.length
 at_ : ∀ (i : Nat) (v : Vr), vs[i]? = some v -> v.low <= lki vals i /\ lki vals i <= v.high
theorem zfK (a b : Int) (ha : -1048576 <= a /\ a <= 1048576) : (0 <= a -> -a <= a.fdiv b /\ a.fdiv b <= a) /\ (a <= 0 -> a <= a.fdiv b /\ a.fdiv b <= -a) /\ (0 <= a -> 0 <= b -> 0 <= a.fdiv b) := by
 rcases Int.lt_trichotomy b 0 with hb | hb | hb
 ·
  have h1 : a.fdiv b = (-a).ediv (-b) := by
   rw [<- Int.neg_fdiv_neg, Int.fdiv_eq_ediv_of_nonneg _ (by omega)]; rfl
  rw [h1]
  have h2 := Int.mul_ediv_add_emod (-a) (-b)
  have h3 := Int.emod_nonneg (-a) (show -b ≠ 0 by omega)
  have h4 := Int.emod_lt_of_pos (-a) (show 0 < -b by omega)
  change -b * ((-a).ediv (-b)) + (-a).emod (-b) = -a at h2
  change 0 <= (-a).emod (-b) at h3
  change (-a).emod (-b) < -b at h4
  generalize (-a).ediv (-b) = q at *
  generalize (-a).emod (-b) = r at *
  obtain ⟨c, rfl⟩ : ∃ c, b = -c := ⟨-b, by omega⟩
  simp only [Int.neg_neg] at *
  have hc : 0 < c := by omega
  refine ⟨fun h => ⟨?_, ?_⟩, fun h => ⟨?_, ?_⟩, fun h h' => by omega⟩
  ·
   rcases Int.lt_or_le q (-a) with h5 | h5
   ·
    have : c * q <= c * (-a - 1) := Int.mul_le_mul_of_nonneg_left (by omega) (by omega)
    have : c * (-a - 1) <= 1 * (-a - 1) := Int.mul_le_mul_of_nonpos_right (by omega) (by omega)
    have e : c * (-a - 1) = c * (-a) - c := by rw [Int.mul_sub, Int.mul_one]
    have : c * (-a) <= 1 * (-a) := Int.mul_le_mul_of_nonpos_right (by omega) (by omega)
    omega
   . exact h5
  ·
   rcases Int.lt_or_le 0 q with h5 | h5
   ·
    have : c * 1 <= c * q := Int.mul_le_mul_of_nonneg_left (by omega) (by omega)
    omega
   . omega
  ·
   rcases Int.lt_or_le q 0 with h5 | h5
   ·
    have : c * q <= c * (-1) := Int.mul_le_mul_of_nonneg_left (by omega) (by omega)
    omega
   . omega
  ·
   rcases Int.lt_or_le (-a) q with h5 | h5
   ·
    have : c * (-a + 1) <= c * q := Int.mul_le_mul_of_nonneg_left (by omega) (by omega)
    have : 1 * (-a + 1) <= c * (-a + 1) := Int.mul_le_mul_of_nonneg_right (by omega) (by omega)
    omega
   . exact h5
 ·
  subst hb
  simp only [Int.fdiv_zero]
  omega
 ·
  have h1 : a.fdiv b = a.ediv b := Int.fdiv_eq_ediv_of_nonneg _ (by omega)
  rw [h1]
  have h2 := Int.mul_ediv_add_emod a b
  have h3 := Int.emod_nonneg a (show b ≠ 0 by omega)
  have h4 := Int.emod_lt_of_pos a hb
  change b * (a.ediv b) + a.emod b = a at h2
  change 0 <= a.emod b at h3
  change a.emod b < b at h4
  generalize a.ediv b = q at *
  generalize a.emod b = r at *
  have hq : 0 <= a -> 0 <= q := fun h => by
   rcases Int.lt_or_le q 0 with h5 | h5
   ·
    have : b * q <= b * (-1) := Int.mul_le_mul_of_nonneg_left (by omega) (by omega)
    omega
   . exact h5
  refine ⟨fun h => ⟨by have := hq h; omega, ?_⟩, fun h => ⟨?_, ?_⟩, fun h _ => hq h⟩
  ·
   rcases Int.lt_or_le a q with h5 | h5
   ·
    have : b * (a + 1) <= b * q := Int.mul_le_mul_of_nonneg_left (by omega) (by omega)
    have : 1 * (a + 1) <= b * (a + 1) := Int.mul_le_mul_of_nonneg_right (by omega) (by omega)
    omega
   . exact h5
  ·
   rcases Int.lt_or_le q a with h5 | h5
   ·
    have : b * q <= b * (a - 1) := Int.mul_le_mul_of_nonneg_left (by omega) (by omega)
    have : b * (a - 1) <= 1 * (a - 1) := Int.mul_le_mul_of_nonpos_right (by omega) (by omega)
    have e : b * (a - 1) = b * a - b := by rw [Int.mul_sub, Int.mul_one]
    have : b * a <= 1 * a := Int.mul_le_mul_of_nonpos_right (by omega) (by omega)
    omega
   . exact h5
  ·
   rcases Int.lt_or_le 0 q with h5 | h5
   ·
    have : b * 1 <= b * q := Int.mul_le_mul_of_nonneg_left (by omega) (by omega)
    omega
   . omega
theorem zaE (a b : Int) : (b < 0 -> b < a - b * a.fdiv b /\ a - b * a.fdiv b <= 0) /\ (0 < b -> 0 <= a - b * a.fdiv b /\ a - b * a.fdiv b < b) := by
 have h2 := Int.mul_fdiv_add_fmod a b
 refine ⟨fun hb => ?_, fun hb => ?_⟩
 ·
  have h3 : a.fmod b = -((-a).emod (-b)) := by
   have := Int.neg_fmod_neg (-a) (-b)
   simp only [Int.neg_neg] at this
   rw [this, Int.fmod_eq_emod_of_nonneg _ (by omega)]; rfl
  have h4 := Int.emod_nonneg (-a) (show -b ≠ 0 by omega)
  have h5 := Int.emod_lt_of_pos (-a) (show 0 < -b by omega)
  change 0 <= (-a).emod (-b) at h4
  change (-a).emod (-b) < -b at h5
  omega
 ·
  have h3 : a.fmod b = a.emod b := Int.fmod_eq_emod_of_nonneg _ (by omega)
  have h4 := Int.emod_nonneg a (show b ≠ 0 by omega)
  have h5 := Int.emod_lt_of_pos a hb
  change 0 <= a.emod b at h4
  change a.emod b < b at h5
  omega
theorem zey {x y a b c d : Int} (hx : a <= x /\ x <= b) (hy : c <= y /\ y <= d) : min (min (a * c) (a * d)) (min (b * c) (b * d)) <= x * y /\ x * y <= max (max (a * c) (a * d)) (max (b * c) (b * d)) := by
 have key : ∀ (u v p q : Int), p <= v -> v <= q -> min (u * p) (u * q) <= u * v /\ u * v <= max (u * p) (u * q) := by
  intro u v p q h1 h2
  rcases Int.le_total 0 u with hu | hu
  ·
   have := Int.mul_le_mul_of_nonneg_left h1 hu
   have := Int.mul_le_mul_of_nonneg_left h2 hu
   omega
  ·
   have := Int.mul_le_mul_of_nonpos_left (a := u) hu h1
   have := Int.mul_le_mul_of_nonpos_left (a := u) hu h2
   omega
 have h1 := key y x a b hx.1 hx.2
 have h2 := key a y c d hy.1 hy.2
 have h3 := key b y c d hy.1 hy.2
 rw [Int.mul_comm y a, Int.mul_comm y b, Int.mul_comm y x] at h1
 omega
theorem zbT (x : Rg) : ∀ l : List Rg, ((yB x l).1 <= x.1 /\ x.2 <= (yB x l).2) /\ ∀ r ∈ l, (yB x l).1 <= r.1 /\ r.2 <= (yB x l).2 := by
 intro l
 induction l generalizing x with
 | nil => simp [yB]
 | cons y r ih =>
  have h := ih (min x.1 y.1, max x.2 y.2)
  rw [show yB x (y :: r) = yB (min x.1 y.1, max x.2 y.2) r from rfl]
  refine ⟨by have := h.1; dsimp only at this; omega, fun z hz => ?_⟩
  rcases List.mem_cons.1 hz with rfl | hz
  . have := h.1; dsimp only at this; omega
  . exact h.2 z hz
theorem zez {op a b : Int} (h1 : op ≠ 8) (h2 : op ≠ 9) (h3 : op ≠ 10) (h4 : op ≠ 11) (h5 : op ≠ 12) (h6 : op ≠ 21) (h7 : op <= 20) (h8 : 8 <= op) : qO op a b = 0 \/ qO op a b = 1 := by
 have hf : ∀ b, yW b = 0 \/ yW b = 1 := fun b => by cases b <;> simp [yW]
 unfold qO
 rw [if_neg h1, if_neg h2, if_neg h3, if_neg h4, if_neg h5]
 (repeat' split); all_goals first | exact hf _ | omega
theorem qi (n : Int) {lo hi : Int} (h : lo <= hi) : lo <= xS n lo hi /\ xS n lo hi <= hi := by
 unfold xS
 (repeat' split); all_goals omega
theorem zfL {vs : List Vr} {vals : List Int} {op n : Int} {ks : List Int} {l : List Rg} (hV : InV vs vals) (hn : NodeOk vs op n l) (hlen : ks.length = l.length) (h23 : op = 23 -> l.length = 3) (hop : op = 0 \/ op = 24 \/ op = 6 \/ op = 7 \/ 8 <= op /\ op <= 22 \/ op = 23 \/ op = 25)
  (hk : ∀ i, i < l.length -> (at2 l i).1 <= lki ks i /\ lki ks i <= (at2 l i).2) : (zh vs op n l).1 <= jE vals op n ks /\ jE vals op n ks <= (zh vs op n l).2 := by
 have hg : ∀ i, i < l.length -> yn (at2 l i) := fun i hi => hn.good _ (zem hi)
 have hf : ∀ b, 0 <= yW b /\ yW b <= 1 := fun b => by cases b <;> simp [yW]
 unfold yn at hg
 unfold zh jE
 by_cases c0 : op = 0
 . rw [if_pos c0, if_pos c0]; exact ⟨Int.le_refl _, Int.le_refl _⟩
 rw [if_neg c0, if_neg c0]
 by_cases c24 : op = 24
 ·
  rw [if_pos c24, if_pos c24]
  have h1 := hn.var c24
  obtain ⟨v, hv⟩ : ∃ v, vs[n.toNat]? = some v := ⟨_, zm8 (by omega)⟩
  rw [zel hv]
  exact hV.at_ _ _ hv
 rw [if_neg c24, if_neg c24]
 by_cases c6 : op = 6
 ·
  have := hn.k1 (.inl c6); have := hk 0 (by omega)
  rw [if_pos c6, if_pos c6]; dsimp only; omega
 rw [if_neg c6, if_neg c6]
 by_cases c7 : op = 7
 ·
  rw [if_pos c7]
  repeat rw [if_neg (by omega)]
  exact hf _
 rw [if_neg c7]
 by_cases c23 : op = 23
 ·
  have h3 := hn.k3 (.inl c23)
  rw [if_pos c23]
  repeat rw [if_neg (show ¬ op = _ by omega)]
  rw [if_pos (.inl c23)]
  have hm := zbT (at2 l 1) (l.drop 2)
  split
  . have := hk 1 (by omega); omega
  ·
   have h2 : 2 < l.length := by have := h23 c23; omega
   have := hk 2 (by omega)
   have := hm.2 (at2 l 2) (by
    unfold at2
    rw [zm8 h2]
    exact List.mem_iff_getElem?.2 ⟨0, by rw [List.getElem?_drop]; exact zm8 h2⟩)
   omega
 rw [if_neg c23]
 by_cases c25 : op = 25
 ·
  have h3 := hn.k3 (.inr c25)
  rw [if_pos c25]
  repeat rw [if_neg (show ¬ op = _ by omega)]
  rw [if_pos (.inr c25)]
  have hm := zbT (at2 l 1) (l.drop 2)
  have hcl := qi (lki ks 0) (show (0 : Int) <= (ks.length : Int) - 2 by omega)
  obtain ⟨j, hj⟩ : ∃ j : Nat, xS (lki ks 0) 0 ((ks.length : Int) - 2) = j := Int.eq_ofNat_of_zero_le hcl.1
  have hj2 : j + 2 <= l.length := by omega
  rw [hj, show (1 + (j : Int)).toNat = j + 1 by omega]
  have := hk (j + 1) (by omega)
  by_cases h2 : j = 0
  . subst h2; have := hm.1; rw [Nat.zero_add] at *; omega
  ·
   have := hm.2 (at2 l (j + 1)) (by
    unfold at2
    rw [zm8 (show j + 1 < l.length by omega)]
    exact List.mem_iff_getElem?.2 ⟨j - 1, by rw [List.getElem?_drop, show 2 + (j - 1) = j + 1 by omega]; exact zm8 (by omega)⟩)
   omega
 rw [if_neg c25]
 have hb : 8 <= op /\ op <= 22 := by omega
 have hl2 := hn.k2 hb
 have h0 := hk 0 (by omega)
 have h1 := hk 1 (by omega)
 have g0 := hg 0 (by omega)
 have g1 := hg 1 (by omega)
 generalize lki ks 0 = x at *
 generalize lki ks 1 = y at *
 generalize at2 l 0 = r0 at *
 generalize at2 l 1 = r1 at *
 by_cases c8 : op = 8
 . rw [if_pos c8, qO, if_pos c8]; dsimp only; omega
 rw [if_neg c8]
 by_cases c9 : op = 9
 . rw [if_pos c9, qO, if_neg c8, if_pos c9]; dsimp only; omega
 rw [if_neg c9]
 by_cases c10 : op = 10
 ·
  rw [if_pos c10, qO, if_neg c8, if_neg c9, if_pos c10]
  have := zey h0 h1
  unfold yY yB
  simp only [List.foldl_cons, List.foldl_nil]
  omega
 rw [if_neg c10]
 by_cases c11 : op = 11
 ·
  rw [if_pos c11, qO, if_neg c8, if_neg c9, if_neg c10, if_pos c11]
  have := zfK x y (by omega)
  dsimp only
  split <;> omega
 rw [if_neg c11]
 by_cases c12 : op = 12
 ·
  rw [if_pos c12, qO, if_neg c8, if_neg c9, if_neg c10, if_neg c11, if_pos c12]
  have := zaE x y
  dsimp only
  generalize x - y * x.fdiv y = m at *
  split <;> split <;> split <;> omega
 rw [if_neg c12]
 by_cases c21 : op = 21
 ·
  rw [if_pos c21]
  have e : qO op x y = min x y := by
   unfold qO
   repeat rw [if_neg (show ¬ op = _ by omega)]
   rw [if_pos c21]
  rw [e]; dsimp only; omega
 rw [if_neg c21]
 by_cases c22 : op = 22
 ·
  rw [if_pos c22]
  have e : qO op x y = max x y := by
   unfold qO
   repeat rw [if_neg (show ¬ op = _ by omega)]
  rw [e]; dsimp only; omega
 rw [if_neg c22, if_neg (by omega)]
 have := zez (a := x) (b := y) c8 c9 c10 c11 c12 c21 (by omega) (by omega)
 dsimp only; omega
theorem zeA {vs : List Vr} {inp : Bool} (hv : ∀ v ∈ vs, yn (v.low, v.high)) {vals : List Int} (hV : InV vs vals) (t : Tm) : zx vs inp t = true -> ∀ r, rng vs t = some r -> r.1 <= xV vals t /\ xV vals t <= r.2 := by
 induction t using zk7 with
 | h t ih =>
  intro hf r hr
  rw [yz, Bool.and_eq_true, Bool.and_eq_true] at hf
  rw [za1, Option.bind_eq_some_iff] at hr
  obtain ⟨l, h1, h2⟩ := hr
  have hlen := xw _ _ h1
  have hn : NodeOk vs t.op t.n l := qg hlen hf.1.1 hf.1.2 (fun x hx => by
   obtain ⟨k, hk, hkx⟩ := qu _ _ h1 x hx
   exact qw hv k (zW hf.2 hk) x hkx) hv
  have hfit := hf.1.1
  have zm : ∀ (ks : List Tm) (m : List Rg), jw vs ks = some m -> ∀ (i : Nat) k, ks[i]? = some k -> rng vs k = some (at2 m i) := by
   intro ks
   induction ks with
   | nil => intro m _ i k h; simp at h
   | cons y ys ihy =>
    intro m hm i k hk
    simp only [jw, Option.bind_eq_some_iff, Option.map_eq_some_iff] at hm
    obtain ⟨z, g1, u, g2, rfl⟩ := hm
    cases i with
    | zero => simp at hk; subst hk; simpa [at2] using g1
    | succ i => simp at hk; have := ihy u g2 i k hk; simpa [at2] using this
  have H := zfL (n := t.n) (op := t.op) (ks := zfJ vals t.kids) (l := l) hV hn (by rw [zdj, hlen]) (fun h => by
    unfold yv at hfit
    rw [show zk t.op = 3 by unfold zk; rw [h]; rfl] at hfit
    simp at hfit; omega) (by
    by_cases h : 0 <= zk t.op \/ zk t.op = -2
    ·
     unfold zk at h
     repeat' split at h
     all_goals omega
    ·
     exfalso
     have := qt t.op
     rw [yc (.inl (by omega))] at hfit
     cases hfit) (fun i hi => by
    obtain ⟨k, hk⟩ : ∃ k, t.kids[i]? = some k := ⟨_, zm8 (by omega)⟩
    rw [zdk hk]
    exact ih k (zm9 hk) (zW hf.2 (zm9 hk)) _ (zm _ _ h1 i k hk))
  rw [zex]
  split at h2
  . cases h2; exact H
  . cases h2
end Go.Proofs.YtbkhagigkglgoaaGreatDoor
namespace Go.GL
section
variable {P : Program} {env : Env} {w : World} {dst : Option Tmp} {ty : TypeId} {pos : String} {aft : Array Edge} {g : Option (Nat × Bool)} {t t' : TypeId} {x y : Operand} {m j : Int}
theorem R.quo (hx : ev env x = some (.int .i64 m)) (hy : ev env y = some (.int .i64 j)) (hj : j ≠ 0) (hr : -9223372036854775808 < m /\ m <= 9223372036854775807) : ye P ⟨dst, .binOp .quo t x y t', ty, pos, aft, g⟩ env w (.int .i64 (m.tdiv j)) w := by
 intro n a ha
 have h1 : (m.tdiv j).natAbs <= m.natAbs := Int.natAbs_tdiv_le_natAbs m j
 have h2 : IntKind.i64.wrap (m.tdiv j) = m.tdiv j := xh (by omega)
 simp [execOp, ha.eval hx, ha.eval hy, eqGuard_quo, binOp_quo, Op.intDiv, hj, h2]
theorem R.rem (hx : ev env x = some (.int .i64 m)) (hy : ev env y = some (.int .i64 j)) (hj : j ≠ 0) (_ : -9223372036854775808 < m /\ m <= 9223372036854775807) : ye P ⟨dst, .binOp .rem t x y t', ty, pos, aft, g⟩ env w (.int .i64 (m.tmod j)) w := by
 intro n a ha
 simp [execOp, ha.eval hx, ha.eval hy, eqGuard_rem, binOp_rem, Op.intDiv, hj]
end
theorem zeB (a b : Int) (hb : b ≠ 0) : a.fdiv b = if a.tmod b ≠ 0 /\ (decide (a < 0) ≠ decide (b < 0)) then a.tdiv b - 1 else a.tdiv b := by
 rw [Int.fdiv_eq_tdiv]
 have hd : b ∣ a ↔ a.tmod b = 0 := ⟨Int.tmod_eq_zero_of_dvd, Int.dvd_of_tmod_eq_zero⟩
 by_cases h : b ∣ a
 . rw [if_pos h, if_neg (fun h2 => h2.1 (hd.1 h))]; omega
 ·
  have hm : a.tmod b ≠ 0 := fun h2 => h (hd.2 h2)
  rw [if_neg h]
  by_cases ha : 0 <= a
  ·
   rw [if_pos ha]
   by_cases hb2 : 0 <= b
   . rw [if_pos hb2, if_neg (fun h2 => h2.2 (by rw [decide_eq_false (by omega), decide_eq_false (by omega)]))]; omega
   . rw [if_neg hb2, if_pos ⟨hm, by rw [decide_eq_false (by omega), decide_eq_true (by omega)]; decide⟩]
  ·
   rw [if_neg ha]
   by_cases hb2 : 0 <= b
   . rw [if_pos hb2, if_pos ⟨hm, by rw [decide_eq_true (by omega), decide_eq_false (by omega)]; decide⟩, Int.sign_eq_one_of_pos (by omega)]
   . rw [if_neg hb2, if_neg (fun h2 => h2.2 (by rw [decide_eq_true (by omega), decide_eq_true (by omega)])), Int.sign_eq_neg_one_of_neg (by omega)]; omega
end Go.GL
namespace Go.Proofs.YtbkhagigkglgoaaGreatDoor
open Go.GL
abbrev zfq (a : Int) : Prop := -1048576 <= a /\ a <= 1048576
theorem jl (a b : Int) (w : World) (ha : zfq a) (hb : zfq b) : Calls Tryz.prog 191 #[.int .i64 a, .int .i64 b] w (Ret fun r w' => r = .int .i64 (a.fdiv b) /\ Ext w w') := by
 have hE := Keep.refl (fun _ => False) w
 refine zkH Tryz.func191 O Tryz.ntmps191 O (Gs 12 O (ziA O (fun h0 => ?_) (fun h0 => ?_)))
 ·
  subst h0
  refine Gs 7 O (ziU tr191 O ⟨_, rfl, by rw [Int.fdiv_zero], hE⟩)
 ·
  have hd := zeB a b h0
  have hq : (a.tdiv b).natAbs <= a.natAbs := Int.natAbs_tdiv_le_natAbs a b
  refine Gs 6 O (zkw O O (R.quo O O h0 (by omega)) (Gs 8 O (zkw O O (R.rem O O h0 (by omega)) (Gs 2 O (zkr 15 O (fun h1 => ?_) (fun h1 => ?_))))))
  ·
   refine Gs 8 O (ziA O (fun h2 => ?_) (fun h2 => ?_))
   . refine Ga 13 O (by omega) (ziU tr191 O ⟨_, rfl, by rw [hd, if_pos ⟨h1, h2⟩], hE⟩)
   . refine Gs 9 O (ziU tr191 O ⟨_, rfl, by rw [hd, if_neg (fun h => h2 h.2)], hE⟩)
  . refine Gs 18 O (ziU tr191 O ⟨_, rfl, by rw [hd, if_neg (fun h => h1 h.1)], hE⟩)
theorem zdL (a b : Int) (hb : b ≠ 0) : -(a.natAbs : Int) - b.natAbs <= b * a.fdiv b /\ b * a.fdiv b <= (a.natAbs : Int) + b.natAbs := by
 have h := zaE a b
 generalize b * a.fdiv b = q at *
 omega
theorem zb8 (a b : Int) (w : World) (ha : zfq a) (hb : zfq b) : Calls Tryz.prog 192 #[.int .i64 a, .int .i64 b] w (Ret fun r w' => r = .int .i64 (if b = 0 then 0 else a - b * a.fdiv b) /\ Ext w w') := by
 have hE := Keep.refl (fun _ => False) w
 refine zkH Tryz.func192 O Tryz.ntmps192 O (Gs 12 O (ziA O (fun h0 => ?_) (fun h0 => ?_)))
 . refine Gs 7 O (ziU Tryz.results192 O ⟨_, rfl, by rw [if_pos h0], hE⟩)
 ·
  have hm := zdL a b h0
  refine Gs 8 O (G.call O Tryz.call191 (jl a b _ ha hb) ?_)
  rintro _ wz1 ⟨rfl, hz1⟩
  replace hE := Tr1 hz1 hE
  refine Ga 6 O (by omega) (ziU Tryz.results192 O ⟨_, rfl, by rw [if_neg h0], hE⟩)
theorem zb9 (op a b : Int) (w : World) (ha : zfq a) (hb : zfq b) : Calls Tryz.prog 178 #[.int .i64 op, .int .i64 a, .int .i64 b] w (Ret fun r w' => r = .int .i64 (qO op a b) /\ Ext w w') := by
 have hE := Keep.refl (fun _ => False) w
 have hml := za0 ha hb
 refine zkI Tryz.func178 O Tryz.ntmps178 O (Gs 18 O (ziA O (fun hh1 => ?_) (fun hh1 => ?_)))
 . refine Ga 11 O (by omega) (ziU tr178 O ⟨_, rfl, by simp [qO, hh1], hE⟩)
 ·
  refine Gs 6 O (ziA O (fun hh2 => ?_) (fun hh2 => ?_))
  . refine Ga 11 O (by omega) (ziU tr178 O ⟨_, rfl, by simp [qO, hh2], hE⟩)
  ·
   refine Gs 6 O (ziA O (fun hh3 => ?_) (fun hh3 => ?_))
   . refine Ga 11 O (by omega) (ziU tr178 O ⟨_, rfl, by simp [qO, hh3], hE⟩)
   ·
    refine Gs 6 O (ziA O (fun hh4 => ?_) (fun hh4 => ?_))
    ·
     refine Gs 4 O (G.call O Tryz.call191 (jl a b _ ha hb) ?_)
     rintro _ wz5 ⟨rfl, hz5⟩
     replace hE := Tr1 hz5 hE
     refine Gs 6 O (ziU tr178 O ⟨_, rfl, by simp [qO, hh4], hE⟩)
    ·
     refine Gs 6 O (ziA O (fun hh6 => ?_) (fun hh6 => ?_))
     ·
      refine Gs 4 O (G.call O Tryz.call192 (zb8 a b _ ha hb) ?_)
      rintro _ wz7 ⟨rfl, hz7⟩
      replace hE := Tr1 hz7 hE
      refine Gs 6 O (ziU tr178 O ⟨_, rfl, by simp [qO, hh6], hE⟩)
     ·
      refine Gs 6 O (ziA O (fun hh8 => ?_) (fun hh8 => ?_))
      ·
       refine Gs 5 O (G.call O tc177 (zK _ _) ?_)
       rintro _ wz9 ⟨rfl, hz9⟩
       replace hE := Tr1 hz9 hE
       refine Gs 6 O (ziU tr178 O ⟨_, rfl, by simp [qO, yW, hh8], hE⟩)
      ·
       refine Gs 6 O (ziA O (fun hh10 => ?_) (fun hh10 => ?_))
       ·
        refine Gs 5 O (G.call O tc177 (zK _ _) ?_)
        rintro _ wz11 ⟨rfl, hz11⟩
        replace hE := Tr1 hz11 hE
        refine Gs 6 O (ziU tr178 O ⟨_, rfl, by simp [qO, yW, hh10], hE⟩)
       ·
        refine Gs 6 O (ziA O (fun hh12 => ?_) (fun hh12 => ?_))
        ·
         refine Gs 5 O (G.call O tc177 (zK _ _) ?_)
         rintro _ wz13 ⟨rfl, hz13⟩
         replace hE := Tr1 hz13 hE
         refine Gs 6 O (ziU tr178 O ⟨_, rfl, by simp [qO, yW, hh12], hE⟩)
        ·
         refine Gs 6 O (ziA O (fun hh14 => ?_) (fun hh14 => ?_))
         ·
          refine Gs 5 O (G.call O tc177 (zK _ _) ?_)
          rintro _ wz15 ⟨rfl, hz15⟩
          replace hE := Tr1 hz15 hE
          refine Gs 6 O (ziU tr178 O ⟨_, rfl, by simp [qO, yW, hh14], hE⟩)
         ·
          refine Gs 6 O (ziA O (fun hh16 => ?_) (fun hh16 => ?_))
          ·
           refine Gs 5 O (G.call O tc177 (zK _ _) ?_)
           rintro _ wz17 ⟨rfl, hz17⟩
           replace hE := Tr1 hz17 hE
           refine Gs 6 O (ziU tr178 O ⟨_, rfl, by simp [qO, yW, hh16], hE⟩)
          ·
           refine Gs 6 O (ziA O (fun hh18 => ?_) (fun hh18 => ?_))
           ·
            refine Gs 5 O (G.call O tc177 (zK _ _) ?_)
            rintro _ wz19 ⟨rfl, hz19⟩
            replace hE := Tr1 hz19 hE
            refine Gs 6 O (ziU tr178 O ⟨_, rfl, by simp [qO, yW, hh18], hE⟩)
           ·
            refine Gs 6 O (ziA O (fun hh20 => ?_) (fun hh20 => ?_))
            ·
             refine Gs 5 O (zkr 73 O (fun hh21 => ?_) (fun hh21 => ?_))
             ·
              refine Gs 3 O (G.call O tc177 (zK _ _) ?_)
              rintro _ wz22 ⟨rfl, hz22⟩
              replace hE := Tr1 hz22 hE
              refine Gs 6 O (ziU tr178 O ⟨_, rfl, by simp [qO, yW, hh20, hh21], hE⟩)
             ·
              refine Gs 3 O (G.call O tc177 (zK _ _) ?_)
              rintro _ wz23 ⟨rfl, hz23⟩
              replace hE := Tr1 hz23 hE
              refine Gs 6 O (ziU tr178 O ⟨_, rfl, by simp [qO, yW, hh20, hh21], hE⟩)
            ·
             refine Gs 6 O (ziA O (fun hh24 => ?_) (fun hh24 => ?_))
             ·
              refine Gs 5 O (zkr 82 O (fun hh25 => ?_) (fun hh25 => ?_))
              ·
               refine Gs 3 O (G.call O tc177 (zK _ _) ?_)
               rintro _ wz26 ⟨rfl, hz26⟩
               replace hE := Tr1 hz26 hE
               refine Gs 6 O (ziU tr178 O ⟨_, rfl, by simp [qO, yW, hh24, hh25], hE⟩)
              ·
               refine Gs 3 O (G.call O tc177 (zK _ _) ?_)
               rintro _ wz27 ⟨rfl, hz27⟩
               replace hE := Tr1 hz27 hE
               refine Gs 6 O (ziU tr178 O ⟨_, rfl, by simp [qO, yW, hh24, hh25], hE⟩)
             ·
              refine Gs 6 O (ziA O (fun hh28 => ?_) (fun hh28 => ?_))
              . refine Gs 11 O (ziU tr178 O ⟨_, rfl, by simp [qO, hh28], hE⟩)
              . refine Gs 12 O (ziU tr178 O ⟨_, rfl, by simp [qO, hh1, hh2, hh3, hh4, hh6, hh8, hh10, hh12, hh14, hh16, hh18, hh20, hh24, hh28], hE⟩)
structure TmOk (vs : List Vr) (vals : List Int) (t : Tm) : Prop where
 ops : t.op = 0 \/ t.op = 24 \/ t.op = 6 \/ t.op = 7 \/ 8 <= t.op /\ t.op <= 22 \/ t.op = 23 \/ t.op = 25
 k1 : t.op = 6 \/ t.op = 7 -> t.kids.length = 1
 k2 : 8 <= t.op /\ t.op <= 22 -> t.kids.length = 2
 k3 : t.op = 23 -> t.kids.length = 3
 k25 : t.op = 25 -> 2 <= t.kids.length /\ t.kids.length <= 33
 var : t.op = 24 -> 0 <= t.n /\ t.n < vs.length
 self : zfq (xV vals t)
 kid : ∀ k ∈ t.kids, zfq (xV vals k)
theorem tmOk {vs : List Vr} {inp : Bool} (hv : ∀ v ∈ vs, yn (v.low, v.high)) {vals : List Int} (hV : InV vs vals) {t : Tm} (hf : zx vs inp t = true) (hr : (rng vs t).isSome = true) : TmOk vs vals t /\ ∀ k ∈ t.kids, zx vs inp k = true /\ (rng vs k).isSome = true := by
 obtain ⟨r, hr⟩ := Option.isSome_iff_exists.1 hr
 have hin : ∀ k, zx vs inp k = true -> ∀ r, rng vs k = some r -> zfq (xV vals k) := fun k h1 r h2 => by
  have h3 := zeA hv hV k h1 r h2
  have h4 := qw hv k h1 r h2
  unfold yn at h4
  exact ⟨by omega, by omega⟩
 have hself := hin t hf r hr
 rw [yz, Bool.and_eq_true, Bool.and_eq_true] at hf
 rw [za1, Option.bind_eq_some_iff] at hr
 obtain ⟨l, h1, h2⟩ := hr
 have hlen := xw _ _ h1
 have hgr : ∀ (ks : List Tm) (m : List Rg), jw vs ks = some m -> ∀ k ∈ ks, (rng vs k).isSome = true := by
  intro ks
  induction ks with
  | nil => intro m _ k h; simp at h
  | cons y ys ihy =>
   intro m hm k hk
   simp only [jw, Option.bind_eq_some_iff, Option.map_eq_some_iff] at hm
   obtain ⟨z, g1, u, g2, rfl⟩ := hm
   rcases List.mem_cons.1 hk with rfl | hk
   . rw [g1]; rfl
   . exact ihy u g2 k hk
 have hkid : ∀ k ∈ t.kids, zx vs inp k = true /\ (rng vs k).isSome = true := fun k hk => ⟨zW hf.2 hk, hgr _ _ h1 k hk⟩
 have hn : NodeOk vs t.op t.n l := qg hlen hf.1.1 hf.1.2 (fun x hx => by
  obtain ⟨k, hk, hkx⟩ := qu _ _ h1 x hx
  exact qw hv k (zW hf.2 hk) x hkx) hv
 refine ⟨⟨?_, fun h => by rw [<- hlen]; exact hn.k1 h, fun h => by rw [<- hlen]; exact hn.k2 h, fun h => ?_, fun h => by rw [<- hlen]; exact hn.k3 (.inr h), hn.var, hself, fun k hk => ?_⟩, hkid⟩
 ·
  by_cases h : 0 <= zk t.op \/ zk t.op = -2
  ·
   unfold zk at h
   repeat' split at h
   all_goals omega
  ·
   exfalso
   have := qt t.op
   have h3 := hf.1.1
   rw [yc (.inl (by omega))] at h3
   cases h3
 ·
  have h3 := hf.1.1
  unfold yv at h3
  rw [show zk t.op = 3 by unfold zk; rw [h]; rfl] at h3
  simp at h3; omega
 ·
  obtain ⟨h3, h4⟩ := hkid k hk
  obtain ⟨r', h5⟩ := Option.isSome_iff_exists.1 h4
  exact hin k h3 r' h5
def zgW (vals : List Int) (k : Tm) : Prop := ∀ (cs : List Value) (D Dv : Nat -> Prop) (w : World) (vv : Value), SlR 1 zF Dv w vv vals -> RTm D w k cs -> Calls Tryz.prog 148 #[vv, .agg cs.toArray] w (Ret fun r w' => r = .int .i64 (xV vals k) /\ Ext w w')
theorem zhB (vals : List Int) (t : Tm) (i : Nat) (k : Tm) (hk : t.kids[i]? = some k) (b2 b3 : Nat) (vv kv : Value) (D Dv : Nat -> Prop) (w : World) (hB2 : Blk w b2 [vv] 31) (hB3 : Blk w b3 [.int .i64 t.op, .int .i64 t.n, kv] 132) (hks : SlR 3 RTm D w kv t.kids) (hvv : SlR 1 zF Dv w vv vals) (ih : zgW vals k) :
  Calls Tryz.prog 176 #[.int .i64 i, .pointer (some ⟨b2, 0, none⟩), .pointer (some ⟨b3, 0, none⟩)] w (Ret fun r w' => r = .int .i64 (xV vals k) /\ Ext w w') := by
 have hE := Keep.refl (fun _ => False) w
 have hi := (List.getElem?_eq_some_iff.1 hk).1
 obtain ⟨a3, c3, rfl⟩ := hks.form
 obtain ⟨bk, ok, ck, hak, _, hck, hRk⟩ := hks.at hk
 obtain ⟨kv', rfl, hkk⟩ := hRk.get
 refine zkI Tryz.func176 O Tryz.ntmps176 O (Gs 6 O (Dw (fun q => Ext w q) [] (fun wd1 hD _ => ?_)))
 refine WD.take 0 O (by kernel_rfl) O O O hD (fun w1 hw1 => R.load tg31 O ((hw1.blk hB2 (fun h => h)).cells 0 _ O)) (Ds [1] (by kernel_rfl) O (WD.take 2 O (by kernel_rfl) O O O hD (fun w1 hw1 => R.load tg130 O ((hw1.blk hB3 (fun h => h)).cells 2 _ O)) (Ds [3] (by kernel_rfl) O (zjL 4 O (by kernel_rfl) O O O (fun w1 => zjj tR130 ts132 O O hak (by omega)) (WD.take 5 O (by kernel_rfl) O O O hD (fun w1 hw1 => zjl tg132 ts132 O (by rfl) (hw1.cells hck (fun h => h))) (WD.call 6 O (by kernel_rfl) O O O (F.call (vs := [_, _]) tc148 O) (ih _ D Dv _ _ (hvv.ext zc hD) (RTm.put (hkk.ext zo hD))) ?_))))))
 rintro _ wz2 ⟨rfl, hz2⟩
 replace hD := hD.ext hz2
 refine ⟨fun _ => hD, ?_⟩
 refine Ds [7] (by kernel_rfl) O (zjH (by kernel_rfl) ?_ _)
 replace hE := Tr1 hD hE
 refine Gs 2 O (ziU Tryz.results176 O ⟨_, rfl, rfl, hE⟩)
theorem jm {vs : List Vr} {inp : Bool} (hv : ∀ v ∈ vs, yn (v.low, v.high)) {vals : List Int} (hV : InV vs vals) (t : Tm) : zx vs inp t = true -> (rng vs t).isSome = true -> zgW vals t := by
 induction t using zk7 with
 | h t ih =>
 intro hf hr cs D Dv w vv hvv ht
 obtain ⟨ok, hkf⟩ := tmOk hv hV hf hr
 have ihk : ∀ k ∈ t.kids, zgW vals k := fun k hk => ih k hk (hkf k hk).1 (hkf k hk).2
 obtain ⟨kv, rfl, hks⟩ := ht.get
 obtain ⟨a3, c3, rfl⟩ := hks.form
 obtain ⟨av, cv, rfl⟩ := hvv.form
 have hve := zex vals t
 have hops := ok.ops
 have hE := Keep.refl (fun _ => False) w
 refine zkH Tryz.func148 O Tryz.ntmps148 O (Gs 2 O (zjs O O (M.box O O) ?_))
 rintro _ w_b2 ⟨b2, rfl, hg_b2, hs_b2, hB_b2, hk_b2⟩
 have hge_b2 : _ <= b2 := zme hE.size (Nat.le_of_eq hg_b2.symm)
 obtain ⟨hE, hks, hvv⟩ := Tr3 hk_b2 hE hks hvv
 refine zjs O O (M.box O O) ?_
 rintro _ w_b3 ⟨b3, rfl, hg_b3, hs_b3, hB_b3, hk_b3⟩
 have hn_b2_b3 : b2 ≠ b3 := by have := hB_b2.lt; omega
 have hge_b3 : _ <= b3 := zme hE.size (Nat.le_of_eq hg_b3.symm)
 obtain ⟨hE, hks, hvv, hB_b2⟩ := Tr4 hk_b3 hE hks hvv hB_b2
 refine Gs 13 O (zkA O tg129 (hB_b3.cells 0 _ O) (Gs 9 O ?_))
 have hkid : ∀ (i : Int) (j : Nat) (k : Tm), i = (j : Int) -> t.kids[j]? = some k -> ∀ w', Ext w_b3 w' -> Calls Tryz.prog 176 #[.int .i64 i, .pointer (some ⟨b2, 0, none⟩), .pointer (some ⟨b3, 0, none⟩)] w' (Ret fun r w'' => r = .int .i64 (xV vals k) /\ Ext w' w'') := fun i j k hij hk w' hw' => by
  subst hij
  exact zhB vals t j k hk b2 b3 _ _ D Dv w' (hw'.blk hB_b2 (fun h => h)) (hw'.blk hB_b3 (fun h => h)) (hks.ext zo hw') (hvv.ext zc hw') (ihk k (zm9 hk))
 have zm : ∀ i : Nat, i < t.kids.length -> ∃ k, t.kids[i]? = some k /\ lki (zfJ vals t.kids) i = xV vals k /\ zfq (xV vals k) := fun i hi => by
  obtain ⟨k, hk⟩ : ∃ k, t.kids[i]? = some k := ⟨_, zm8 hi⟩
  exact ⟨k, hk, zdk hk, ok.kid k (zm9 hk)⟩
 have hX := Keep.refl (fun _ => False) w_b3
 refine ziA O (fun c0 => ?_) (fun c0 => ?_)
 . refine Gs 3 O (zkA O tg3 (hB_b3.cells 1 _ O) (Gs 6 O (ziU tr148 O ⟨_, rfl, by rw [hve, jE, if_pos c0], hE⟩)))
 ·
  refine Gs 6 O (ziA O (fun c24 => ?_) (fun c24 => ?_))
  ·
   have hn := ok.var c24
   have hln := hV.len
   obtain ⟨bx, ox, cx, hax, _, hcx, rfl⟩ := hvv.at (zgw (l := vals) (i := t.n.toNat) (by omega))
   refine Gs 2 O (zkA O tg31 (hB_b2.cells 0 _ O) (Gs 1 O (zkA O tg3 (hB_b3.cells 1 _ O) (zkw O O (zjj tR31 ts3 O O hax (by omega)) (zkA O tg3 (hcx 0 _ O) (Gs 6 O (ziU tr148 O ⟨_, rfl, by rw [hve, jE, if_neg c0, if_pos c24], hE⟩)))))))
  ·
   refine Gs 6 O (ziA O (fun c6 => ?_) (fun c6 => ?_))
   ·
    have h1 := ok.k1 (.inl c6)
    obtain ⟨k0, hk0, hl0, hi0⟩ := zm 0 (by omega)
    refine Gs 3 O (zjp O tc176 (hkid 0 0 k0 O hk0 _ hX) ?_)
    rintro _ wz1 ⟨rfl, hz1⟩
    obtain ⟨hE, hks, hvv, hB_b2, hB_b3, hX⟩ := Tr6 hz1 hE hks hvv hB_b2 hB_b3 hX
    refine Ga 7 O (by omega) (ziU tr148 O ⟨_, rfl, by rw [hve, jE, if_neg c0, if_neg c24, if_pos c6, hl0], hE⟩)
   ·
    refine Gs 6 O (ziA O (fun c7 => ?_) (fun c7 => ?_))
    ·
     have h1 := ok.k1 (.inr c7)
     obtain ⟨k0, hk0, hl0, hi0⟩ := zm 0 (by omega)
     refine Gs 3 O (zjp O tc176 (hkid 0 0 k0 O hk0 _ hX) ?_)
     rintro _ wz2 ⟨rfl, hz2⟩
     obtain ⟨hE, hks, hvv, hB_b2, hB_b3, hX⟩ := Tr6 hz2 hE hks hvv hB_b2 hB_b3 hX
     refine Gs 1 O (G.call O tc177 (zK _ _) ?_)
     rintro _ wz3 ⟨rfl, hz3⟩
     obtain ⟨hE, hks, hvv, hB_b2, hB_b3, hX⟩ := Tr6 hz3 hE hks hvv hB_b2 hB_b3 hX
     refine Gs 6 O (ziU tr148 O ⟨_, rfl, by rw [hve, jE, if_neg c0, if_neg c24, if_neg c6, if_pos c7, hl0]; rfl, hE⟩)
    ·
     refine Gs 6 O (ziA O (fun c23 => ?_) (fun c23 => ?_))
     ·
      have h1 := ok.k3 c23
      obtain ⟨k0, hk0, hl0, hi0⟩ := zm 0 (by omega)
      obtain ⟨k1, hk1, hl1, hi1⟩ := zm 1 (by omega)
      obtain ⟨k2, hk2, hl2, hi2⟩ := zm 2 (by omega)
      refine Gs 4 O (zjp O tc176 (hkid 0 0 k0 O hk0 _ hX) ?_)
      rintro _ wz4 ⟨rfl, hz4⟩
      obtain ⟨hE, hks, hvv, hB_b2, hB_b3, hX⟩ := Tr6 hz4 hE hks hvv hB_b2 hB_b3 hX
      refine Gs 3 O (ziA O (fun z => ?_) (fun z => ?_))
      ·
       refine Gs 3 O (zjp O tc176 (hkid 1 1 k1 O hk1 _ hX) ?_)
       rintro _ wz5 ⟨rfl, hz5⟩
       obtain ⟨hE, hks, hvv, hB_b2, hB_b3, hX⟩ := Tr6 hz5 hE hks hvv hB_b2 hB_b3 hX
       refine Gs 7 O (ziU tr148 O ⟨_, rfl, by rw [hve, jE, if_neg c0, if_neg c24, if_neg c6, if_neg c7, if_pos c23, hl0, if_pos z, hl1], hE⟩)
      ·
       refine Gs 5 O (zjp O tc176 (hkid 2 2 k2 O hk2 _ hX) ?_)
       rintro _ wz6 ⟨rfl, hz6⟩
       obtain ⟨hE, hks, hvv, hB_b2, hB_b3, hX⟩ := Tr6 hz6 hE hks hvv hB_b2 hB_b3 hX
       refine Gs 6 O (ziU tr148 O ⟨_, rfl, by rw [hve, jE, if_neg c0, if_neg c24, if_neg c6, if_neg c7, if_pos c23, hl0, if_neg z, hl2], hE⟩)
     ·
      refine Gs 6 O (ziA O (fun c25 => ?_) (fun c25 => ?_))
      ·
       have h1 := ok.k25 c25
       obtain ⟨k0, hk0, hl0, hi0⟩ := zm 0 (by omega)
       have hcl := qi (xV vals k0) (show (0 : Int) <= (t.kids.length : Int) - 2 by omega)
       obtain ⟨kj, hkj, hlj, hij⟩ := zm (1 + xS (xV vals k0) 0 ((t.kids.length : Int) - 2)).toNat (by omega)
       refine Gs 1 O (Dw (fun q => Ext w_b3 q) [] (fun wd7 hD _ => ?_))
       refine Ds [0, 1, 3] (by kernel_rfl) O (WD.take 4 O (by kernel_rfl) O O O hD (fun w1 hw1 => R.load tg130 O ((hw1.blk hB_b3 (fun h => h)).cells 2 _ O)) (Da [5, 6] (by kernel_rfl) O (by omega) (WD.call 2 O (by kernel_rfl) O O O (zjo (vs := [_]) tc176 O O) (hkid 0 0 k0 O hk0 _ (hX.ext hD)) ?_)))
       rintro _ wz8 ⟨rfl, hz8⟩
       replace hD := hD.ext hz8
       refine ⟨fun _ => hD, ?_⟩
       refine WD.call 7 O (by kernel_rfl) O O O (F.call (vs := [_, _, _]) Tryz.call147 O) (qe _ _ _ _ (by omega)) ?_
       rintro _ wz9 ⟨rfl, hz9⟩
       replace hD := hD.ext hz9
       refine ⟨fun _ => hD, ?_⟩
       refine Da [8] (by kernel_rfl) O (by omega) (WD.call 9 O (by kernel_rfl) O O O (zjo (vs := [_]) tc176 O O) (hkid _ _ kj (by omega) hkj _ (hX.ext hD)) ?_)
       rintro _ wz10 ⟨rfl, hz10⟩
       replace hD := hD.ext hz10
       refine ⟨fun _ => hD, ?_⟩
       refine Ds [10] (by kernel_rfl) O (zjH (by kernel_rfl) ?_ _)
       obtain ⟨hE, hks, hvv, hB_b2, hB_b3, hX⟩ := Tr6 hD hE hks hvv hB_b2 hB_b3 hX
       refine Gs 4 O (ziU tr148 O ⟨_, rfl, by rw [hve, jE, if_neg c0, if_neg c24, if_neg c6, if_neg c7, if_neg c23, if_pos c25, hl0, zdj, hlj], hE⟩)
      ·
       have h1 := ok.k2 (by omega)
       obtain ⟨k0, hk0, hl0, hi0⟩ := zm 0 (by omega)
       obtain ⟨k1, hk1, hl1, hi1⟩ := zm 1 (by omega)
       refine Gs 4 O (Dw (fun q => Ext w_b3 q) [] (fun wd11 hD _ => ?_))
       refine Ds [0] (by kernel_rfl) O (WD.take 1 O (by kernel_rfl) O O O hD (fun w1 hw1 => R.load tg129 O ((hw1.blk hB_b3 (fun h => h)).cells 0 _ O)) (Ds [2, 4] (by kernel_rfl) O (WD.call 3 O (by kernel_rfl) O O O (zjo (vs := [_]) tc176 O O) (hkid 0 0 k0 O hk0 _ (hX.ext hD)) ?_)))
       rintro _ wz12 ⟨rfl, hz12⟩
       replace hD := hD.ext hz12
       refine ⟨fun _ => hD, ?_⟩
       refine WD.call 5 O (by kernel_rfl) O O O (zjo (vs := [_]) tc176 O O) (hkid 1 1 k1 O hk1 _ (hX.ext hD)) ?_
       rintro _ wz13 ⟨rfl, hz13⟩
       replace hD := hD.ext hz13
       refine ⟨fun _ => hD, ?_⟩
       refine WD.call 6 O (by kernel_rfl) O O O (F.call (vs := [_, _, _]) Tryz.call178 O) (zb9 _ _ _ _ hi0 hi1) ?_
       rintro _ wz14 ⟨rfl, hz14⟩
       replace hD := hD.ext hz14
       refine ⟨fun _ => hD, ?_⟩
       refine Ds [7] (by kernel_rfl) O (zjH (by kernel_rfl) ?_ _)
       obtain ⟨hE, hks, hvv, hB_b2, hB_b3, hX⟩ := Tr6 hD hE hks hvv hB_b2 hB_b3 hX
       refine Gs 2 O (ziU tr148 O ⟨_, rfl, by rw [hve, jE, if_neg c0, if_neg c24, if_neg c6, if_neg c7, if_neg c23, if_neg c25, hl0, hl1], hE⟩)
def yt (time : Int) (s : Int × Bool) (b : Int) : Int × Bool := if time <= b /\ (s.2 = false \/ b < s.1) then (b, true) else s
def qj (bounds : List Int) (time : Int) : Int := (bounds.foldl (yt time) (time, false)).1
theorem zdM {α β : Type} (f : β -> α -> β) (b : β) {l : List α} {i : Nat} {x : α} (h : l[i]? = some x) : (l.take (i + 1)).foldl f b = f ((l.take i).foldl f b) x := by rw [zg h, List.foldl_append]; rfl
theorem zav (l : List Int) (time : Int) (v : Value) (D : Nat -> Prop) (w : World) (hl : SlR 1 zF D w v l) : Calls Tryz.prog 151 #[v, .int .i64 time] w (Ret fun r w' => r = .int .i64 (qj l time) /\ Ext w w') := by
 have hmx := hl.max
 obtain ⟨al, cl, rfl⟩ := hl.form
 refine zkH Tryz.func151 O Tryz.ntmps151 O (Gs 21 O (G.loop (σ := Nat × Int × Bool) (fun ⟨i, b, fd⟩ => [(1, .int .i64 time), (5, .int .i64 b), (6, .bool fd), (10, .slice al l.length cl), (11, .int .i64 l.length), (12, .int .i64 i)]) (fun ⟨i, b, fd⟩ => fun w' => i <= l.length /\ (b, fd) = (l.take i).foldl (yt time) (time, false) /\ Ext w w') (fun ⟨i, b, fd⟩ => l.length - i) ((0, time, false)) (zkg O) (⟨Nat.zero_le _, rfl, Keep.refl _ _⟩) ?_))
 rintro ⟨i, b, fd⟩ w1 ⟨hi, hs, hL1⟩
 show G _ _ _ _ _ [(1, .int .i64 time), (5, .int .i64 b), (6, .bool fd), (10, .slice al l.length cl), (11, .int .i64 l.length), (12, .int .i64 i)] _
 replace hl := Tr1 hL1 hl
 refine Gs 6 O (ziA O (fun hlt => ?_) (fun hge => ?_))
 ·
  obtain ⟨x, he_x⟩ : ∃ x, l[i]? = some x := ⟨_, zm8 (by omega)⟩
  obtain ⟨bx, ox, cx, hax, _, hcx, rfl⟩ := hl.at he_x
  have hst := zdM (yt time) (time, false) he_x
  rw [<- hs, show yt time (b, fd) x = if time <= x /\ (fd = false \/ x < b) then (x, true) else (b, fd) from rfl] at hst
  refine Gs 6 O (zkw O O (zjj tR31 ts3 O O hax (by omega)) (zkA O tg3 (hcx 0 _ O) (Gs 9 O (zkr 19 O (fun h1 => ?_) (fun h1 => ?_)))))
  ·
   refine Gs 1 O (zkw O O (zk0 O (by first | exact za | rfl)) (Gs 1 O (zku 22 O (fun h2 => ?_) (fun h2 => ?_))))
   ·
    have h2' : fd = false := by simpa using h2
    refine Ga 19 O (by omega) (ziL ((i + 1, x, true)) (Sub.cons O (Sub.cons O (Sub.cons (by first | rfl | (show some (Value.bool true) = some (Value.bool _); simp [*])) (zkg O)))) (⟨by omega, by rw [hst, if_pos ⟨h1, .inl h2'⟩], hL1⟩) (by first | omega | (dsimp only; omega)))
   ·
    have h2' : fd = true := by simpa using h2
    refine Gs 7 O (ziA O (fun h3 => ?_) (fun h3 => ?_))
    . refine Ga 11 O (by omega) (ziL ((i + 1, x, true)) (Sub.cons O (Sub.cons O (Sub.cons (by first | rfl | (show some (Value.bool true) = some (Value.bool _); simp [*])) (zkg O)))) (⟨by omega, by rw [hst, if_pos ⟨h1, .inr h3⟩], hL1⟩) (by first | omega | (dsimp only; omega)))
    . refine Ga 7 O (by omega) (ziL ((i + 1, b, fd)) (zkg O) (⟨by omega, by rw [hst, if_neg (fun h => h.2.elim (fun h4 => by rw [h2'] at h4; cases h4) h3)], hL1⟩) (by first | omega | (dsimp only; omega)))
  . refine Ga 18 O (by omega) (ziL ((i + 1, b, fd)) (zkg O) (⟨by omega, by rw [hst, if_neg (fun h => h1 h.1)], hL1⟩) (by first | omega | (dsimp only; omega)))
 ·
  have : i = l.length := by omega
  subst this
  rw [zmd] at hs
  refine Gs 12 O (ziU Tryz.results151 O ⟨_, rfl, by rw [qj, <- hs], hL1⟩)
end Go.Proofs.YtbkhagigkglgoaaGreatDoor
namespace Go.GL
def xW (r : Ins) (k : Int) : List Int := if k = 1 then r.secret else if k = 2 then r.pub else r.random
structure StS where
 vals : List Int
 a : Nat
 b : Nat
 c : Nat
def zac (s : StS) (k : Int) : Nat := if k = 1 then s.a else if k = 2 then s.b else s.c
def kh (s : StS) (k : Int) (n : Int) : StS := if k = 1 then ⟨s.vals ++ [n], s.a + 1, s.b, s.c⟩ else if k = 2 then ⟨s.vals ++ [n], s.a, s.b + 1, s.c⟩ else ⟨s.vals ++ [n], s.a, s.b, s.c + 1⟩
def zy (r : Ins) (o : Option StS) (v : Vr) : Option StS := o.bind fun s => if v.kind = 0 then some { s with vals := s.vals ++ [v.init] } else ((xW r v.kind)[zac s v.kind]?).map fun n => kh s v.kind n
def jT (vs : List Vr) (r : Ins) : Option StS := vs.foldl (zy r) (some ⟨[], 0, 0, 0⟩)
def inB (p : Vr × Int) : Bool := decide (p.1.low <= p.2) && decide (p.2 <= p.1.high)
def ku (vs : List Vr) (r : Ins) (s : StS) : Int := if s.a ≠ r.secret.length \/ s.b ≠ r.pub.length \/ s.c ≠ r.random.length then 1 else if (vs.zip s.vals).all inB then 0 else 3
def zM (vs : List Vr) (r : Ins) : Int := match jT vs r with
 | none => 1
 | some s => ku vs r s
def xm (vs : List Vr) (r : Ins) : List Int := match jT vs r with
 | none => []
 | some s => s.vals
theorem zdN (r : Ins) (vs : List Vr) : vs.foldl (zy r) none = none := by
 induction vs with
 | nil => rfl
 | cons x t ih => rw [List.foldl_cons]; exact ih
theorem zcI {vs : List Vr} {r : Ins} {i : Nat} (h : (vs.take i).foldl (zy r) (some ⟨[], 0, 0, 0⟩) = none) : jT vs r = none := by
 have := List.take_append_drop i vs
 rw [jT, <- this, List.foldl_append, h, zdN]
theorem zad {vs : List Vr} {r : Ins} {i : Nat} {x : Vr} (h : vs[i]? = some x) {s : StS} (hs : (vs.take i).foldl (zy r) (some ⟨[], 0, 0, 0⟩) = some s) : (vs.take (i + 1)).foldl (zy r) (some ⟨[], 0, 0, 0⟩) = if x.kind = 0 then some { s with vals := s.vals ++ [x.init] } else ((xW r x.kind)[zac s x.kind]?).map fun n => kh s x.kind n := by
 rw [zg h, List.foldl_append, hs]; rfl
theorem jF (s : StS) (k n : Int) : (kh s k n).vals = s.vals ++ [n] := by
 unfold kh
 (repeat' split); all_goals rfl
theorem zaF {vs : List Vr} {r : Ins} : ∀ (i : Nat) (s : StS), i <= vs.length -> (vs.take i).foldl (zy r) (some ⟨[], 0, 0, 0⟩) = some s -> s.vals.length = i /\ s.a <= i /\ s.b <= i /\ s.c <= i := by
 intro i
 induction i with
 | zero => intro s _ h; simp at h; subst h; simp
 | succ i ih =>
  intro s hi h
  obtain ⟨x, hx⟩ : ∃ x, vs[i]? = some x := ⟨_, zm8 (by omega)⟩
  cases h1 : (vs.take i).foldl (zy r) (some ⟨[], 0, 0, 0⟩) with
  | none => rw [zg hx, List.foldl_append, h1] at h; cases h
  | some s0 =>
   obtain ⟨e1, e2, e3, e4⟩ := ih s0 (by omega) h1
   rw [zad hx h1] at h
   split at h
   . cases h; simp; omega
   ·
    obtain ⟨n, _, rfl⟩ := Option.map_eq_some_iff.1 h
    unfold kh
    (repeat' split); all_goals (simp; omega)
theorem zbU (s : StS) {k k' : Int} (hk : 1 <= k /\ k <= 3) (hk' : 1 <= k' /\ k' <= 3) (n : Int) : zac (kh s k n) k' = if k' = k then zac s k' + 1 else zac s k' := by
 have h1 : k = 1 \/ k = 2 \/ k = 3 := by omega
 have h2 : k' = 1 \/ k' = 2 \/ k' = 3 := by omega
 rcases h1 with rfl | rfl | rfl <;> rcases h2 with rfl | rfl | rfl <;> simp [kh, zac]
theorem zeC {vs : List Vr} {r : Ins} (hkd : ∀ v ∈ vs, 0 <= v.kind /\ v.kind <= 3) : ∀ (i : Nat) (s : StS), i <= vs.length -> (vs.take i).foldl (zy r) (some ⟨[], 0, 0, 0⟩) = some s -> ∀ k, 1 <= k -> k <= 3 -> zac s k <= (xW r k).length := by
 intro i
 induction i with
 | zero => intro s _ h k _ _; simp at h; subst h; unfold zac; (repeat' split); all_goals simp
 | succ i ih =>
  intro s hi h k hk1 hk3
  obtain ⟨x, hx⟩ : ∃ x, vs[i]? = some x := ⟨_, zm8 (by omega)⟩
  have hkx := hkd x (zm9 hx)
  cases h1 : (vs.take i).foldl (zy r) (some ⟨[], 0, 0, 0⟩) with
  | none => rw [zg hx, List.foldl_append, h1] at h; cases h
  | some s0 =>
   have e1 := ih s0 (by omega) h1 k hk1 hk3
   rw [zad hx h1] at h
   split at h
   . cases h; exact e1
   ·
    obtain ⟨n, hn, rfl⟩ := Option.map_eq_some_iff.1 h
    have := (List.getElem?_eq_some_iff.1 hn).1
    rw [zbU s0 (k := x.kind) (by omega) ⟨hk1, hk3⟩]
    split
    . rename_i h2; subst h2; omega
    . exact e1
theorem zbV {α : Type} [DecidableEq α] : ∀ {l l' : List α}, l.Nodup -> (∀ x ∈ l, x ∈ l') -> l.length <= l'.length
 | [], _, _, _ => Nat.zero_le _
 | x :: r, l', h, hs => by
  rw [List.nodup_cons] at h
  have h1 := hs x (zmc ..)
  have h2 := zbV (l := r) (l' := l'.erase x) h.2 (fun y hy => by
   refine (List.mem_erase_of_ne ?_).2 (hs y (zmb _ hy))
   rintro rfl; exact h.1 hy)
  rw [List.length_erase_of_mem h1] at h2
  have := List.length_pos_of_mem h1
  simp only [List.length_cons]; omega
theorem RanI.len {w : World} {it m : Nat} {l : List (Int × Value)} {seen : List Int} {cur : Option (Int × Value)} (h : RanI w it m l seen cur) : seen.length <= l.length := by
 obtain ⟨es, c, since, sb, c0, h1, h2, h3, h4, h5, h6, h7, h8, h9, h10, h11, _⟩ := h
 have := zbV (l := seen) (l' := l.map (·.1)) h10 (fun k hk => by
  obtain ⟨v, hv⟩ := h11 k hk
  exact List.mem_map.2 ⟨(k, v), zdh hv, rfl⟩)
 simpa using this
theorem zfM {vs : List Vr} {i : Nat} {x : Vr} (hx : vs[i]? = some x) (vals : List Int) (hv : vals.length = i) (n : Int) : ((vs.take (i + 1)).zip (vals ++ [n])).all inB = (((vs.take i).zip vals).all inB && inB (x, n)) := by
 have hi := (List.getElem?_eq_some_iff.1 hx).1
 rw [zg hx, List.zip_append (by rw [List.length_take]; omega), List.all_append]; simp
end Go.GL
namespace Go.Proofs.YtbkhagigkglgoaaGreatDoor
open Go.GL
def RestI (D : Nat -> Prop) (r : Ins) (s : StS) (w : World) (m : Nat) (l : List (Int × Value)) : Prop :=
 MapI w m l /\ (∀ k, 1 <= k -> k <= 3 -> ∃ v, zdg l k = some v /\ SlR 1 zF D w v ((xW r k).drop (zac s k))) /\ ∀ p ∈ l, 1 <= p.1 /\ p.1 <= 3
theorem RestI.ext {D : Nat -> Prop} {r : Ins} {s : StS} {w w' : World} {m : Nat} {l : List (Int × Value)} (h : RestI D r s w m l) (hk : Ext w w') : RestI D r s w' m l :=
 ⟨h.1.ext hk, fun k h1 h3 => by obtain ⟨v, h4, h5⟩ := h.2.1 k h1 h3; exact ⟨v, h4, h5.ext zc hk⟩, h.2.2⟩
theorem RestI.keep {D : Nat -> Prop} {r : Ins} {s : StS} {w w' : World} {S : Nat -> Prop} {m : Nat} {l : List (Int × Value)} (h : RestI D r s w m l) (hk : Keep S w w') (hm : ¬ S m) (hD : ∀ q, D q -> ¬ S q) : RestI D r s w' m l :=
 ⟨h.1.keep hk hm, fun k h1 h3 => by obtain ⟨v, h4, h5⟩ := h.2.1 k h1 h3; exact ⟨v, h4, h5.keep zc hk (fun q hq _ => hD q hq)⟩, h.2.2⟩
end Go.Proofs.YtbkhagigkglgoaaGreatDoor
namespace Go.GL
structure Sg where
 vals : List Int
 outs : List Int
 time : Int
end Go.GL
namespace Go.Proofs.YtbkhagigkglgoaaGreatDoor
open Go.GL
abbrev zi : Int -> Value := .int .i64
structure WkV where
 (W m : Nat) (v1 v2 v3 sv vv hv ov : Value) (rm : List (Int × Value))
def zaw (vs : List Vr) (vals : List Int) (v n : Int) : List Int := match vs[v.toNat]? with
 | some x => vals.set v.toNat (xS n x.low x.high)
 | none => vals
theorem InV.set {vs : List Vr} {vals : List Int} (hg : ∀ v ∈ vs, yn (v.low, v.high)) (h : InV vs vals) (v n : Int) : InV vs (zaw vs vals v n) := by
 unfold zaw
 cases hx : vs[v.toNat]? with
 | none => exact h
 | some x =>
  have hgx := hg x (zm9 hx)
  unfold yn at hgx
  have hc := qi n (show x.low <= x.high from hgx.2.1)
  refine ⟨by simp [h.len], fun i y hy => ?_⟩
  simp only [lki, List.getElem?_set]
  by_cases hi : v.toNat = i
  ·
   subst hi
   rw [hx] at hy; cases hy
   have := (List.getElem?_eq_some_iff.1 hx).1
   rw [if_pos rfl, if_pos (by rw [h.len]; exact this)]
   exact hc
  ·
   rw [if_neg hi]
   exact h.at_ i y hy
def qP (f : Fl) (hs : List Int) (s : St) (σ : Sg) : Sg :=
 if s.act = 0 then { σ with vals := zaw f.vars σ.vals s.var (xV σ.vals s.term), time := σ.time + s.cost }
 else if s.act = 1 then { σ with outs := σ.outs ++ [xV σ.vals s.term], time := σ.time + s.cost }
 else if s.act = 5 then { σ with vals := zaw f.vars σ.vals s.var (lki hs s.n.toNat), time := σ.time + s.cost }
 else if s.act = 6 then { σ with time := qj s.bounds (σ.time + s.cost) }
 else { σ with time := σ.time + s.cost }
structure StepOk (f : Fl) (s : St) : Prop where
 formed : zx f.vars false s.term = true
 ranged : (rng f.vars s.term).isSome = true
 small : s.term.nodes <= 1000000
 cost : 0 <= s.cost /\ s.cost <= 67108864
 var : s.act = 0 \/ s.act = 5 -> 0 <= s.var /\ s.var < f.vars.length
 num : s.act = 5 -> 0 <= s.n /\ s.n < f.hatches.length
structure WkM (w : World) (z z' : WkV) : Prop where
 W : z'.W = z.W
 m : z'.m = z.m
 vv : z'.vv = z.vv
 v1 : z'.v1 = z.v1
 sv : z'.sv = z.sv
 hv : z'.hv = z.hv
 ov : z'.ov.ownBlock = z.ov.ownBlock \/ ∃ g, z'.ov.ownBlock = some g /\ w.heap.size <= g
theorem WkM.refl (w : World) (z : WkV) : WkM w z z := ⟨rfl, rfl, rfl, rfl, rfl, rfl, .inl rfl⟩
def zhs (rd : Int -> Int) (k n : Int) : Int -> Int := fun j => if j = k then n else rd j
def zgX (f : Fl) (hs : List Int) (x : Nd) (s : St) (σ : Sg) (rd : Int -> Int) : Int × Sg × (Int -> Int) :=
 if x.kind = 0 then (x.next, σ, rd)
 else if x.kind = 2 then (x.next, qP f hs s σ, rd)
 else if x.kind = 4 then (x.next, σ, zhs rd x.at_ 0)
 else if x.kind = 5 /\ rd x.at_ = s.n then (x.other, σ, rd)
 else (if xV σ.vals s.term ≠ 0 then x.next else x.other, { σ with time := σ.time + s.cost }, if x.kind = 5 then zhs rd x.at_ (rd x.at_ + 1) else rd)
def RdM (rm : List (Int × Value)) (rd : Int -> Int) : Prop := ∀ k, (zdg rm k).getD (.int .i64 0) = .int .i64 (rd k)
theorem RdM.upd {rm : List (Int × Value)} {rd : Int -> Int} (h : RdM rm rd) (hn : (rm.map (·.1)).Nodup) (k n : Int) : RdM (zgV rm k (.int .i64 n)) (zhs rd k n) := by
 intro j
 rw [zew hn]
 unfold zhs
 by_cases e : j = k
 . rw [if_pos e, if_pos e]; rfl
 . rw [if_neg e, if_neg e]; exact h j
def xP (body : Sg -> Sg) (cost : Int) (t : Tm) : Nat -> Sg -> Sg
 | 0, σ => σ
 | k + 1, σ => if xV σ.vals t = 0 then { σ with time := σ.time + cost } else xP body cost t k (body { σ with time := σ.time + cost })
section
variable (f : Fl) (hs : List Int)
mutual
def exS : St -> Sg -> Sg
 | .mk a c v n t th el b, σ =>
  if a = 3 then (if xV σ.vals t ≠ 0 then exL th { σ with time := σ.time + c } else exL el { σ with time := σ.time + c })
  else if a = 4 then xP (fun σ => exL th σ) c t n.toNat σ
  else qP f hs (.mk a c v n t th el b) σ
def exL : List St -> Sg -> Sg
 | [], σ => σ
 | s :: r, σ => exL r (exS s σ)
end
theorem jn (s : St) (σ : Sg) : exS f hs s σ = if s.act = 3 then (if xV σ.vals s.term ≠ 0 then exL f hs s.thn { σ with time := σ.time + s.cost } else exL f hs s.els { σ with time := σ.time + s.cost })
  else if s.act = 4 then xP (exL f hs s.thn) s.cost s.term s.n.toNat σ else qP f hs s σ := by cases s; rw [exS]; rfl
structure Mc where
 at_ : Int
 σ : Sg
 rd : Int -> Int
def noSt : St := .mk 0 0 0 0 (.mk 0 0 []) [] [] []
def zht (g : List Nd) (k : Int) : Nd := g[k.toNat]?.getD ⟨1, -1, -1, -1⟩
def zgY (f : Fl) (k : Int) : St := (jx f.body)[k.toNat]?.getD noSt
def zgZ (g : List Nd) (m : Mc) : Mc :=
 ⟨(zgX f hs (zht g m.at_) (zgY f (zht g m.at_).at_) m.σ m.rd).1, (zgX f hs (zht g m.at_) (zgY f (zht g m.at_).at_) m.σ m.rd).2.1, (zgX f hs (zht g m.at_) (zgY f (zht g m.at_).at_) m.σ m.rd).2.2⟩
def zcJ (g : List Nd) : Nat -> Mc -> Mc
 | 0, m => m
 | k + 1, m => zcJ g k (zgZ f hs g m)
theorem zae (g : List Nd) : ∀ (a b : Nat) (m : Mc), zcJ f hs g (a + b) m = zcJ f hs g b (zcJ f hs g a m)
 | 0, b, m => by rw [Nat.zero_add]; rfl
 | a + 1, b, m => by rw [show a + 1 + b = (a + b) + 1 by omega]; exact zae g a b (zgZ f hs g m)
def Goes (g : List Nd) (lo hi : Int) (k : Nat) (m m' : Mc) : Prop := zcJ f hs g k m = m' /\ ∀ j, j < k -> lo <= (zcJ f hs g j m).at_ /\ (zcJ f hs g j m).at_ < hi
end
section
variable {f : Fl} {hs : List Int} {g : List Nd} {lo hi : Int} {k k' : Nat} {m m' m'' : Mc}
theorem Goes.refl (m : Mc) : Goes f hs g lo hi 0 m m := ⟨rfl, fun _ h => absurd h (Nat.not_lt_zero _)⟩
theorem Goes.trans (h : Goes f hs g lo hi k m m') (h' : Goes f hs g lo hi k' m' m'') : Goes f hs g lo hi (k + k') m m'' := by
 refine ⟨by rw [zae, h.1, h'.1], fun j hj => ?_⟩
 by_cases hjk : j < k
 . exact h.2 j hjk
 ·
  obtain ⟨i, rfl⟩ : ∃ i, j = k + i := ⟨j - k, by omega⟩
  rw [zae, h.1]
  exact h'.2 i (by omega)
theorem Goes.one (h : zgZ f hs g m = m') (h1 : lo <= m.at_ /\ m.at_ < hi) : Goes f hs g lo hi 1 m m' := by
 refine ⟨h, fun j hj => ?_⟩
 obtain rfl : j = 0 := by omega
 exact h1
end
mutual
def nbS : St -> Nat
 | .mk a _ _ n _ th el _ => if a = 3 then 1 + max (nbL th) (nbL el) else if a = 4 then 2 + n.toNat * (1 + nbL th) else 1
def nbL : List St -> Nat
 | [] => 0
 | s :: r => nbS s + nbL r
end
theorem zdl (s : St) : nbS s = if s.act = 3 then 1 + max (nbL s.thn) (nbL s.els) else if s.act = 4 then 2 + s.n.toNat * (1 + nbL s.thn) else 1 := by cases s; rw [nbS]; rfl
theorem zhC {vs : List Vr} {nh : Nat} (l : List St) : ∀ top, zb vs nh l top = 0 -> (nbL l : Int) <= 2 * (bds l).1 := by
 induction l using zk9 with
 | h l ih =>
 intro top h
 have hm := xl l top h
 have key : ∀ r : List St, (∀ x ∈ r, x ∈ l) -> (nbL r : Int) <= 2 * (bds r).1 := by
  intro r
  induction r with
  | nil => intro _; simp [nbL, bds]
  | cons x r ihr =>
   intro hx
   have h1 := ihr (fun y hy => hx y (zmb _ hy))
   obtain ⟨last, h2⟩ := hm x (hx x (zmc ..))
   obtain ⟨h3, _, _, h4, h5⟩ := xN h2
   have h6 := (ih x (hx x (zmc ..))).1 _ h4
   have h7 := (ih x (hx x (zmc ..))).2 _ h5
   have b4 := yA x.thn _ h4
   have b5 := yA x.els _ h5
   rw [nbL, bds]
   have : (nbS x : Int) <= 2 * (yh x).1 := by
    rw [zdl, zV]
    by_cases a4 : x.act = 4
    ·
     rw [if_neg (show ¬ x.act = 3 by omega), if_pos a4, if_pos a4]
     obtain ⟨n, hn⟩ := Int.eq_ofNat_of_zero_le (h3.rep a4).1
     rw [hn, Int.toNat_natCast]
     have : ((n * (1 + nbL x.thn) : Nat) : Int) <= (n : Int) * (2 * (1 + (bds x.thn).1)) := by
      rw [Int.natCast_mul]
      exact Int.mul_le_mul_of_nonneg_left (by omega) (by omega)
     have e : (n : Int) * (2 * (1 + (bds x.thn).1)) = 2 * ((n : Int) * (1 + (bds x.thn).1)) := by rw [Int.mul_left_comm]
     simp only
     omega
    ·
     rw [if_neg a4, if_neg a4]
     by_cases a3 : x.act = 3
     . rw [if_pos a3]; simp only; omega
     . rw [if_neg a3]; simp only; omega
   simp only
   omega
 exact key l (fun x h => h)
def CtxG (g : List Nd) (n : Nat) (ns : List Nd) : Prop := ∀ (i : Nat) x, ns[i]? = some x -> g[n + i]? = some x
def CtxP (P : List St) (a : Nat) (ps : List St) : Prop := ∀ (i : Nat) x, ps[i]? = some x -> P[a + i]? = some x
theorem CtxG.left {g : List Nd} {n : Nat} {a b : List Nd} (h : CtxG g n (a ++ b)) : CtxG g n a := fun i x hx => h i x (by rw [List.getElem?_append_left (List.getElem?_eq_some_iff.1 hx).1]; exact hx)
theorem zlL {g : List Nd} {n m : Nat} {a b : List Nd} (h : CtxG g n (a ++ b)) (hm : m = n + a.length) : CtxG g m b := fun i x hx => by
 rw [hm, Nat.add_assoc]; exact h _ x (by rw [List.getElem?_append_right (by omega)]; simpa using hx)
theorem CtxG.head {g : List Nd} {n : Nat} {x : Nd} {b : List Nd} (h : CtxG g n (x :: b)) : g[n]? = some x := h 0 x rfl
theorem CtxP.left {P : List St} {n : Nat} {a b : List St} (h : CtxP P n (a ++ b)) : CtxP P n a := fun i x hx => h i x (by rw [List.getElem?_append_left (List.getElem?_eq_some_iff.1 hx).1]; exact hx)
theorem zlM {P : List St} {n m : Nat} {a b : List St} (h : CtxP P n (a ++ b)) (hm : m = n + a.length) : CtxP P m b := fun i x hx => by
 rw [hm, Nat.add_assoc]; exact h _ x (by rw [List.getElem?_append_right (by omega)]; simpa using hx)
theorem CtxP.head {P : List St} {n : Nat} {x : St} {b : List St} (h : CtxP P n (x :: b)) : P[n]? = some x := h 0 x rfl
def SameR (a n : Nat) (rd rd' : Int -> Int) : Prop := ∀ k : Int, ¬ ((a : Int) <= k /\ k < (a + n : Nat)) -> rd' k = rd k
theorem SameR.refl (a n : Nat) (rd : Int -> Int) : SameR a n rd rd := fun _ _ => rfl
theorem SameR.trans {a n : Nat} {r1 r2 r3 : Int -> Int} (h : SameR a n r1 r2) (h' : SameR a n r2 r3) : SameR a n r1 r3 := fun k hk => (h' k hk).trans (h k hk)
theorem zlD {a n : Nat} {rd : Int -> Int} {k v : Int} (h : (a : Int) <= k /\ k < (a + n : Nat)) : SameR a n rd (zhs rd k v) := fun j hj => by
 unfold zhs; rw [if_neg (fun e => hj (by rw [e]; exact h))]
open Go.GL
theorem zeD {vs : List Vr} {nh : Nat} (l : List St) : ∀ top, zb vs nh l top = 0 -> ∀ s ∈ jx l, ∃ last, zA vs nh s last = 0 := by
 induction l using zk9 with
 | h l ih =>
 intro top h
 have hm := xl l top h
 have key : ∀ r : List St, (∀ x ∈ r, x ∈ l) -> ∀ s ∈ jx r, ∃ last, zA vs nh s last = 0 := by
  intro r
  induction r with
  | nil => intro _ s hs; simp [jx] at hs
  | cons x r ihr =>
   intro hx s hs
   obtain ⟨last, h2⟩ := hm x (hx x (zmc ..))
   obtain ⟨_, _, _, h4, h5⟩ := xN h2
   rw [jx, x.pre_eq, List.mem_append, List.mem_cons, List.mem_append] at hs
   rcases hs with (rfl | hs | hs) | hs
   . exact ⟨last, h2⟩
   . exact (ih x (hx x (zmc ..))).1 _ h4 s hs
   . exact (ih x (hx x (zmc ..))).2 _ h5 s hs
   . exact ihr (fun y hy => hx y (zmb _ hy)) s hs
 exact key l (fun x h => h)
theorem zeE (l : List St) : ∀ s ∈ jx l, s.nodes <= zj l := by
 induction l using zk9 with
 | h l ih =>
 have key : ∀ r : List St, (∀ x ∈ r, x ∈ l) -> ∀ s ∈ jx r, s.nodes <= zj r := by
  intro r
  induction r with
  | nil => intro _ s hs; simp [jx] at hs
  | cons x r ihr =>
   intro hx s hs
   have h1 := (ih x (hx x (zmc ..))).1
   have h2 := (ih x (hx x (zmc ..))).2
   have h3 := x.nodes_eq
   rw [jx, x.pre_eq, List.mem_append, List.mem_cons, List.mem_append] at hs
   rw [zj]
   rcases hs with (rfl | hs | hs) | hs
   . omega
   . have := h1 s hs; omega
   . have := h2 s hs; omega
   . have := ihr (fun y hy => hx y (zmb _ hy)) s hs; omega
 exact key l (fun x h => h)
theorem zeF {f : Fl} {s : St} {last : Bool} (h : zA f.vars f.hatches.length s last = 0) (hn : s.nodes <= 100000) : StepOk f s := by
 obtain ⟨h1, h2, h3, _, _⟩ := xN h
 have hse := s.nodes_eq
 unfold zC at h2
 split at h2
 ·
  rename_i hf
  split at h2
  ·
   rename_i hr
   refine ⟨hf, hr, by omega, h1.cost, fun ha => ?_, fun ha => ?_⟩
   ·
    unfold zf at h3
    rcases ha with ha | ha
    ·
     simp [ha, yG] at h3
     omega
    ·
     simp [ha, yG] at h3
     omega
   ·
    unfold zf at h3
    simp [ha, yG] at h3
    omega
  . cases h2
 . cases h2
def jo (s : St) : Prop := s.act = 6 -> ∀ b ∈ s.bounds, b <= 67108864
theorem zeG {l : List Int} (h : yF l = true) : ∀ (d i : Nat) x y, l[i]? = some x -> l[i + d]? = some y -> x <= y := by
 intro d
 induction d with
 | zero => intro i x y hx hy; rw [Nat.add_zero, hx] at hy; cases hy; exact Int.le_refl _
 | succ d ih =>
  intro i x y hx hy
  have hlt := (List.getElem?_eq_some_iff.1 hy).1
  obtain ⟨z, hz⟩ : ∃ z, l[i + d]? = some z := ⟨_, zm8 (by omega)⟩
  have h1 := ih i x z hx hz
  have h2 := (yL l).1 h (i + d) z y hz hy
  omega
theorem zcK {vs : List Vr} {nh : Nat} {s : St} {last : Bool} (h : zA vs nh s last = 0) : jo s := by
 intro a6 b hb
 obtain ⟨h1, h2, h3, _, _⟩ := xN h
 have h4 : zL s = true := by
  rw [zz] at h
  split at h
  . cases h
  split at h
  . cases h
  . rename_i h5; simpa using h5
 unfold zf at h3
 simp [a6, yd] at h3
 unfold zL at h4
 simp [a6] at h4
 have hr := h3.2.2
 obtain ⟨i, hi⟩ := List.mem_iff_getElem?.1 hb
 have hlt := (List.getElem?_eq_some_iff.1 hi).1
 obtain ⟨y, hy⟩ : ∃ y, s.bounds[s.bounds.length - 1]? = some y := ⟨_, zm8 (by omega)⟩
 have h5 := zeG hr (s.bounds.length - 1 - i) i b y hi (by rw [show i + (s.bounds.length - 1 - i) = s.bounds.length - 1 by omega]; exact hy)
 rw [hy] at h4
 simp at h4
 omega
theorem zbW (l : List Int) (t : Int) : qj l t = t \/ (qj l t ∈ l /\ t <= qj l t) := by
 have key : ∀ (l : List Int) (s : Int × Bool), (l.foldl (yt t) s).1 = s.1 \/ ((l.foldl (yt t) s).1 ∈ l /\ t <= (l.foldl (yt t) s).1) := by
  intro l
  induction l with
  | nil => intro s; exact .inl rfl
  | cons b r ih =>
   intro s
   rw [List.foldl_cons]
   rcases ih (yt t s b) with h | h
   ·
    rw [h]
    unfold yt
    split
    . rename_i h1; exact .inr ⟨zmc .., h1.1⟩
    . exact .inl O
   . exact .inr ⟨zmb _ h.1, h.2⟩
 exact key l (t, false)
structure Valid (f : Fl) : Prop where
 ok : zZ f = 0
 size : zj f.body + zB f.hatches <= 1024
 bulk : zr f.body <= 1000000
section
variable {f : Fl} (V : Valid f)
include V
theorem Valid.good : ∀ v ∈ f.vars, yn (v.low, v.high) := zaa (yo V.ok).2.1
theorem Valid.kinds : ∀ v ∈ f.vars, 0 <= v.kind /\ v.kind <= 3 := by
 have h := (yo V.ok).2.1
 have h1 : ∀ j, j < f.vars.length -> ji f.vars j = 0 := by
  unfold zt at h
  split at h
  . rename_i h2; exact absurd h h2
  ·
   rename_i h2
   intro j hj
   exact yT f.vars.length 0 (by simpa using h2) j (Nat.zero_le _) (by omega)
 exact fun v hv => (xx h1 v hv).2
theorem Valid.lens : f.vars.length <= 64 /\ f.hatches.length <= 8 := by
 have h := (yo V.ok).1
 unfold yX at h
 simp at h
 omega
theorem Valid.ssize : ssize f.body <= 1024 := zcH V.size
theorem Valid.step : ∀ s ∈ jx f.body, StepOk f s /\ jo s /\ (s.act = 4 -> 0 <= s.n /\ s.n <= 4096) := by
 intro s hs
 obtain ⟨last, h⟩ := zeD f.body true (yo V.ok).2.2.2.1 s hs
 have hn := zeE f.body s hs
 have := V.size
 exact ⟨zeF h (by omega), zcK h, fun a4 => ⟨((xN h).1.rep a4).1, ((xN h).1.rep a4).2.1⟩⟩
theorem Valid.nb : nbL f.body <= 8192 := by
 have h1 := zhC f.body true (yo V.ok).2.2.2.1
 have h2 := (yo V.ok).2.2.2.2
 unfold zb5 at h2
 simp at h2
 omega
end
theorem zeH {f : Fl} {hs : List Int} {s : St} {σ : Sg} {j : Nat} (hg : ∀ v ∈ f.vars, yn (v.low, v.high)) (ho : StepOk f s) (hset : jo s) (hV : InV f.vars σ.vals) (ht : 0 <= σ.time /\ σ.time <= (j : Int) * 67108864) (hol : σ.outs.length <= j) :
  InV f.vars (qP f hs s σ).vals /\ (0 <= (qP f hs s σ).time /\ (qP f hs s σ).time <= ((j + 1 : Nat) : Int) * 67108864) /\ (qP f hs s σ).outs.length <= j + 1 := by
 have hc := ho.cost
 unfold qP
 split
 . exact ⟨hV.set hg _ _, by dsimp only; omega, by dsimp only; omega⟩
 split
 . exact ⟨hV, by dsimp only; omega, by simp; omega⟩
 split
 . exact ⟨hV.set hg _ _, by dsimp only; omega, by dsimp only; omega⟩
 split
 ·
  rename_i a6
  refine ⟨hV, ?_, by dsimp only; omega⟩
  dsimp only
  rcases zbW s.bounds (σ.time + s.cost) with h | h
  . rw [h]; omega
  ·
   have := hset a6 _ h.1
   omega
 . exact ⟨hV, by dsimp only; omega, by dsimp only; omega⟩
open Go.GL
def zin (f : Fl) (x : Nd) : Bool := decide (x.kind = 2) && (decide ((zgY f x.at_).act = 0) || decide ((zgY f x.at_).act = 5))
def varD (f : Fl) (d : Int) : Int := if ((jx f.body).length : Int) <= d then d - (jx f.body).length else (zgY f d).var
def zio (f : Fl) (x : Nd) (d : Int) : Prop := (x.kind = 0 /\ ((jx f.body).length : Int) <= d /\ d < (jx f.body).length + f.vars.length) \/ (x.kind ≠ 0 /\ zin f x = true /\ d = x.at_)
def zhD (f : Fl) (x : Nd) (d : Int) : Prop := x.kind ≠ 0 /\ (zin f x = true -> varD f d ≠ (zgY f x.at_).var)
inductive Rch (f : Fl) (g : List Nd) : Int -> Int -> Prop
 | gen {i : Nat} {x : Nd} {to d : Int} : g[i]? = some x -> (to = x.next \/ to = x.other) -> 0 <= to -> zio f x d -> Rch f g to d
 | thru {i : Nat} {x : Nd} {to d : Int} : g[i]? = some x -> (to = x.next \/ to = x.other) -> 0 <= to -> Rch f g i d -> zhD f x d -> Rch f g to d
theorem Rch.step {f : Fl} {g : List Nd} {i : Nat} {x : Nd} {to d : Int} (hx : g[i]? = some x) (ht : to = x.next \/ to = x.other) (h0 : 0 <= to) (h : zio f x d \/ (Rch f g i d /\ zhD f x d)) : Rch f g to d :=
 h.elim (Rch.gen hx ht h0) (fun h => Rch.thru hx ht h0 h.1 h.2)
theorem zcL {vs : List Vr} (t : Tm) : zx vs true t = true -> zx vs false t = true := by
 induction t using zk7 with
 | h t ih =>
  intro h
  rw [yz, Bool.and_eq_true, Bool.and_eq_true] at h ⊢
  refine ⟨⟨h.1.1, ?_⟩, ?_⟩
  ·
   have h2 := h.1.2
   unfold xA at h2 ⊢
   split
   ·
    rename_i e
    rw [if_pos e, Bool.and_eq_true] at h2
    rw [h2.1]; rfl
   ·
    rename_i e
    rw [if_neg e] at h2
    exact h2
  ·
   have key : ∀ l : List Tm, (∀ k ∈ l, k ∈ t.kids) -> zS vs true l = true -> zS vs false l = true := by
    intro l
    induction l with
    | nil => intro _ _; rfl
    | cons x r ihr =>
     intro hm hf
     rw [zS, Bool.and_eq_true] at hf ⊢
     exact ⟨ih x (hm x (zmc ..)) hf.1, ihr (fun k hk => hm k (zmb _ hk)) hf.2⟩
   exact key t.kids (fun k h => h) h.2
theorem Valid.hatch {f : Fl} (V : Valid f) : ∀ h ∈ f.hatches, zx f.vars false h.term = true /\ (rng f.vars h.term).isSome = true /\ h.term.nodes <= 1000000 /\ h.low <= h.high := by
 intro h hm
 obtain ⟨i, hi⟩ := List.mem_iff_getElem?.1 hm
 have hlt := (List.getElem?_eq_some_iff.1 hi).1
 have h0 := (yo V.ok).2.2.1
 have h1 := yT f.hatches.length 0 h0 i (Nat.zero_le _) (by omega)
 rw [jD hi] at h1
 have hn := yQ hi
 have := V.size
 unfold zH at h1
 split at h1
 . cases h1
 split at h1
 . cases h1
 split at h1
 . cases h1
 ·
  rename_i hb
  unfold zC at h1
  split at h1
  ·
   rename_i hf
   split at h1
   ·
    rename_i hr
    refine ⟨zcL _ hf, hr, by omega, ?_⟩
    have hb' : zat h.low h.high = true := by simpa using hb
    unfold zat at hb'
    exact (of_decide_eq_true hb').1
   . cases h1
  . cases h1
def zfN (vals : List Int) (hs : List Ht) : List Int := hs.map fun h => xS (xV vals h.term) h.low h.high
theorem zeI {vals : List Int} {hs : List Ht} {i : Nat} {x : Ht} (h : hs[i]? = some x) : zfN vals (hs.take (i + 1)) = zfN vals (hs.take i) ++ [xS (xV vals x.term) x.low x.high] := by
 unfold zfN; rw [zg h, List.map_append]; rfl
theorem zbX {vs : List Vr} {r : Ins} (h : zM vs r = 0) : InV vs (xm vs r) := by
 unfold zM at h
 cases hs : jT vs r with
 | none => rw [hs] at h; cases h
 | some s =>
  rw [hs] at h
  have hv : xm vs r = s.vals := by unfold xm; rw [hs]
  have hl := zaF (vs := vs) (r := r) vs.length s (Nat.le_refl _) (by rw [zmd]; exact hs)
  simp only at h
  unfold ku at h
  split at h
  . cases h
  split at h
  ·
   rename_i ha
   rw [hv]
   refine ⟨hl.1, fun i v hi => ?_⟩
   have hlt := (List.getElem?_eq_some_iff.1 hi).1
   rw [List.all_eq_true] at ha
   have := ha (v, lki s.vals i) (List.mem_iff_getElem?.2 ⟨i, by
    rw [List.getElem?_zip_eq_some]
    exact ⟨hi, zgw (by omega)⟩⟩)
   unfold inB at this
   simp at this
   exact this
  . cases h
abbrev jp (f : Fl) (r : Ins) : List Int := zfN (xm f.vars r) f.hatches
abbrev jq (f : Fl) (r : Ins) : Sg := ⟨xm f.vars r, [], 0⟩
def qk (f : Fl) (r : Ins) : Sg := exL f (jp f r) f.body (jq f r)
theorem zfO : ∀ (D : Nat -> Prop) (w : World) (x : Int) (cs : List Value), zF D w x cs -> cs = [zi x] := fun _ _ _ _ h => h
structure SgB (f : Fl) (N : Nat) (σ : Sg) : Prop where
 inv : InV f.vars σ.vals
 t0 : 0 <= σ.time
 t1 : σ.time <= (N : Int) * 67108864
 ol : σ.outs.length <= N
theorem SgB.mono {f : Fl} {N M : Nat} {σ : Sg} (h : SgB f N σ) (hm : N <= M) : SgB f M σ := ⟨h.inv, h.t0, by have := h.t1; omega, by have := h.ol; omega⟩
theorem SgB.cost {f : Fl} {N : Nat} {σ : Sg} {s : St} (h : SgB f N σ) (ho : StepOk f s) : SgB f (N + 1) { σ with time := σ.time + s.cost } := by
 have := ho.cost
 exact ⟨h.inv, by have := h.t0; dsimp only; omega, by have := h.t1; dsimp only; omega, by have := h.ol; dsimp only; omega⟩
abbrev PreOk (f : Fl) (l : List St) : Prop := ∀ s ∈ jx l, StepOk f s /\ jo s /\ (s.act = 4 -> 0 <= s.n)
theorem PreOk.kids {f : Fl} {l : List St} (h : PreOk f l) {x : St} (hx : x ∈ l) : (StepOk f x /\ jo x /\ (x.act = 4 -> 0 <= x.n)) /\ PreOk f x.thn /\ PreOk f x.els := by
 have hm : ∀ s ∈ x.pre, s ∈ jx l := by
  intro s hs
  induction l with
  | nil => cases hx
  | cons y r ih =>
   rw [jx, List.mem_append]
   rcases List.mem_cons.1 hx with rfl | hx
   . exact .inl hs
   ·
    refine .inr (ih (fun s hs => h s ?_) hx)
    rw [jx, List.mem_append]; exact .inr hs
 rw [x.pre_eq] at hm
 exact ⟨h x (hm x (by simp)), fun s hs => h s (hm s (by simp [hs])), fun s hs => h s (hm s (by simp [hs]))⟩
theorem zbY {f : Fl} {body : Sg -> Sg} {s : St} (ho : StepOk f s) {b : Nat} (hb : ∀ N σ, SgB f N σ -> SgB f (N + b) (body σ)) : ∀ (k N : Nat) (σ : Sg), SgB f N σ -> SgB f (N + k * (1 + b)) (xP body s.cost s.term k σ)
 | 0, N, σ, h => by simpa [xP] using h
 | k + 1, N, σ, h => by
  unfold xP
  have h1 := h.cost ho
  rw [Nat.succ_mul]
  split
  . exact h1.mono (by omega)
  . exact (zbY ho hb k _ _ (hb _ _ h1)).mono (by omega)
theorem zaf {f : Fl} {hs : List Int} (hg : ∀ v ∈ f.vars, yn (v.low, v.high)) (l : List St) : PreOk f l -> ∀ N σ, SgB f N σ -> SgB f (N + nbL l) (exL f hs l σ) := by
 induction l using zk9 with
 | h l ih =>
 intro hp
 have key : ∀ r : List St, (∀ x ∈ r, x ∈ l) -> ∀ N σ, SgB f N σ -> SgB f (N + nbL r) (exL f hs r σ) := by
  intro r
  induction r with
  | nil => intro _ N σ h; exact h
  | cons x r ihr =>
   intro hm N σ h
   obtain ⟨⟨ho, hse, hn4⟩, hp1, hp2⟩ := hp.kids (hm x (zmc ..))
   obtain ⟨i1, i2⟩ := ih x (hm x (zmc ..))
   rw [exL, nbL, <- Nat.add_assoc]
   refine ihr (fun y hy => hm y (zmb _ hy)) _ _ ?_
   rw [jn, zdl]
   split
   ·
    split
    . exact (i1 hp1 _ _ (h.cost ho)).mono (by omega)
    . exact (i2 hp2 _ _ (h.cost ho)).mono (by omega)
   ·
    split
    . exact (zbY ho (i1 hp1) _ _ _ h).mono (by omega)
    ·
     obtain ⟨h1, h2, h3⟩ := zeH (hs := hs) hg ho hse h.inv ⟨h.t0, h.t1⟩ h.ol
     exact ⟨h1, h2.1, h2.2, h3⟩
 exact key l (fun x h => h)
theorem zaG (f : Fl) (hs : List Int) : ∀ (a b : List St) (σ : Sg), exL f hs (a ++ b) σ = exL f hs b (exL f hs a σ)
 | [], _, _ => rfl
 | x :: r, b, σ => by rw [List.cons_append, exL, exL, zaG f hs r b]
theorem jG : ∀ (a b : List St), nbL (a ++ b) = nbL a + nbL b
 | [], b => by rw [List.nil_append]; simp [nbL]
 | x :: r, b => by rw [List.cons_append, nbL, nbL, jG r b, Nat.add_assoc]
theorem zfP (l : List St) (i : Nat) : nbL (l.take i) <= nbL l := by
 have := jG (l.take i) (l.drop i)
 rw [List.take_append_drop] at this
 omega
theorem zh0 (s : St) : 1 <= nbS s := by
 rw [zdl]
 split
 . omega
 . split <;> omega
def zP (f : Fl) (r : Ins) : Int := if zZ f ≠ 0 then zZ f else zM f.vars r
theorem zba {f : Fl} (vd : Valid f) : PreOk f f.body := fun s hs => by
 obtain ⟨h1, h2, h3⟩ := vd.step s hs
 exact ⟨h1, h2, fun h => (h3 h).1⟩
theorem zag {f : Fl} {r : Ins} (h : zM f.vars r = 0) : SgB f 0 (jq f r) := ⟨zbX h, by dsimp only; omega, by dsimp only; omega, Nat.le_refl _⟩
end Go.Proofs.YtbkhagigkglgoaaGreatDoor
namespace Go.GL
theorem RFl.keep {D S : Nat -> Prop} {w w' : World} {f : Fl} {v1 v2 v3 : Value} (h : RFl D w f v1 v2 v3) (hk : Keep S w w') (hD : ∀ q, D q -> q < w.heap.size -> ¬ S q) : RFl D w' f v1 v2 v3 := ⟨h.vars.keep yN hk hD, h.hatches.keep yO hk hD, h.body.keep zd hk hD⟩
end Go.GL
namespace Go.Proofs.YtbkhagigkglgoaaGreatDoor
open Go.GL
structure MachOk (w : World) (bm : Nat) (v1 v2 v3 vv hv ov : Value) (σ : Sg) : Prop where
 box : Blk w bm [v1, v2, v3, vv, hv, ov, .int .i64 σ.time] 180
 vals : w.ownsRow 0 3 1 vv σ.vals.length (σ.vals.map zi)
 outs : w.ownsRow 0 3 1 ov σ.outs.length (σ.outs.map zi)
 a1 : vv.ownBlock ≠ some bm
 a2 : ov.ownBlock ≠ some bm
 a3 : ∀ q, vv.ownBlock = some q -> ov.ownBlock ≠ some q
def qB (bm : Nat) (vv ov : Value) (q : Nat) : Prop := q = bm \/ vv.ownBlock = some q \/ ov.ownBlock = some q
abbrev qQ (bm : Nat) (v1 v2 v3 vv hv ov : Value) (σ : Sg) : Hp := [(900, .own bm [v1, v2, v3, vv, hv, ov, .int .i64 σ.time] 180), (901, .row 3 1 vv σ.vals.length (σ.vals.map zi)), (902, .row 3 1 ov σ.outs.length (σ.outs.map zi))]
def MachPost (w w' : World) (bm : Nat) (v1 v2 v3 vv hv ov : Value) (σ' : Sg) : Prop := ∃ ov', MachOk w' bm v1 v2 v3 vv hv ov' σ' /\ Keep (qB bm vv ov) w w' /\ (ov'.ownBlock = ov.ownBlock \/ ∃ g, ov'.ownBlock = some g /\ w.heap.size <= g)
section
variable {w w' : World} {bm : Nat} {v1 v2 v3 vv hv ov : Value} {σ σ' : Sg}
theorem MachOk.lent (h : MachOk w bm v1 v2 v3 vv hv ov σ) : (∀ x ∈ qQ bm v1 v2 v3 vv hv ov σ, x.2.holds w /\ x.2.loc /\ (∀ b, ¬ x.2.fz b) /\ ∀ q, x.2.S q -> q < w.heap.size) /\ (qQ bm v1 v2 v3 vv hv ov σ).Pairwise (fun x y => ∀ q, x.2.S q -> ¬ y.2.S q) := by
 refine ⟨?_, ?_⟩
 ·
  intro x hx
  simp only [List.mem_cons, List.not_mem_nil, or_false] at hx
  rcases hx with rfl | rfl | rfl
  . exact ⟨h.box, trivial, fun _ h => h, fun q hq => by have hq : q = bm := hq; rw [hq]; exact h.box.lt⟩
  . exact ⟨h.vals, trivial, fun _ h => h, fun q hq => xi h.vals hq⟩
  . exact ⟨h.outs, trivial, fun _ h => h, fun q hq => xi h.outs hq⟩
 ·
  refine List.pairwise_cons.2 ⟨fun x hx q hq hs => ?_, List.pairwise_cons.2 ⟨fun x hx q hq hs => ?_, List.pairwise_singleton _ _⟩⟩
  ·
   have hq : q = bm := hq
   subst hq
   simp only [List.mem_cons, List.not_mem_nil, or_false] at hx
   rcases hx with rfl | rfl
   . exact h.a1 hs
   . exact h.a2 hs
  ·
   simp only [List.mem_cons, List.not_mem_nil, or_false] at hx
   subst hx
   exact h.a3 q hq hs
theorem machHS {q : Nat} : HS (qQ bm v1 v2 v3 vv hv ov σ) q ↔ qB bm vv ov q := by
 unfold HS qB
 constructor
 ·
  rintro ⟨x, hx, hq⟩
  simp only [List.mem_cons, List.not_mem_nil, or_false] at hx
  rcases hx with rfl | rfl | rfl
  . exact .inl hq
  . exact .inr (.inl hq)
  . exact .inr (.inr hq)
 ·
  rintro (hq | hq | hq)
  . exact ⟨_, zmc .., hq⟩
  . exact ⟨_, zmb _ (zmc ..), hq⟩
  . exact ⟨_, zmb _ (zmb _ (zmc ..)), hq⟩
theorem jU {Bs : ya} {H : Hp} (hI : VI Bs H w) (h0 : zm H 900 = some (.own bm [v1, v2, v3, vv, hv, ov, .int .i64 σ.time] 180)) (h1 : zm H 901 = some (.row 3 1 vv σ.vals.length (σ.vals.map zi))) (h2 : zm H 902 = some (.row 3 1 ov σ.outs.length (σ.outs.map zi))) : MachOk w bm v1 v2 v3 vv hv ov σ :=
 ⟨hI.at 900 h0, hI.at 901 h1, hI.at 902 h2, fun h => zw hI.apart h0 h1 rfl bm rfl h, fun h => zw hI.apart h0 h2 rfl bm rfl h, fun q hq hs => zw hI.apart h1 h2 rfl q hq hs⟩
theorem kw {H : Hp} {σ0 : Sg} {ov0 : Value} {w0 : World} (hI : VI [(w0, HS (qQ bm v1 v2 v3 vv hv ov0 σ0))] H w) (h0 : zm H 900 = some (.own bm [v1, v2, v3, vv, hv, ov, .int .i64 σ.time] 180)) (h1 : zm H 901 = some (.row 3 1 vv σ.vals.length (σ.vals.map zi))) (h2 : zm H 902 = some (.row 3 1 ov σ.outs.length (σ.outs.map zi))) (ho : ov.ownBlock = ov0.ownBlock \/ ∃ g, ov.ownBlock = some g /\ w0.heap.size <= g) : MachPost w0 w bm v1 v2 v3 vv hv ov0 σ :=
 ⟨ov, jU hI h0 h1 h2, hI.k0.mono fun _ _ hq => machHS.1 hq, ho⟩
theorem MachPost.hands {H : Hp} (hp : MachOk w' bm v1 v2 v3 vv hv ov σ') {ov0 : Value} (hk : Keep (qB bm vv ov0) w w') (ho : ov.ownBlock = ov0.ownBlock \/ ∃ g, ov.ownBlock = some g /\ w.heap.size <= g) (h0 : zm H 900 = some (.own bm [v1, v2, v3, vv, hv, ov0, .int .i64 σ.time] 180)) (h1 : zm H 901 = some (.row 3 1 vv σ.vals.length (σ.vals.map zi))) (h2 : zm H 902 = some (.row 3 1 ov0 σ.outs.length (σ.outs.map zi))) : Hands H [900, 901, 902] (qQ bm v1 v2 v3 vv hv ov σ') w w' := by
 obtain ⟨g1, g2⟩ := hp.lent
 have i0 : ∀ q, q = bm -> InS H [900, 901, 902] q := fun q hq => ⟨_, zl h0, rfl, hq⟩
 have i1 : ∀ q, vv.ownBlock = some q -> InS H [900, 901, 902] q := fun q hq => ⟨_, zl h1, rfl, hq⟩
 have i2 : ∀ q, ov0.ownBlock = some q -> InS H [900, 901, 902] q := fun q hq => ⟨_, zl h2, rfl, hq⟩
 refine ⟨hk.mono fun q _ hq => hq.elim (i0 q) fun hq => hq.elim (i1 q) (i2 q), fun x hx => ?_, g2⟩
 obtain ⟨k1, k2, k3, k4⟩ := g1 x hx
 refine ⟨k1, k2, k3, fun q hq => ⟨?_, k4 q hq⟩⟩
 simp only [List.mem_cons, List.not_mem_nil, or_false] at hx
 rcases hx with rfl | rfl | rfl
 . exact .inl (i0 q hq)
 . exact .inl (i1 q hq)
 ·
  rcases ho with ho | ⟨g, ho, hg⟩
  . exact .inl (i2 q (ho ▸ hq))
  ·
   have hq : ov.ownBlock = some q := hq
   rw [ho] at hq
   cases hq
   exact .inr hg
theorem qR {H : Hp} {f : FuncId} {args : Array Value} {n0 : Nat} {ov0 : Value} (hc : Calls Tryz.prog f args w (Ret fun r w' => r = .tuple #[] /\ MachPost w w' bm v1 v2 v3 vv hv ov0 σ')) (hsz : n0 <= w.heap.size) (h0 : zm H 900 = some (.own bm [v1, v2, v3, vv, hv, ov0, .int .i64 σ.time] 180)) (h1 : zm H 901 = some (.row 3 1 vv σ.vals.length (σ.vals.map zi))) (h2 : zm H 902 = some (.row 3 1 ov0 σ.outs.length (σ.outs.map zi))) : Calls Tryz.prog f args w (Ret fun r w' => ∃ ov', (r = .tuple #[] /\ (ov'.ownBlock = ov0.ownBlock \/ ∃ g, ov'.ownBlock = some g /\ n0 <= g)) /\ Hands H [900, 901, 902] (qQ bm v1 v2 v3 vv hv ov' σ') w w') := by
 refine hc.mono ?_
 rintro e w' ⟨r, rfl, rfl, ov', hM, hk, ho⟩
 exact ⟨_, rfl, ov', ⟨rfl, ho.imp id fun ⟨g, h1, h2⟩ => ⟨g, h1, by omega⟩⟩, MachPost.hands hM hk ho h0 h1 h2⟩
theorem zhE {H : Hp} {σ0 : Sg} {ov0 : Value} {w0 : World} {bo : Nat} (hI : VI [(w0, HS (qQ bm v1 v2 v3 vv hv ov0 σ0))] H w) (h0 : zm H 900 = some (.own bm [v1, v2, v3, vv, hv, ov, .int .i64 σ.time] 180)) (h1 : zm H 901 = some (.row 3 1 vv σ.vals.length (σ.vals.map zi))) (h2 : zm H 902 = some (.row 3 1 ov σ.outs.length (σ.outs.map zi))) (hb : ov.ownBlock = some bo) : ov.ownBlock = ov0.ownBlock \/ ∃ g, ov.ownBlock = some g /\ w0.heap.size <= g := by
 rcases (hI.base _ (zmc ..)).2 _ (zl h2) bo hb with h | h
 ·
  rcases machHS.1 h with h | h | h
  . exact absurd h (fun e => zw hI.apart h0 h2 O bm O (e ▸ hb))
  . exact absurd hb (zw hI.apart h1 h2 O bo h)
  . exact .inl (hb.trans h.symm)
 . exact .inr ⟨bo, hb, h⟩
def zhF (f : Fl) (hs : List Int) (l : List St) : Prop := ∀ (N : Nat) (σ : Sg), SgB f N σ -> N + nbL l <= 100000 -> ∀ (Df Dh : Nat -> Prop) (w : World) (bm : Nat) (v1 v2 v3 vv hv ov lv : Value), (∀ q, Df q \/ Dh q -> q < w.heap.size) -> RFl Df w f v1 v2 v3 -> SlR 1 zF Dh w hv hs -> SlR 10 RSt Df w lv l -> MachOk w bm v1 v2 v3 vv hv ov σ -> (∀ q, qB bm vv ov q -> ¬ Df q /\ ¬ Dh q) ->
 Calls Tryz.prog 120 #[.pointer (some ⟨bm, 0, none⟩), lv] w (Ret fun r w' => r = .tuple #[] /\ MachPost w w' bm v1 v2 v3 vv hv ov (exL f hs l σ))
end
open Go.GL
theorem zeJ (f : Fl) (σ : Sg) (i0 : Int) (n : Int) (v1 v2 v3 vv hv ov : Value) (Df : Nat -> Prop) (bm : Nat) (W : World) (hf : RFl Df W f v1 v2 v3) (hM : MachOk W bm v1 v2 v3 vv hv ov σ) (hD : ∀ q, qB bm vv ov q -> ¬ Df q) (hi0 : 0 <= i0 /\ i0 < f.vars.length) (hl : σ.vals.length = f.vars.length) (hg : ∀ v ∈ f.vars, yn (v.low, v.high)) :
  Calls Tryz.prog 150 #[.pointer (some ⟨bm, 0, none⟩), .int .i64 i0, .int .i64 n] W (Ret fun r w' => r = .tuple #[] /\ MachPost W w' bm v1 v2 v3 vv hv ov { σ with vals := zaw f.vars σ.vals i0 n }) := by
 obtain ⟨i, rfl⟩ : ∃ i : Nat, i0 = (i : Int) := ⟨i0.toNat, by omega⟩
 have hi : i < f.vars.length := by omega
 have hvs := hf.vars
 obtain ⟨av, cv, rfl⟩ := hvs.form
 have hmx := hvs.max
 have hlow : ∀ q, HS (qQ bm (.slice av f.vars.length cv) v2 v3 vv hv ov σ) q -> ¬ Df q := fun q h => hD q (machHS.1 h)
 refine zkI Tryz.func150 O Tryz.ntmps150 O (zlv [(900, .own bm [.slice av f.vars.length cv, v2, v3, vv, hv, ov, .int .i64 σ.time] 180), (901, .row 3 1 vv σ.vals.length (σ.vals.map zi)), (902, .row 3 1 ov σ.outs.length (σ.outs.map zi))] hM.lent.1 hM.lent.2 ?_)
 refine zkY 0 900 0 O O ?_
 obtain ⟨x, he_x, hm_x⟩ := gE_ f.vars (i) (by omega)
 obtain ⟨b_x, o_x, c_x, ha_x, hd_x, hc_x, hR_x⟩ := hvs.atD he_x
 obtain rfl := hR_x
 refine zlg 1000 0 O O (fun h_ => by have h1_ := hlow _ h_; have h2_ := hd_x; first | omega | exact h1_ h2_) hc_x ?_
 have hgx := hg x hm_x
 have hse : zaw f.vars σ.vals i n = σ.vals.set i (xS n x.low x.high) := by unfold zaw; rw [Int.toNat_natCast, he_x]
 refine zl4 901 O (by omega) ?_
 rintro bv cq rfl hcap_901
 refine Vw [900, 1000] [] O ?_
 refine Vd [0, 1, 2, 3, 4, 5, 6, 7, 8, 9, 10, 11, 15, 16, 17, 18, 19, 20] 0 (by kernel_rfl) O O O ?_
 refine zl0 12 1000 tR52 ts120 O (by kernel_rfl) O ha_x (by omega) (i) (rfl) O ?_
 refine Vd [13, 14] 0 (by kernel_rfl) O O O ?_
 refine zl0 21 1000 tR52 ts120 O (by kernel_rfl) O ha_x (by omega) (i) (rfl) O ?_
 refine Vd [22, 23] 0 (by kernel_rfl) O O O ?_
 refine zl8 24 0 Tryz.call147 O (by kernel_rfl) O O (fun w hI => qe n x.low x.high w hgx.2.1) ?_
 refine Vb [25] 0 (by kernel_rfl) O O O (by omega) ?_
 refine zl6 26 901 0 (i) ts3 O (by kernel_rfl) O O (by omega) (by simp; omega) ?_
 refine zjI (by kernel_rfl) ?_
 refine zlh 901 O (e' := .row 3 1 (.slice (some ⟨bv, 0, none⟩) σ.vals.length cq) (zaw f.vars σ.vals i n).length ((zaw f.vars σ.vals i n).map zi)) (by rw [hse, List.map_set, List.length_set]) ?_
 refine zj9 Tryz.results150 (fun w hI => ⟨_, rfl, rfl, kw hI O O O (.inl O)⟩)
theorem xf {a b c : Value} {n : Nat} (h : b.ownBlock = a.ownBlock \/ ∃ g, b.ownBlock = some g /\ n <= g) (h' : c.ownBlock = b.ownBlock \/ ∃ g, c.ownBlock = some g /\ n <= g) : c.ownBlock = a.ownBlock \/ ∃ g, c.ownBlock = some g /\ n <= g := by
 rcases h' with h' | h'
 . rw [h']; exact h
 . exact .inr h'
theorem yM {bm : Nat} {vv ov ov' : Value} {n : Nat} {D : Nat -> Prop} (h : ∀ q, qB bm vv ov q -> ¬ D q) (hD : ∀ q, D q -> q < n) (ho : ov'.ownBlock = ov.ownBlock \/ ∃ g, ov'.ownBlock = some g /\ n <= g) : ∀ q, qB bm vv ov' q -> ¬ D q := by
 rintro q (hq | hq | hq)
 . exact h q (.inl hq)
 . exact h q (.inr (.inl hq))
 ·
  rcases ho with ho | ⟨g, ho, hg⟩
  . exact h q (.inr (.inr (ho ▸ hq)))
  ·
   rw [ho] at hq
   cases hq
   exact fun hd => by have := hD q hd; omega
theorem zfQ (f : Fl) (hs : List Int) (hg : ∀ v ∈ f.vars, yn (v.low, v.high)) (x : St) (ho : StepOk f x) (hn : 0 <= x.n) (hp : PreOk f x.thn) (ih : zhF f hs x.thn) (N : Nat) (σ : Sg) (hB : SgB f N σ) (hN : N + x.n.toNat * (1 + nbL x.thn) <= 100000) (Df Dh : Nat -> Prop) (W : World) (bm : Nat) (v1 v2 v3 vv hv ov : Value) (hDb : ∀ q, Df q \/ Dh q -> q < W.heap.size) (hf : RFl Df W f v1 v2 v3) (hh : SlR 1 zF Dh W hv hs) (hM : MachOk W bm v1 v2 v3 vv hv ov σ) (hD : ∀ q, qB bm vv ov q -> ¬ Df q /\ ¬ Dh q)
  (ax : Option Addr) (nx : Nat) (bx : Option Addr) (mx : Nat) (ex : Option Addr) (ox : Nat) (fx : Option Addr) (px : Nat) (hk : SlR 3 RTm Df W (.slice ax x.term.kids.length nx) x.term.kids) (ht : SlR 10 RSt Df W (.slice bx x.thn.length mx) x.thn) :
  Calls Tryz.prog 149 #[.pointer (some ⟨bm, 0, none⟩), .agg #[.int .i64 x.act, .int .i64 x.cost, .int .i64 x.var, .int .i64 x.n, .int .i64 x.term.op, .int .i64 x.term.n, .slice ax x.term.kids.length nx, .slice bx x.thn.length mx, .slice ex x.els.length ox, .slice fx x.bounds.length px]] W (Ret fun r w' => r = .tuple #[] /\ MachPost W w' bm v1 v2 v3 vv hv ov (xP (exL f hs x.thn) x.cost x.term x.n.toNat σ)) := by
 have hDf : ∀ q, Df q -> q < W.heap.size := fun q h => hDb q (.inl h)
 have hDh : ∀ q, Dh q -> q < W.heap.size := fun q h => hDb q (.inr h)
 have hlow : ∀ q, Df q -> q < W.heap.size -> ¬ HS (qQ bm v1 v2 v3 vv hv ov σ) q := fun q h _ h' => (hD q (machHS.1 h')).1 h
 have hlow2 : ∀ q, Dh q -> q < W.heap.size -> ¬ HS (qQ bm v1 v2 v3 vv hv ov σ) q := fun q h _ h' => (hD q (machHS.1 h')).2 h
 refine zkH Tryz.func149 O Tryz.ntmps149 O (zlv [(900, .own bm [v1, v2, v3, vv, hv, ov, .int .i64 (σ).time] 180), (901, .row 3 1 vv (σ).vals.length ((σ).vals.map zi)), (902, .row 3 1 ov (σ).outs.length ((σ).outs.map zi))] hM.lent.1 hM.lent.2 ?_)
 refine zkY 0 900 0 O O ?_
 refine Vs 2 O ?_
 refine V.box 3 O O (fun b3 => ?_)
 refine Vs 10 O ?_
 refine zli (σ := Nat × Sg × Value) [0, 3, 5] [3] [0, 3] O (fun e ⟨k, s, ov'⟩ => (6, .int .i64 k) :: e) (fun e ⟨k, s, ov'⟩ => (900, .own bm [v1, v2, v3, vv, hv, ov', .int .i64 (s).time] 180) :: (901, .row 3 1 vv (s).vals.length ((s).vals.map zi)) :: (902, .row 3 1 ov' (s).outs.length ((s).outs.map zi)) :: e) (fun ⟨k, s, ov'⟩ => k <= x.n.toNat /\ xP (exL f hs x.thn) x.cost x.term (x.n.toNat - k) s = xP (exL f hs x.thn) x.cost x.term x.n.toNat σ /\ SgB f (N + k * (1 + nbL x.thn)) s /\ (ov'.ownBlock = ov.ownBlock \/ ∃ g, ov'.ownBlock = some g /\ W.heap.size <= g)) (fun ⟨k, s, ov'⟩ => x.n.toNat - k) ((0, σ, ov)) (zkg O) (zkh O) (fun _ => rfl) (fun _ => rfl) (fun _ => rfl) (⟨Nat.zero_le _, by rw [Nat.sub_zero], by rw [Nat.zero_mul]; exact hB, .inl rfl⟩) ?_
 rintro ⟨k, s, ov'⟩ ⟨hk1, hall, hsB, hov⟩
 show V _ _ _ _ _ ((6, .int .i64 k) :: _) _ ((900, .own bm [v1, v2, v3, vv, hv, ov', .int .i64 (s).time] 180) :: (901, .row 3 1 vv (s).vals.length ((s).vals.map zi)) :: (902, .row 3 1 ov' (s).outs.length ((s).outs.map zi)) :: _) _
 have hcost := ho.cost
 have ht0 := hsB.t0
 have ht1 := hsB.t1
 refine Vs 6 O ?_
 refine ziB O (fun hlt => ?_) (fun hlt => ?_)
 ·
  obtain ⟨m, hm⟩ : ∃ m, x.n.toNat - k = m + 1 := ⟨x.n.toNat - k - 1, by omega⟩
  have hm' : x.n.toNat - (k + 1) = m := by omega
  have hkn : (k + 1) * (1 + nbL x.thn) <= x.n.toNat * (1 + nbL x.thn) := Nat.mul_le_mul_right _ (by omega)
  rw [Nat.succ_mul] at hkn
  have hkb : k <= k * (1 + nbL x.thn) := Nat.le_mul_of_pos_right _ (by omega)
  rw [hm, xP] at hall
  have hs1' := hsB.cost ho
  refine Vs 5 O ?_
  refine Vw [3, 900] [9] O ?_
  refine Vb [0, 1, 2, 3, 4, 5, 6, 7, 8] 0 (by kernel_rfl) O O O (by omega) ?_
  refine Vl 9 O (by kernel_rfl) O ?_
  refine zjJ (by kernel_rfl) ?_
  refine Vs 3 O ?_
  refine Vw [3, 900] [] O ?_
  refine Vd [0, 1, 2, 3, 4, 5] 0 (by kernel_rfl) O O O ?_
  refine zl8 6 0 tc148 O (by kernel_rfl) O O (fun w hI => jm hg hsB.inv x.term ho.formed ho.ranged _ Df (fun _ => True) w _ (zjO zi (fun _ _ => rfl) (hI.at 901 O) (fun _ _ => trivial)) (RTm.put (hk.keep zo hI.k0 hlow))) ?_
  refine Vd [7] 0 (by kernel_rfl) O O O ?_
  refine zjI (by kernel_rfl) ?_
  refine Vs 1 O ?_
  refine ziB O (fun z => ?_) (fun z => ?_)
  ·
   rw [if_pos z] at hall
   rw [<- hall]
   refine Vs 6 O ?_
   refine zjc Tryz.results149 (fun w hI => ⟨_, rfl, rfl, kw hI O O O hov⟩)
  ·
   rw [if_neg z] at hall
   refine Vs 6 O ?_
   refine zlw [900, 901, 902] (Hn := fun ov'' : Value => [(900, .own bm [v1, v2, v3, vv, hv, ov'', .int .i64 (exL f hs x.thn { s with time := s.time + x.cost }).time] 180), (901, .row 3 1 vv (exL f hs x.thn { s with time := s.time + x.cost }).vals.length ((exL f hs x.thn { s with time := s.time + x.cost }).vals.map zi)), (902, .row 3 1 ov'' (exL f hs x.thn { s with time := s.time + x.cost }).outs.length ((exL f hs x.thn { s with time := s.time + x.cost }).outs.map zi))]) [(0, some (900, 0)), (3, some (3, 0)), (8, some (900, 0)), (9, some (900, 0)), (10, some (900, 6)), (12, some (3, 1)), (15, some (900, 0)), (16, some (900, 6)), (17, some (900, 0)), (18, some (900, 0)), (19, some (900, 3)), (21, some (3, 4)), (25, some (900, 0)), (26, some (3, 7))] Tryz.call120 O (fun _ _ => rfl) (fun _ => rfl) (fun w hI => qR (σ := { s with time := s.time + x.cost }) (ih _ { s with time := s.time + x.cost } hs1' (by omega) Df Dh w bm v1 v2 v3 vv hv ov' _ (fun q hq => Nat.lt_of_lt_of_le (hDb q hq) (hI.k0).size) (hf.keep hI.k0 hlow) (hh.keep zc hI.k0 hlow2) (ht.keep zd hI.k0 hlow) (jU hI O O O) (fun q hq => ⟨yM (fun q h => (hD q h).1) hDf hov q hq, yM (fun q h => (hD q h).2) hDh hov q hq⟩)) (hI.k0).size O O O) ?_
   rintro _ ov'' ⟨rfl, hov2⟩
   refine Va 7 O (by omega) ?_
   refine ziM (⟨k + 1, _, ov''⟩) (zkg O) (zkh O) (⟨by omega, by rw [hm']; exact hall, (zaf hg x.thn hp _ _ hs1').mono (by rw [Nat.succ_mul]; omega), xf hov hov2⟩) (by first | omega | (dsimp only; omega)) 0 O O
 ·
  have hkk : k = x.n.toNat := by omega
  rw [hkk, Nat.sub_self, xP] at hall
  rw [<- hall]
  refine Vs 4 O ?_
  refine zj9 Tryz.results149 (fun w hI => ⟨_, rfl, rfl, kw hI O O O hov⟩)
theorem zh1 (f : Fl) (hs : List Int) (hg : ∀ v ∈ f.vars, yn (v.low, v.high)) (hlen : hs.length = f.hatches.length) (_ : f.vars.length <= 1000) (l : List St) : PreOk f l -> zhF f hs l := by
 induction l using zk9 with
 | h l ih =>
 intro hp N σ hB hN Df Dh W bm v1 v2 v3 vv hv ov lv hDb hf hh hl hM hD
 obtain ⟨al, cl, rfl⟩ := hl.form
 obtain ⟨ahv, chv, rfl⟩ := hh.form
 have hlm := hl.max
 have hDf : ∀ q, Df q -> q < W.heap.size := fun q h => hDb q (.inl h)
 have hDh : ∀ q, Dh q -> q < W.heap.size := fun q h => hDb q (.inr h)
 have hlow : ∀ q, Df q -> q < W.heap.size -> ¬ HS (qQ bm v1 v2 v3 vv (.slice ahv hs.length chv) ov σ) q := fun q h _ h' => (hD q (machHS.1 h')).1 h
 have hlow2 : ∀ q, Dh q -> q < W.heap.size -> ¬ HS (qQ bm v1 v2 v3 vv (.slice ahv hs.length chv) ov σ) q := fun q h _ h' => (hD q (machHS.1 h')).2 h
 have hlow' : ∀ q, HS (qQ bm v1 v2 v3 vv (.slice ahv hs.length chv) ov σ) q -> ¬ Df q := fun q h => (hD q (machHS.1 h)).1
 have hlow2' : ∀ q, HS (qQ bm v1 v2 v3 vv (.slice ahv hs.length chv) ov σ) q -> ¬ Dh q := fun q h => (hD q (machHS.1 h)).2
 refine zkH Tryz.func120 O Tryz.ntmps120 O (zlv [(900, .own bm [v1, v2, v3, vv, .slice ahv hs.length chv, ov, .int .i64 (σ).time] 180), (901, .row 3 1 vv (σ).vals.length ((σ).vals.map zi)), (902, .row 3 1 ov (σ).outs.length ((σ).outs.map zi))] hM.lent.1 hM.lent.2 ?_)
 refine zkY 0 900 0 O O ?_
 refine Vs 8 O ?_
 refine zli (σ := Nat × Sg × Value) [0, 6, 7] [] [0] O (fun e ⟨i, s, ov'⟩ => (8, .int .i64 i) :: e) (fun e ⟨i, s, ov'⟩ => (900, .own bm [v1, v2, v3, vv, .slice ahv hs.length chv, ov', .int .i64 (s).time] 180) :: (901, .row 3 1 vv (s).vals.length ((s).vals.map zi)) :: (902, .row 3 1 ov' (s).outs.length ((s).outs.map zi)) :: e) (fun ⟨i, s, ov'⟩ => i <= l.length /\ s = exL f hs (l.take i) σ /\ SgB f (N + nbL (l.take i)) s /\ (ov'.ownBlock = ov.ownBlock \/ ∃ g, ov'.ownBlock = some g /\ W.heap.size <= g)) (fun ⟨i, s, ov'⟩ => l.length - i) ((0, σ, ov)) (zkg O) (zkh O) (fun _ => rfl) (fun _ => rfl) (fun _ => rfl) (⟨Nat.zero_le _, rfl, hB, .inl rfl⟩) ?_
 rintro ⟨i, s, ov'⟩ ⟨hi, hall, hsB, hov⟩
 show V _ _ _ _ _ ((8, .int .i64 i) :: _) _ ((900, .own bm [v1, v2, v3, vv, .slice ahv hs.length chv, ov', .int .i64 (s).time] 180) :: (901, .row 3 1 vv (s).vals.length ((s).vals.map zi)) :: (902, .row 3 1 ov' (s).outs.length ((s).outs.map zi)) :: _) _
 have ht0 := hsB.t0
 have ht1 := hsB.t1
 have hol := hsB.ol
 refine Vs 6 O ?_
 refine ziB O (fun hlt => ?_) (fun hlt => ?_)
 ·
  refine Vs 6 O ?_
  obtain ⟨x, he_x, hm_x⟩ := gE_ l (i) (by omega)
  obtain ⟨b_x, o_x, c_x, ha_x, hd_x, hc_x, hR_x⟩ := hl.atD he_x
  obtain ⟨v1_x, v2_x, v3_x, v4_x, rfl, hk_x, ht_x, hs_x, hb_x⟩ := hR_x.get
  obtain ⟨a1_x, n1_x, rfl⟩ := hk_x.form
  obtain ⟨a2_x, n2_x, rfl⟩ := ht_x.form
  obtain ⟨a3_x, n3_x, rfl⟩ := hs_x.form
  obtain ⟨a4_x, n4_x, rfl⟩ := hb_x.form
  refine zlg 1000 0 O O (fun h_ => by have h1_ := hlow' _ h_; have h2_ := hd_x; first | omega | exact h1_ h2_) hc_x ?_
  refine zkZ 1000 tR54 ts134 O ha_x (by omega) (_) (rfl) O ?_
  obtain ⟨⟨ho, hse, hn4⟩, hp1, hp2⟩ := hp.kids hm_x
  obtain ⟨i1, i2⟩ := ih x hm_x
  have hcost := ho.cost
  have hnx : nbL (l.take (i + 1)) = nbL (l.take i) + nbS x := by rw [zg he_x, jG]; rfl
  have hnl : nbL (l.take (i + 1)) <= nbL l := zfP l (i + 1)
  have hnx1 := zh0 x
  have hex : exL f hs (l.take (i + 1)) σ = exS f hs x s := by rw [zg he_x, zaG, <- hall]; rfl
  have hnS := zdl x
  have hinv : SgB f (N + nbL (l.take (i + 1))) (exS f hs x s) := by
   rw [<- hex]
   exact zaf hg _ (fun s hs => hp s (by rw [<- List.take_append_drop (i + 1) l, qM]; simp [hs])) N σ hB
  have hs1' := hsB.cost ho
  have hi1 : i + 1 <= l.length := by omega
  refine Vs 1 O ?_
  refine V.alloc 5 tz134 O O (fun b5 => ?_)
  refine Vs 11 O ?_
  refine ziB O (fun a4 => ?_) (fun a4 => ?_)
  ·
   rw [if_neg (by omega), if_pos a4] at hnS
   have hx : exS f hs x s = xP (exL f hs x.thn) x.cost x.term x.n.toNat s := by rw [jn, if_neg (by omega), if_pos a4]
   refine Vs 4 O ?_
   refine zlw [900, 901, 902] (Hn := fun ov'' : Value => [(900, .own bm [v1, v2, v3, vv, .slice ahv hs.length chv, ov'', .int .i64 (xP (exL f hs x.thn) x.cost x.term x.n.toNat s).time] 180), (901, .row 3 1 vv (xP (exL f hs x.thn) x.cost x.term x.n.toNat s).vals.length ((xP (exL f hs x.thn) x.cost x.term x.n.toNat s).vals.map zi)), (902, .row 3 1 ov'' (xP (exL f hs x.thn) x.cost x.term x.n.toNat s).outs.length ((xP (exL f hs x.thn) x.cost x.term x.n.toNat s).outs.map zi))]) [(0, some (900, 0)), (5, some (5, 0)), (10, some (1000, 0)), (12, some (5, 0)), (15, some (900, 0))] Tryz.call149 O (fun _ _ => rfl) (fun _ => rfl) (fun w hI => qR (σ := s) (zfQ f hs hg x ho (hn4 a4) hp1 (i1 hp1) _ s hsB (by omega) Df Dh w bm v1 v2 v3 vv _ ov' (fun q hq => Nat.lt_of_lt_of_le (hDb q hq) (hI.k0).size) (hf.keep hI.k0 hlow) (hh.keep zc hI.k0 hlow2) (jU hI O O O) (fun q hq => ⟨yM (fun q h => (hD q h).1) hDf hov q hq, yM (fun q h => (hD q h).2) hDh hov q hq⟩) _ _ _ _ _ _ _ _ (hk_x.keep zo hI.k0 hlow) (ht_x.keep zd hI.k0 hlow)) (hI.k0).size O O O) ?_
   rintro _ ov'' ⟨rfl, hov2⟩
   refine Va 10 O (by omega) ?_
   refine ziM (⟨i + 1, _, ov''⟩) (zkg O) (zkh O) (⟨hi1, by rw [hex, hx], by rw [<- hx]; exact hinv, xf hov hov2⟩) (by first | omega | (dsimp only; omega)) 0 O O
  ·
   refine Vs 3 O ?_
   refine Vw [900, 1000, 5] [9] O ?_
   refine Vb [0, 1, 2, 3, 4, 5, 6, 7, 8] 0 (by kernel_rfl) O O O (by omega) ?_
   refine Vl 9 O (by kernel_rfl) O ?_
   refine zjJ (by kernel_rfl) ?_
   refine Vs 14 O ?_
   refine ziB O (fun a0 => ?_) (fun a0 => ?_)
   ·
    have hx : exS f hs x s = { s with vals := zaw f.vars s.vals x.var (xV s.vals x.term), time := s.time + x.cost } := by rw [jn, if_neg (by omega), if_neg a4]; unfold qP; rw [if_pos a0]
    have hvar := ho.var (.inl a0)
    refine Vw [1000, 5] [] O ?_
    refine Vd [0, 1, 2, 3, 4, 5, 7, 8] 0 (by kernel_rfl) O O O ?_
    refine Vo 6 0 O (by kernel_rfl) O O ?_
    refine zl8 9 0 tc148 O (by kernel_rfl) O O (fun w hI => jm hg hsB.inv x.term ho.formed ho.ranged _ Df (fun _ => True) w _ (zjO zi (fun _ _ => rfl) (hI.at 901 O) (fun _ _ => trivial)) (RTm.put (hk_x.keep zo hI.k0 hlow))) ?_
    refine zlx 10 0 [900, 901, 902] (Hn := fun ov'' : Value => [(900, .own bm [v1, v2, v3, vv, .slice ahv hs.length chv, ov'', .int .i64 ({ s with vals := zaw f.vars s.vals x.var (xV s.vals x.term), time := s.time + x.cost }).time] 180), (901, .row 3 1 vv ({ s with vals := zaw f.vars s.vals x.var (xV s.vals x.term), time := s.time + x.cost }).vals.length (({ s with vals := zaw f.vars s.vals x.var (xV s.vals x.term), time := s.time + x.cost }).vals.map zi)), (902, .row 3 1 ov'' ({ s with vals := zaw f.vars s.vals x.var (xV s.vals x.term), time := s.time + x.cost }).outs.length (({ s with vals := zaw f.vars s.vals x.var (xV s.vals x.term), time := s.time + x.cost }).outs.map zi))]) [(0, some (900, 0)), (5, some (5, 0)), (10, some (1000, 0)), (12, some (5, 0)), (18, some (900, 0)), (19, some (900, 0)), (20, some (900, 6)), (22, some (5, 1)), (25, some (900, 0)), (26, some (900, 6)), (27, some (5, 0)), (31, some (900, 0)), (32, some (5, 2)), (34, some (900, 0)), (35, some (900, 0)), (36, some (900, 3)), (38, some (5, 4))] Tryz.call150 O (by kernel_rfl) O O (fun _ => rfl) (fun _ _ => rfl) (fun _ => rfl) (fun w hI => qR (σ := { s with time := s.time + x.cost }) (zeJ f { s with time := s.time + x.cost } x.var (xV s.vals x.term) v1 v2 v3 vv _ ov' Df bm w (hf.keep hI.k0 hlow) (jU hI O O O) (yM (fun q h => (hD q h).1) hDf hov) hvar hsB.inv.len hg) (hI.k0).size O O O) ?_
    rintro _ ov'' ⟨rfl, hov2⟩
    refine zjI (by kernel_rfl) ?_
    refine Va 7 O (by omega) ?_
    refine ziM (⟨i + 1, _, ov''⟩) (zkg O) (zkh O) (⟨hi1, by rw [hex, hx], by rw [<- hx]; exact hinv, xf hov hov2⟩) (by first | omega | (dsimp only; omega)) 0 O O
   ·
    refine Vs 6 O ?_
    refine ziB O (fun a1 => ?_) (fun a1 => ?_)
    ·
     have hx : exS f hs x s = { s with outs := s.outs ++ [xV s.vals x.term], time := s.time + x.cost } := by rw [jn, if_neg (by omega), if_neg a4]; unfold qP; rw [if_neg a0, if_pos a1]
     refine Vw [900, 1000, 5] [16] O ?_
     refine Vd [0, 1, 2, 3, 4, 5, 6, 7, 8, 9, 10] 0 (by kernel_rfl) O O O ?_
     refine zl8 11 0 tc148 O (by kernel_rfl) O O (fun w hI => jm hg hsB.inv x.term ho.formed ho.ranged _ Df (fun _ => True) w _ (zjO zi (fun _ _ => rfl) (hI.at 901 O) (fun _ _ => trivial)) (RTm.put (hk_x.keep zo hI.k0 hlow))) ?_
     refine zlm 12 56 0 [(0, _)] tR31 ts3 tz3 (by decide) O (by kernel_rfl) O O (by kernel_rfl) (fun b56 => ?_)
     refine zl3 13 902 56 0 tu31 Tryz.el3 O (by decide) O (by kernel_rfl) O O O (by omega) (by omega) (fun u902 => ?_)
     refine Vd [14, 15] 0 (by kernel_rfl) O O O ?_
     refine zl5 902 O (by omega) ?_
     rintro bo co rfl hcap_902
     refine Vl 16 O (by kernel_rfl) O ?_
     refine zjJ (by kernel_rfl) ?_
     refine Va 7 O (by omega) ?_
     refine zlh 902 O (e' := .row 3 1 (.slice (some ⟨bo, 0, none⟩) (s.outs.length + 1) co) (s.outs ++ [xV s.vals x.term]).length ((s.outs ++ [xV s.vals x.term]).map zi)) (by rw [zmg, List.map_append]; rfl) ?_
     refine zkT (p := (Value.slice (some ⟨bo, 0, none⟩) (s.outs.length + 1) co).ownBlock = ov.ownBlock \/ ∃ g, (Value.slice (some ⟨bo, 0, none⟩) (s.outs.length + 1) co).ownBlock = some g /\ W.heap.size <= g) (fun w hI => zhE (σ := { s with outs := s.outs ++ [xV s.vals x.term], time := s.time + x.cost }) hI O O O O) (fun hov2 => ?_)
     refine ziM (⟨i + 1, { s with outs := s.outs ++ [xV s.vals x.term], time := s.time + x.cost }, _⟩) (zkg O) (zkh O) (⟨hi1, by rw [hex, hx], by rw [<- hx]; exact hinv, hov2⟩) (by first | omega | (dsimp only; omega)) 0 O O
    ·
     refine Vs 6 O ?_
     refine ziB O (fun a3 => ?_) (fun a3 => ?_)
     ·
      have hx := jn f hs x s
      rw [if_pos a3] at hx
      rw [if_pos a3] at hnS
      refine Vs 1 O ?_
      refine Vw [900, 1000, 5] [] O ?_
      refine Vd [0, 1, 2, 3, 4, 5] 0 (by kernel_rfl) O O O ?_
      refine zl8 6 0 tc148 O (by kernel_rfl) O O (fun w hI => jm hg hsB.inv x.term ho.formed ho.ranged _ Df (fun _ => True) w _ (zjO zi (fun _ _ => rfl) (hI.at 901 O) (fun _ _ => trivial)) (RTm.put (hk_x.keep zo hI.k0 hlow))) ?_
      refine Vd [7] 0 (by kernel_rfl) O O O ?_
      refine zjI (by kernel_rfl) ?_
      refine Vs 1 O ?_
      refine ziB O (fun z => ?_) (fun z => ?_)
      ·
       rw [if_pos z] at hx
       refine Vs 4 O ?_
       refine zlw [900, 901, 902] (Hn := fun ov'' : Value => [(900, .own bm [v1, v2, v3, vv, .slice ahv hs.length chv, ov'', .int .i64 (exL f hs x.thn { s with time := s.time + x.cost }).time] 180), (901, .row 3 1 vv (exL f hs x.thn { s with time := s.time + x.cost }).vals.length ((exL f hs x.thn { s with time := s.time + x.cost }).vals.map zi)), (902, .row 3 1 ov'' (exL f hs x.thn { s with time := s.time + x.cost }).outs.length ((exL f hs x.thn { s with time := s.time + x.cost }).outs.map zi))]) [(0, some (900, 0)), (5, some (5, 0)), (10, some (1000, 0)), (12, some (5, 0)), (18, some (900, 0)), (19, some (900, 0)), (20, some (900, 6)), (22, some (5, 1)), (25, some (900, 0)), (26, some (900, 6)), (27, some (5, 0)), (62, some (900, 0)), (63, some (900, 0)), (64, some (900, 3)), (66, some (5, 4)), (70, some (900, 0)), (71, some (5, 7))] Tryz.call120 O (fun _ _ => rfl) (fun _ => rfl) (fun w hI => qR (σ := { s with time := s.time + x.cost }) (i1 hp1 _ { s with time := s.time + x.cost } hs1' (by omega) Df Dh w bm v1 v2 v3 vv _ ov' _ (fun q hq => Nat.lt_of_lt_of_le (hDb q hq) (hI.k0).size) (hf.keep hI.k0 hlow) (hh.keep zc hI.k0 hlow2) (ht_x.keep zd hI.k0 hlow) (jU hI O O O) (fun q hq => ⟨yM (fun q h => (hD q h).1) hDf hov q hq, yM (fun q h => (hD q h).2) hDh hov q hq⟩)) (hI.k0).size O O O) ?_
       rintro _ ov'' ⟨rfl, hov2⟩
       refine Va 8 O (by omega) ?_
       refine ziM (⟨i + 1, _, ov''⟩) (zkg O) (zkh O) (⟨hi1, by rw [hex, hx], by rw [<- hx]; exact hinv, xf hov hov2⟩) (by first | omega | (dsimp only; omega)) 0 O O
      ·
       rw [if_neg z] at hx
       refine Vs 4 O ?_
       refine zlw [900, 901, 902] (Hn := fun ov'' : Value => [(900, .own bm [v1, v2, v3, vv, .slice ahv hs.length chv, ov'', .int .i64 (exL f hs x.els { s with time := s.time + x.cost }).time] 180), (901, .row 3 1 vv (exL f hs x.els { s with time := s.time + x.cost }).vals.length ((exL f hs x.els { s with time := s.time + x.cost }).vals.map zi)), (902, .row 3 1 ov'' (exL f hs x.els { s with time := s.time + x.cost }).outs.length ((exL f hs x.els { s with time := s.time + x.cost }).outs.map zi))]) [(0, some (900, 0)), (5, some (5, 0)), (10, some (1000, 0)), (12, some (5, 0)), (18, some (900, 0)), (19, some (900, 0)), (20, some (900, 6)), (22, some (5, 1)), (25, some (900, 0)), (26, some (900, 6)), (27, some (5, 0)), (62, some (900, 0)), (63, some (900, 0)), (64, some (900, 3)), (66, some (5, 4)), (74, some (900, 0)), (75, some (5, 8))] Tryz.call120 O (fun _ _ => rfl) (fun _ => rfl) (fun w hI => qR (σ := { s with time := s.time + x.cost }) (i2 hp2 _ { s with time := s.time + x.cost } hs1' (by omega) Df Dh w bm v1 v2 v3 vv _ ov' _ (fun q hq => Nat.lt_of_lt_of_le (hDb q hq) (hI.k0).size) (hf.keep hI.k0 hlow) (hh.keep zc hI.k0 hlow2) (hs_x.keep zd hI.k0 hlow) (jU hI O O O) (fun q hq => ⟨yM (fun q h => (hD q h).1) hDf hov q hq, yM (fun q h => (hD q h).2) hDh hov q hq⟩)) (hI.k0).size O O O) ?_
       rintro _ ov'' ⟨rfl, hov2⟩
       refine Va 8 O (by omega) ?_
       refine ziM (⟨i + 1, _, ov''⟩) (zkg O) (zkh O) (⟨hi1, by rw [hex, hx], by rw [<- hx]; exact hinv, xf hov hov2⟩) (by first | omega | (dsimp only; omega)) 0 O O
     ·
      refine Vs 6 O ?_
      refine ziB O (fun a5 => ?_) (fun a5 => ?_)
      ·
       have hx : exS f hs x s = { s with vals := zaw f.vars s.vals x.var (lki hs x.n.toNat), time := s.time + x.cost } := by rw [jn, if_neg (by omega), if_neg a4]; unfold qP; rw [if_neg a0, if_neg a1, if_pos a5]
       have hvar := ho.var (.inr a5)
       have hnum := ho.num a5
       obtain ⟨y, he_y, hm_y⟩ := gE_ hs (x.n.toNat) (by omega)
       obtain ⟨b_y, o_y, c_y, ha_y, hd_y, hc_y, hR_y⟩ := hh.atD he_y
       obtain rfl := hR_y
       refine zlg 2000 0 O O (fun h_ => by have h1_ := hlow2' _ h_; have h2_ := hd_y; first | omega | exact h1_ h2_) hc_y ?_
       have hy : lki hs x.n.toNat = y := zgv he_y
       rw [hy] at hx
       refine Vw [1000, 5, 2000] [] O ?_
       refine Vd [0, 1, 2, 3, 4, 5, 7, 8] 0 (by kernel_rfl) O O O ?_
       refine Vo 6 0 O (by kernel_rfl) O O ?_
       refine zl0 9 2000 tR31 ts3 O (by kernel_rfl) O ha_y (by omega) (x.n.toNat) (by omega) O ?_
       refine Vd [10] 0 (by kernel_rfl) O O O ?_
       refine zlx 11 0 [900, 901, 902] (Hn := fun ov'' : Value => [(900, .own bm [v1, v2, v3, vv, .slice ahv hs.length chv, ov'', .int .i64 ({ s with vals := zaw f.vars s.vals x.var (y), time := s.time + x.cost }).time] 180), (901, .row 3 1 vv ({ s with vals := zaw f.vars s.vals x.var (y), time := s.time + x.cost }).vals.length (({ s with vals := zaw f.vars s.vals x.var (y), time := s.time + x.cost }).vals.map zi)), (902, .row 3 1 ov'' ({ s with vals := zaw f.vars s.vals x.var (y), time := s.time + x.cost }).outs.length (({ s with vals := zaw f.vars s.vals x.var (y), time := s.time + x.cost }).outs.map zi))]) [(0, some (900, 0)), (5, some (5, 0)), (10, some (1000, 0)), (12, some (5, 0)), (18, some (900, 0)), (19, some (900, 0)), (20, some (900, 6)), (22, some (5, 1)), (25, some (900, 0)), (26, some (900, 6)), (27, some (5, 0)), (80, some (900, 0)), (81, some (5, 2)), (83, some (900, 0)), (84, some (900, 0)), (85, some (900, 4)), (87, some (5, 3)), (89, some (2000, 0))] Tryz.call150 O (by kernel_rfl) O O (fun _ => rfl) (fun _ _ => rfl) (fun _ => rfl) (fun w hI => qR (σ := { s with time := s.time + x.cost }) (zeJ f { s with time := s.time + x.cost } x.var (y) v1 v2 v3 vv _ ov' Df bm w (hf.keep hI.k0 hlow) (jU hI O O O) (yM (fun q h => (hD q h).1) hDf hov) hvar hsB.inv.len hg) (hI.k0).size O O O) ?_
       rintro _ ov'' ⟨rfl, hov2⟩
       refine zjI (by kernel_rfl) ?_
       refine Va 7 O (by omega) ?_
       refine ziM (⟨i + 1, _, ov''⟩) (zkg O) (zkh O) (⟨hi1, by rw [hex, hx], by rw [<- hx]; exact hinv, xf hov hov2⟩) (by first | omega | (dsimp only; omega)) 0 O O
      ·
       refine Vs 6 O ?_
       refine ziB O (fun a6 => ?_) (fun a6 => ?_)
       ·
        have hx : exS f hs x s = { s with time := qj x.bounds (s.time + x.cost) } := by rw [jn, if_neg (by omega), if_neg a4]; unfold qP; rw [if_neg a0, if_neg a1, if_neg a5, if_pos a6]
        refine Vw [900, 1000, 5] [10] O ?_
        refine Vd [0, 1, 2, 3, 4, 5, 6] 0 (by kernel_rfl) O O O ?_
        refine zl8 7 0 Tryz.call151 O (by kernel_rfl) O O (fun w hI => zav x.bounds (s.time + x.cost) _ Df w (hb_x.keep zc hI.k0 hlow)) ?_
        refine Vd [8, 9] 0 (by kernel_rfl) O O O ?_
        refine Vl 10 O (by kernel_rfl) O ?_
        refine zjJ (by kernel_rfl) ?_
        refine Va 7 O (by omega) ?_
        refine ziM (⟨i + 1, { s with time := qj x.bounds (s.time + x.cost) }, ov'⟩) (zkg O) (zkh O) (⟨hi1, by rw [hex, hx], by rw [<- hx]; exact hinv, hov⟩) (by first | omega | (dsimp only; omega)) 0 O O
       ·
        have hx : exS f hs x s = { s with time := s.time + x.cost } := by rw [jn, if_neg (by omega), if_neg a4]; unfold qP; rw [if_neg a0, if_neg a1, if_neg a5, if_neg a6]
        refine Va 8 O (by omega) ?_
        refine ziM (⟨i + 1, { s with time := s.time + x.cost }, ov'⟩) (zkg O) (zkh O) (⟨hi1, by rw [hex, hx], by rw [<- hx]; exact hinv, hov⟩) (by first | omega | (dsimp only; omega)) 0 O O
 ·
  have hii : i = l.length := by omega
  subst hii
  rw [zmd] at hall
  subst hall
  refine Vs 4 O ?_
  refine zj9 Tryz.results120 (fun w hI => ⟨_, rfl, rfl, kw hI O O O hov⟩)
def LeftOk (D : Nat -> Prop) (W : World) (r : Ins) (s : StS) (q : Int -> Value) : Prop := ∀ k, 1 <= k -> k <= 3 -> SlR 1 zF D W (q k) ((xW r k).drop (zac s k))
theorem zah {w : World} {b : Nat} {z : Value} {q : Int -> Value} {e : TypeId} {k : Int} (h : Blk w b [z, q 1, q 2, q 3] e) (hk : 1 <= k /\ k <= 3) : w.cell? ⟨b, 0 + k.toNat * 1, none⟩ = some (q k) := by
 have h1 := Blk.cells h 1 _ rfl
 have h2 := Blk.cells h 2 _ rfl
 have h3 := Blk.cells h 3 _ rfl
 rcases (show k = 1 \/ k = 2 \/ k = 3 by omega) with rfl | rfl | rfl
 . exact h1
 . exact h2
 . exact h3
theorem zfR {z u : Value} {q : Int -> Value} {k : Int} (hk : 1 <= k /\ k <= 3) : [z, q 1, q 2, q 3].set k.toNat u = [z, (if 1 = k then u else q 1), (if 2 = k then u else q 2), (if 3 = k then u else q 3)] := by
 rcases (show k = 1 \/ k = 2 \/ k = 3 by omega) with rfl | rfl | rfl <;> rfl
theorem zbZ {prev : List Vr} {v : Vr} (h : zG prev v = 0) (hk : v.kind = 0) : v.low <= v.init /\ v.init <= v.high := by
 unfold zG at h
 split at h
 . cases h
 split at h
 . cases h
 split at h
 . cases h
 split at h
 . cases h
 split at h
 . cases h
 ·
  rename_i h5
  omega
theorem zeK {r : Ins} {s : StS} {x : Vr} (h : x.kind = 0) : zy r (some s) x = some ⟨s.vals ++ [x.init], s.a, s.b, s.c⟩ := by simp [zy, h]
theorem zfS {r : Ins} {s : StS} {k : Int} (_ : 1 <= k /\ k <= 3) {l : List Int} (hl : (xW r k).drop (zac s k) = l) : (xW r k)[zac s k]? = l[0]? := by
 rw [<- hl, List.getElem?_drop, Nat.add_zero]
theorem zdO {f : Fl} {r : Ins} {i : Nat} {x : Vr} {s s1 : StS} (he : f.vars[i]? = some x) (hs : (f.vars.take i).foldl (zy r) (some ⟨[], 0, 0, 0⟩) = some s) (h1 : zy r (some s) x = some s1) : (f.vars.take (i + 1)).foldl (zy r) (some ⟨[], 0, 0, 0⟩) = some s1 := by
 rw [zg he, List.foldl_append, hs]; exact h1
theorem Valid.varAt0 {f : Fl} (V : Valid f) {i : Nat} {x : Vr} (he : f.vars[i]? = some x) : zG (f.vars.take i) x = 0 := by
 have h := V.ok
 unfold zZ at h
 split at h
 . cases h
 split at h
 . rename_i h2; exact absurd h h2
 ·
  rename_i h2
  have h := Decidable.not_not.1 h2
  unfold zt at h
  split at h
  . rename_i h2; exact absurd h h2
  ·
   rename_i h2
   rw [<- kq he]
   exact yT f.vars.length 0 (by simpa using h2) i (Nat.zero_le _) (by have := (List.getElem?_eq_some_iff.1 he).1; omega)
theorem LeftOk.next {D : Nat -> Prop} {W : World} {r : Ins} {s : StS} {q : Int -> Value} {k y : Int} {aq : Option Addr} {cq : Nat} {rest : List Int} (hL : LeftOk D W r s q) (hk : 1 <= k /\ k <= 3) (hr : rest = (xW r k).drop (zac s k)) (hq : SlR 1 zF D W (.slice aq rest.length cq) rest) (h1 : 1 <= rest.length) : LeftOk D W r (kh s k y) (fun j => if j = k then .slice (if cq = 1 then aq else aq.map (·.add (1 * 1))) (rest.length - 1) (cq - 1) else q j) := by
 intro j hj1 hj3
 have hc := zbU s hk ⟨hj1, hj3⟩ y
 dsimp only
 by_cases e : j = k
 ·
  subst e
  rw [if_pos rfl] at hc
  rw [if_pos rfl, hc]
  have := hq.drop 1 h1
  rw [hr, List.drop_drop] at this
  rwa [<- hr] at this
 ·
  rw [if_neg e] at hc
  rw [if_neg e, hc]
  exact hL j hj1 hj3
theorem zbb {r : Ins} {s : StS} {x : Vr} {y : Int} (h : 1 <= x.kind /\ x.kind <= 3) (hy : (xW r x.kind)[zac s x.kind]? = some y) : zy r (some s) x = some (kh s x.kind y) := by
 simp only [zy, Option.bind_some]
 rw [if_neg (by omega), hy]; rfl
theorem zeL {r : Ins} {s : StS} {x : Vr} (h : 1 <= x.kind /\ x.kind <= 3) (hy : (xW r x.kind)[zac s x.kind]? = none) : zy r (some s) x = none := by
 simp only [zy, Option.bind_some]
 rw [if_neg (by omega), hy]; rfl
theorem zhG {x : Vr} {y : Int} (h : ¬ y < x.low) : decide (x.high < y) = (false || !inB (x, y)) := by
 have h1 : decide (x.low <= y) = true := decide_eq_true (by omega)
 simp only [inB, h1, Bool.true_and, Bool.false_or]
 by_cases h2 : y <= x.high
 . rw [decide_eq_false (by omega), decide_eq_true h2]; rfl
 . rw [decide_eq_true (by omega), decide_eq_false h2]; rfl
theorem zh2 {D : Nat -> Prop} {W : World} {r : Ins} {s : StS} {q : Int -> Value} (hL : LeftOk D W r s q) {j : Nat} (hj : j < 4) : ∃ (a : Option Addr) (ln c : Nat), [Value.slice none 0 0, q 1, q 2, q 3][j]? = some (.slice a ln c) /\ (j = 0 -> ln = 0) /\ (1 <= j -> ln = ((xW r (j : Int)).drop (zac s (j : Int))).length) := by
 have key : ∀ k : Int, 1 <= k -> k <= 3 -> ∃ (a : Option Addr) (c : Nat), q k = .slice a ((xW r k).drop (zac s k)).length c := fun k h1 h3 => (hL k h1 h3).form
 obtain ⟨a1, c1, h1⟩ := key 1 (by omega) (by omega)
 obtain ⟨a2, c2, h2⟩ := key 2 (by omega) (by omega)
 obtain ⟨a3, c3, h3⟩ := key 3 (by omega) (by omega)
 rcases (show j = 0 \/ j = 1 \/ j = 2 \/ j = 3 by omega) with rfl | rfl | rfl | rfl
 . exact ⟨_, _, _, rfl, fun _ => rfl, fun h => by omega⟩
 . exact ⟨a1, _, c1, congrArg some h1, fun h => by omega, fun _ => rfl⟩
 . exact ⟨a2, _, c2, congrArg some h2, fun h => by omega, fun _ => rfl⟩
 . exact ⟨a3, _, c3, congrArg some h3, fun h => by omega, fun _ => rfl⟩
theorem zdP {f : Fl} {r : Ins} {s : StS} (hS : jT f.vars r = some s) {k : Int} (hk : 1 <= k /\ k <= 3) (h : 0 < ((xW r k).drop (zac s k)).length) : zM f.vars r = 1 := by
 unfold zM
 rw [hS]
 dsimp only
 unfold ku
 rw [List.length_drop] at h
 rw [if_pos]
 rcases (show k = 1 \/ k = 2 \/ k = 3 by omega) with rfl | rfl | rfl
 ·
  have h : 0 < r.secret.length - s.a := h
  omega
 ·
  have h : 0 < r.pub.length - s.b := h
  omega
 ·
  have h : 0 < r.random.length - s.c := h
  omega
theorem zeM {f : Fl} {r : Ins} {s : StS} (hS : jT f.vars r = some s) (hkd : ∀ v ∈ f.vars, 0 <= v.kind /\ v.kind <= 3) (hz : ∀ k : Int, 1 <= k -> k <= 3 -> ((xW r k).drop (zac s k)).length = 0) : zM f.vars r = if (f.vars.zip s.vals).all inB then 0 else 3 := by
 have hle := zeC hkd f.vars.length s (Nat.le_refl _) (by rw [zmd]; exact hS)
 have key : ∀ k : Int, 1 <= k -> k <= 3 -> zac s k = (xW r k).length := fun k h1 h3 => by
  have h4 := hz k h1 h3
  rw [List.length_drop] at h4
  have := hle k h1 h3
  omega
 have h1 : s.a = r.secret.length := key 1 (by omega) (by omega)
 have h2 : s.b = r.pub.length := key 2 (by omega) (by omega)
 have h3 : s.c = r.random.length := key 3 (by omega) (by omega)
 unfold zM
 rw [hS]
 dsimp only
 unfold ku
 rw [if_neg (by omega)]
theorem zfT {H : Hp} {w w0 : World} {bm : Nat} {v1 v2 v3 vv hv : Value} {vals hats : List Int} {m : Nat} (hI : VI [(w0, fun _ => False)] H w) (h0 : zm H 24 = some (.own bm [v1, v2, v3, vv, hv, .slice none 0 0, .int .i64 0] 180)) (h1 : zm H 900 = some (.row 3 1 vv vals.length (vals.map zi))) (h2 : zm H 901 = some (.row 3 1 hv m (hats.map zi))) : MachOk w bm v1 v2 v3 vv hv (.slice none 0 0) ⟨vals, [], 0⟩ /\ SlR 1 zF (fun b => hv.ownBlock = some b) w hv hats /\ (∀ q, qB bm vv (.slice none 0 0) q \/ hv.ownBlock = some q -> w0.heap.size <= q /\ q < w.heap.size) /\ ∀ q, qB bm vv (.slice none 0 0) q -> hv.ownBlock ≠ some q := by
 have o0 : ∀ q, q = bm -> w0.heap.size <= q /\ q < w.heap.size := fun q hq => ⟨hI.own 24 0 h0 rfl q hq, hI.low _ (zl h0) q hq⟩
 have o1 : ∀ q, vv.ownBlock = some q -> w0.heap.size <= q /\ q < w.heap.size := fun q hq => ⟨hI.own 900 0 h1 rfl q hq, hI.low _ (zl h1) q hq⟩
 have o2 : ∀ q, hv.ownBlock = some q -> w0.heap.size <= q /\ q < w.heap.size := fun q hq => ⟨hI.own 901 0 h2 rfl q hq, hI.low _ (zl h2) q hq⟩
 refine ⟨⟨hI.at 24 h0, hI.at 900 h1, World.ownsRow_nil w 0 _ 1, fun h => zw hI.apart h0 h1 O bm O h, fun h => (by cases h), fun q _ h => (by cases h)⟩, zjO zi (fun _ _ => rfl) (hI.at 901 h2) (fun _ h => h), ?_, ?_⟩
 ·
  rintro q ((hq | hq | hq) | hq)
  . exact o0 q hq
  . exact o1 q hq
  . cases hq
  . exact o2 q hq
 ·
  rintro q (hq | hq | hq) hs
  . exact zw hI.apart h0 h2 O q hq hs
  . exact zw hI.apart h1 h2 O q hq hs
  . cases hq
theorem jV (f : Fl) (r : Ins) (v1 v2 v3 s1 s2 s3 : Value) (D : Nat -> Prop) (W : World) (hf : RFl D W f v1 v2 v3) (hi1 : SlR 1 zF D W s1 r.secret) (hi2 : SlR 1 zF D W s2 r.pub) (hi3 : SlR 1 zF D W s3 r.random) (hsz : zj f.body + zB f.hatches <= 1024) (hbk : zr f.body <= 1000000) :
  Calls Tryz.prog 119 #[.agg #[v1, v2, v3], .agg #[s1, s2, s3]] W (Ret fun rr w' => (∃ rv, rr = .tuple #[rv, .int .i64 (zP f r)] /\ (zP f r = 0 -> ∃ bm vv hv, rv = .pointer (some ⟨bm, 0, none⟩) /\ MachOk w' bm v1 v2 v3 vv hv (.slice none 0 0) (jq f r) /\ SlR 1 zF (fun b => hv.ownBlock = some b) w' hv (jp f r) /\ (∀ q, qB bm vv (.slice none 0 0) q \/ hv.ownBlock = some q -> W.heap.size <= q /\ q < w'.heap.size) /\ ∀ q, qB bm vv (.slice none 0 0) q -> hv.ownBlock ≠ some q)) /\ Ext W w') := by
 have hvs := hf.vars
 have hht := hf.hatches
 obtain ⟨av, cv, rfl⟩ := hvs.form
 obtain ⟨ah, ch, rfl⟩ := hht.form
 have hmx := hvs.max
 obtain ⟨a1, n1, rfl⟩ := hi1.form
 obtain ⟨a2, n2, rfl⟩ := hi2.form
 obtain ⟨a3, n3, rfl⟩ := hi3.form
 refine zkH Tryz.func119 O Tryz.ntmps119 O (zkS ?_)
 refine Vs 2 O ?_
 refine V.box 2 O O (fun b2 => ?_)
 refine V.box 3 O O (fun b3 => ?_)
 refine Vs 8 O ?_
 refine zl7 Tryz.call126 O (fun w hI => jS f _ _ v3 D w (Tr1 hI.k0 hf) hsz hbk) ?_
 refine Vs 9 O ?_
 refine ziB O (fun c0 => ?_) (fun c0 => ?_)
 ·
  have hp : zP f r = zZ f := if_pos c0
  refine Vs 9 O ?_
  refine ziY tr119 O O (fun w hI => ⟨_, rfl, ⟨_, by rw [hp], fun h => absurd (hp ▸ h) c0⟩, hI.k0⟩)
 ·
  have hc0 : zZ f = 0 := Decidable.not_not.1 c0
  have vd : Valid f := ⟨hc0, hsz, hbk⟩
  have hp : zP f r = zM f.vars r := if_neg c0
  have hkd := vd.kinds
  have hl := vd.lens
  refine Vs 5 O ?_
  refine zln [Value.slice none 0 0, Value.slice none 0 0, Value.slice none 0 0, Value.slice none 0 0, Value.slice none 0 0, Value.slice none 0 0, Value.int IntKind.i64 0] [(0, 3), (3, 1), (4, 1), (5, 1), (6, 1)] [(0, _)] O O (fun _ => by kernel_rfl) ?_
  refine V.box 24 O O (fun b24 => ?_)
  refine Vs 11 O ?_
  refine zln [Value.slice none 0 0, Value.slice none 0 0, Value.slice none 0 0, Value.slice none 0 0] [(0, 1), (1, 1), (2, 1), (3, 1)] [(1, _), (2, _), (3, _)] O O (fun _ => by kernel_rfl) ?_
  refine V.alloc 8 Tryz.zeroValue212 O O (fun b8 => ?_)
  refine Vs 18 O ?_
  refine zl2 900 3 1 O ?_
  refine zli (σ := Nat × StS × (Int -> Value) × Bool × Value) [2, 7, 8, 33, 34] [2] [2, 7, 8] O (fun e ⟨i, s, q, o, vv⟩ => (35, .int .i64 i) :: (9, .bool o) :: e) (fun e ⟨i, s, q, o, vv⟩ => (24, .own b24 [.slice av f.vars.length cv, .slice ah f.hatches.length ch, v3, vv, .slice none 0 0, .slice none 0 0, .int .i64 0] 180) :: (900, .row 3 1 vv s.vals.length (s.vals.map zi)) :: (8, .own b8 [.slice none 0 0, q 1, q 2, q 3] 212) :: e) (fun ⟨i, s, q, o, vv⟩ => i <= f.vars.length /\ (f.vars.take i).foldl (zy r) (some ⟨[], 0, 0, 0⟩) = some s /\ LeftOk D W r s q /\ o = !((f.vars.take i).zip s.vals).all inB) (fun ⟨i, s, q, o, vv⟩ => f.vars.length - i) ((0, ⟨[], 0, 0, 0⟩, fun k => if k = 1 then .slice a1 r.secret.length n1 else if k = 2 then .slice a2 r.pub.length n2 else .slice a3 r.random.length n3, false, .slice none 0 0)) (zkg O) (zkh O) (fun _ => rfl) (fun _ => rfl) (fun _ => rfl) (⟨Nat.zero_le _, rfl, fun k h1 h3 => by rcases (show k = 1 \/ k = 2 \/ k = 3 by omega) with rfl | rfl | rfl <;> assumption, rfl⟩) ?_
  rintro ⟨i, s, q, o, vv⟩ ⟨hi, hS, hL, ho⟩
  show V _ _ _ _ _ ((35, .int .i64 i) :: (9, .bool o) :: _) _ ((24, .own b24 [.slice av f.vars.length cv, .slice ah f.hatches.length ch, v3, vv, .slice none 0 0, .slice none 0 0, .int .i64 0] 180) :: (900, .row 3 1 vv s.vals.length (s.vals.map zi)) :: (8, .own b8 [.slice none 0 0, q 1, q 2, q 3] 212) :: _) _
  refine Vs 6 O ?_
  refine ziB O (fun hlt => ?_) (fun hlt => ?_)
  ·
   refine Vs 6 O ?_
   obtain ⟨x, he_x, hm_x⟩ := gE_ f.vars (i) (by omega)
   obtain ⟨b_x, o_x, c_x, ha_x, _, hc_x, hR_x⟩ := hvs.at he_x
   obtain rfl := hR_x
   refine zlf 1000 0 O O hc_x ?_
   refine zkZ 1000 tR52 ts120 O ha_x (by omega) (_) (rfl) O ?_
   obtain ⟨hlv, _⟩ := zaF i s hi hS
   have hkx := hkd x hm_x
   have hvc := vd.varAt0 he_x
   refine Vs 1 O ?_
   refine V.alloc 11 tz120 O O (fun b11 => ?_)
   refine Vs 11 O ?_
   refine zlj (σ := Int × (Int -> Value) × Bool × StS) [2, 7, 8, 33, 34, 35] [2, 24, 900] [2, 7, 8] O (fun e ⟨n, q', o', s1⟩ => (12, .int .i64 n) :: (9, .bool o') :: e) (fun e ⟨n, q', o', s1⟩ => (8, .own b8 [.slice none 0 0, q' 1, q' 2, q' 3] 212) :: e) (fun ⟨n, q', o', s1⟩ => zy r (some s) x = some s1 /\ s1.vals = s.vals ++ [n] /\ LeftOk D W r s1 q' /\ o' = (o || !inB (x, n))) (fun _ => rfl) (fun _ => rfl) ?_ ?_
   ·
    refine Vs 7 O ?_
    refine ziB O (fun hk => ?_) (fun hk => ?_)
    ·
     have hk3 : 1 <= x.kind /\ x.kind <= 3 := by omega
     obtain ⟨rest, hrest⟩ : ∃ rest, rest = (xW r x.kind).drop (zac s x.kind) := ⟨_, rfl⟩
     have hq := hL x.kind hk3.1 hk3.2
     rw [<- hrest] at hq
     obtain ⟨aq, cq, hqf⟩ := hq.form
     rw [hqf] at hq
     have hg0 := zfS hk3 hrest.symm
     refine Va 6 O (by omega) ?_
     refine zkx O (fun w hI => R.load tg31 O (v := .slice aq rest.length cq) (by rw [<- hqf]; exact zah (hI.at 8 O) hk3)) ?_
     refine Vs 4 O ?_
     refine ziB O (fun z => ?_) (fun z => ?_)
     ·
      have hn : (f.vars.take (i + 1)).foldl (zy r) (some ⟨[], 0, 0, 0⟩) = none := by
       rw [zg he_x, List.foldl_append, hS]
       exact zeL hk3 (by rw [hg0, List.getElem?_eq_none (by omega)])
      have h1 : zM f.vars r = 1 := by unfold zM; rw [zcI hn]
      refine Vs 15 O ?_
      refine ziY tr119 O O (fun w hI => ⟨_, rfl, ⟨_, by rw [hp, h1], fun h => by rw [hp, h1] at h; cases h⟩, hI.k0⟩)
     ·
      refine Va 7 O (by omega) ?_
      refine zkx O (fun w hI => R.load tg31 O (v := .slice aq rest.length cq) (by rw [<- hqf]; exact zah (hI.at 8 O) hk3)) ?_
      obtain ⟨y, he_y, hm_y⟩ := gE_ rest (0) (by omega)
      obtain ⟨b_y, o_y, c_y, ha_y, _, hc_y, hR_y⟩ := hq.at he_y
      obtain rfl := hR_y
      refine zlf 2000 0 O O hc_y ?_
      refine zkZ 2000 tR31 ts3 O ha_y (by omega) (_) (rfl) O ?_
      have hy0 : (xW r x.kind)[zac s x.kind]? = some y := by rw [hg0, he_y]
      refine Vs 5 O ?_
      refine Vw [2, 24, 8, 1000, 11, 2000] [8] O ?_
      refine Vb [0, 1, 2, 3, 4] 0 (by kernel_rfl) O O O (by omega) ?_
      refine zlr 5 O (by kernel_rfl) O 0 O O (fun w hI => R.load tg31 O (v := .slice aq rest.length cq) (by rw [<- hqf]; exact zah (hI.at 8 O) hk3)) ?_
      refine zlp 6 O (by kernel_rfl) O (fun w => zjm tR31 ts3 O O (by omega)) ?_
      refine Vb [7] 0 (by kernel_rfl) O O O (by omega) ?_
      refine zlt 8 8 (x.kind.toNat) ts31 O (by kernel_rfl) O (rfl) (by omega) (by simp; omega) ?_
      refine zjJ (by kernel_rfl) ?_
      refine Vs 1 O ?_
      refine zlh 8 O (e' := .own b8 [.slice none 0 0, (if 1 = x.kind then (.slice (if cq = 1 then aq else aq.map (·.add (1 * 1))) (rest.length - 1) (cq - 1)) else q 1), (if 2 = x.kind then (.slice (if cq = 1 then aq else aq.map (·.add (1 * 1))) (rest.length - 1) (cq - 1)) else q 2), (if 3 = x.kind then (.slice (if cq = 1 then aq else aq.map (·.add (1 * 1))) (rest.length - 1) (cq - 1)) else q 3)] 212) (by rw [zfR hk3]; rfl) ?_
      refine Vs 3 O ?_
      refine V.sb 65 O (fun b1 => ?_) (fun b1 => ?_)
      ·
       subst b1
       refine Vs 13 O ?_
       refine ziR (⟨y, fun j => if j = x.kind then (.slice (if cq = 1 then aq else aq.map (·.add (1 * 1))) (rest.length - 1) (cq - 1)) else q j, true, kh s x.kind y⟩) (zkg O) (zkh O) (⟨zbb hk3 hy0, jF _ _ _, hL.next hk3 hrest hq (by omega), rfl⟩) 0 O O
      ·
       subst b1
       refine Vs 6 O ?_
       refine zkt 71 O (fun b2 => ?_) (fun b2 => ?_)
       ·
        refine Vs 7 O ?_
        refine ziR (⟨y, fun j => if j = x.kind then (.slice (if cq = 1 then aq else aq.map (·.add (1 * 1))) (rest.length - 1) (cq - 1)) else q j, true, kh s x.kind y⟩) (zkg O) (zkh O) (⟨zbb hk3 hy0, jF _ _ _, hL.next hk3 hrest hq (by omega), by simp [inB]; omega⟩) 0 O O
       ·
        refine Vs 7 O ?_
        refine ziR (⟨y, fun j => if j = x.kind then (.slice (if cq = 1 then aq else aq.map (·.add (1 * 1))) (rest.length - 1) (cq - 1)) else q j, decide (x.high < y), kh s x.kind y⟩) (zkg O) (zkh O) (⟨zbb hk3 hy0, jF _ _ _, hL.next hk3 hrest hq (by omega), zhG b2⟩) 0 O O
    ·
     refine Vs 1 O ?_
     refine ziR (⟨x.init, q, o, ⟨s.vals ++ [x.init], s.a, s.b, s.c⟩⟩) (zkg O) (zkh O) (⟨zeK (by omega), rfl, hL, by have := zbZ hvc (by omega); simp [inB, this.1, this.2]⟩) 0 O O
   rintro ⟨n, q', o', s1⟩ ⟨hst, hsv, hL', ho'⟩
   show V _ _ _ _ _ ((12, .int .i64 n) :: (9, .bool o') :: _) _ ((8, .own b8 [.slice none 0 0, q' 1, q' 2, q' 3] 212) :: _) _
   refine Vs 8 O ?_
   refine zll 83 [(0, _)] tR31 ts3 tz3 (by decide) O O (by kernel_rfl) (fun b83 => ?_)
   refine V.ap 900 83 tu31 Tryz.el3 O (by decide) O O (by omega) (by omega) (fun u900 => ?_)
   refine Vs 2 O ?_
   refine zl4 900 O (by omega) ?_
   rintro bq cq rfl hcap_900
   refine Va 8 O (by omega) ?_
   refine zlh 900 O (e' := .row 3 1 (.slice (some ⟨bq, 0, none⟩) (s.vals.length + 1) cq) s1.vals.length (s1.vals.map zi)) (by rw [hsv, zmg, List.map_append]; rfl) ?_
   refine ziM (⟨i + 1, s1, q', o', _⟩) (zkg O) (zkh O) (⟨by omega, zdO he_x hS hst, hL', by rw [ho', ho, hsv, zfM he_x s.vals (by omega) n]; cases ((f.vars.take i).zip s.vals).all inB <;> cases inB (x, n) <;> rfl⟩) (by first | omega | (dsimp only; omega)) 0 O O
  ·
   obtain rfl : i = f.vars.length := by omega
   rw [zmd] at hS ho
   have hSS : jT f.vars r = some s := hS
   refine Vs 13 O ?_
   refine zli (σ := Nat) [2, 7, 9, 88] [2, 24, 900] [2, 7] O (fun e j => (89, .int .i64 j) :: e) (fun e j => e) (fun j => j <= 4 /\ ∀ k : Int, 1 <= k -> k < j -> k <= 3 -> ((xW r k).drop (zac s k)).length = 0) (fun j => 4 - j) (0) (zkg O) (zkh O) (fun _ => rfl) (fun _ => rfl) (fun _ => rfl) (⟨by omega, fun k h1 h2 => by omega⟩) ?_
   rintro j ⟨hj, hzero⟩
   refine Vs 6 O ?_
   refine ziB O (fun hj4 => ?_) (fun hj4 => ?_)
   ·
    obtain ⟨al, ln, cl, hv, hl0, hl1⟩ := zh2 hL (j := j) (by omega)
    refine Vs 6 O ?_
    refine zkx O (fun w hI => zly Tryz.runUnderlying212 ts31 tg31 O O (by omega) (by simpa using hv)) ?_
    refine Vs 10 O ?_
    refine ziB O (fun z => ?_) (fun z => ?_)
    ·
     have hj0 : 1 <= j := by omega
     have h1 := zdP hSS (k := (j : Int)) (by omega) (by have := hl1 hj0; omega)
     refine Vs 12 O ?_
     refine ziY tr119 O O (fun w hI => ⟨_, rfl, ⟨_, by rw [hp, h1], fun h => by rw [hp, h1] at h; cases h⟩, hI.k0⟩)
    ·
     refine Va 7 O (by omega) ?_
     refine ziM (j + 1) (zkg O) (zkh O) (⟨by omega, fun k h1 h2 h3 => by by_cases e : k = (j : Int); (· rw [e]; have := hl1 (by omega); omega); (· exact hzero k h1 (by omega) h3)⟩) (by first | omega | (dsimp only; omega)) 0 O O
   ·
    have hfin := zeM hSS hkd fun k h1 h3 => hzero k h1 (by omega) h3
    refine Vs 11 O ?_
    refine V.bool O (fun o1 => ?_) (fun o1 => ?_)
    ·
     have h3 : zM f.vars r = 3 := by rw [hfin, if_neg (by rw [ho] at o1; simpa using o1)]
     refine Vs 8 O ?_
     refine ziY tr119 O O (fun w hI => ⟨_, rfl, ⟨_, by rw [hp, h3], fun h => by rw [hp, h3] at h; cases h⟩, hI.k0⟩)
    ·
     have h0 : zM f.vars r = 0 := by rw [hfin, if_pos (by rw [ho] at o1; simpa using o1)]
     have hsv : xm f.vars r = s.vals := by unfold xm; rw [hSS]
     have hV : InV f.vars s.vals := hsv ▸ zbX h0
     refine zl2 901 3 1 O ?_
     refine Vs 12 O ?_
     refine zli (σ := Nat × Value) [7, 98, 99] [900] [7] O (fun e ⟨i, hv⟩ => (100, .int .i64 i) :: e) (fun e ⟨i, hv⟩ => (24, .own b24 [.slice av f.vars.length cv, .slice ah f.hatches.length ch, v3, vv, hv, .slice none 0 0, .int .i64 0] 180) :: (901, .row 3 1 hv i ((zfN s.vals (f.hatches.take i)).map zi)) :: e) (fun ⟨i, hv⟩ => i <= f.hatches.length) (fun ⟨i, hv⟩ => f.hatches.length - i) ((0, .slice none 0 0)) (zkg O) (zkh O) (fun _ => rfl) (fun _ => rfl) (fun _ => rfl) (Nat.zero_le _) ?_
     rintro ⟨i, hv⟩ hi
     show V _ _ _ _ _ ((100, .int .i64 i) :: _) _ ((24, .own b24 [.slice av f.vars.length cv, .slice ah f.hatches.length ch, v3, vv, hv, .slice none 0 0, .int .i64 0] 180) :: (901, .row 3 1 hv i ((zfN s.vals (f.hatches.take i)).map zi)) :: _) _
     refine Vs 6 O ?_
     refine ziB O (fun hlt => ?_) (fun hlt => ?_)
     ·
      refine Vs 6 O ?_
      obtain ⟨x, he_x, hm_x⟩ := gE_ f.hatches (i) (by omega)
      obtain ⟨b_x, o_x, c_x, ha_x, _, hc_x, hR_x⟩ := hht.at he_x
      obtain ⟨v1_x, rfl, hk_x⟩ := hR_x
      obtain ⟨a1_x, n1_x, rfl⟩ := hk_x.form
      refine zlf 3000 0 O O hc_x ?_
      refine zkZ 3000 tR53 ts137 O ha_x (by omega) (_) (rfl) O ?_
      obtain ⟨g1, g2, _, g4⟩ := vd.hatch x hm_x
      refine Vs 1 O ?_
      refine V.alloc 16 tz137 O O (fun b16 => ?_)
      refine Vs 3 O ?_
      refine Vw [24, 3000, 16] [21] O ?_
      refine Vd [0, 1, 2, 3, 4, 5, 6, 7, 8, 9, 10, 12, 13, 14, 15] 0 (by kernel_rfl) O O O ?_
      refine zl8 11 0 tc148 O (by kernel_rfl) O O (fun w hI => jm vd.good hV x.term g1 g2 _ D (fun _ => True) w _ (zjO zi (fun _ _ => rfl) (hI.at 900 O) (fun _ _ => trivial)) (RTm.put (Tr1 hI.k0 hk_x))) ?_
      refine zl8 16 0 Tryz.call147 O (by kernel_rfl) O O (fun w hI => qe _ x.low x.high w g4) ?_
      refine zlm 17 121 0 [(0, _)] tR31 ts3 tz3 (by decide) O (by kernel_rfl) O O (by kernel_rfl) (fun b121 => ?_)
      refine zl3 18 901 121 0 tu31 Tryz.el3 O (by decide) O (by kernel_rfl) O O O (by omega) (by omega) (fun u901 => ?_)
      refine Vd [19, 20] 0 (by kernel_rfl) O O O ?_
      refine zl5 901 O (by omega) ?_
      rintro bh chh rfl hcap_901
      refine Vl 21 O (by kernel_rfl) O ?_
      refine zjJ (by kernel_rfl) ?_
      refine Va 6 O (by omega) ?_
      refine zlh 901 O (e' := .row 3 1 (.slice (some ⟨bh, 0, none⟩) (i + 1) chh) (i + 1) ((zfN s.vals (f.hatches.take (i + 1))).map zi)) (by rw [zeI he_x, List.map_append]; rfl) ?_
      refine ziM (⟨i + 1, _⟩) (zkg O) (zkh O) (by omega) (by first | omega | (dsimp only; omega)) 0 O O
     ·
      obtain rfl : i = f.hatches.length := by omega
      have hsg : jq f r = ⟨s.vals, [], 0⟩ := by unfold jq; rw [hsv]
      have hht' : jp f r = zfN s.vals (f.hatches.take f.hatches.length) := by rw [zmd, <- hsv]
      rw [hsg, hht']
      refine Vs 13 O ?_
      refine ziY tr119 O O (fun w hI => ⟨_, rfl, ⟨_, by rw [hp, h0], fun _ => ⟨b24, vv, hv, rfl, zfT hI O O rfl⟩⟩, hI.k0⟩)
abbrev zi5 (hv : Value) (l : List Int) : HE := .res (fun q => hv.ownBlock = some q) (fun w => SlR 1 zF (fun b => hv.ownBlock = some b) w hv l)
theorem zfU (hv : Value) (l : List Int) : (zi5 hv l).loc := fun _ _ _ h hk hT => SlR.keep zc h hk fun q hq hlt => hT q hlt hq
theorem zfV {f : Fl} {r : Ins} {v1 v2 v3 : Value} {H : Hp} {W w : World} {g : FuncId} {args : Array Value} (_ : W.heap.size <= w.heap.size) (h0 : zP f r = 0)
  (hc : Calls Tryz.prog g args w (Ret fun rr w' => (∃ rv, rr = .tuple #[rv, .int .i64 (zP f r)] /\ (zP f r = 0 -> ∃ bm vv hv, rv = .pointer (some ⟨bm, 0, none⟩) /\ MachOk w' bm v1 v2 v3 vv hv (.slice none 0 0) (jq f r) /\ SlR 1 zF (fun b => hv.ownBlock = some b) w' hv (jp f r) /\ (∀ q, qB bm vv (.slice none 0 0) q \/ hv.ownBlock = some q -> w.heap.size <= q /\ q < w'.heap.size) /\ ∀ q, qB bm vv (.slice none 0 0) q -> hv.ownBlock ≠ some q)) /\ Ext w w')) :
  Calls Tryz.prog g args w (Ret fun rr w' => ∃ x : Nat × Value × Value, rr = .tuple #[.pointer (some ⟨x.1, 0, none⟩), .int .i64 0] /\ Hands H [] ((903, zi5 x.2.2 (jp f r)) :: qQ x.1 v1 v2 v3 x.2.1 x.2.2 (.slice none 0 0) (jq f r)) w w') := by
 refine hc.mono ?_
 rintro _ w' ⟨rr, rfl, ⟨rv, rfl, hs⟩, hk⟩
 obtain ⟨bm, vv, hv, rfl, hM, hh, hS, hap⟩ := hs h0
 obtain ⟨l1, l2⟩ := hM.lent
 refine ⟨_, rfl, (bm, vv, hv), by rw [h0], hk.mono fun q _ h => h.elim, fun x hx => ?_, List.pairwise_cons.2 ⟨fun x hx q hq hs => ?_, l2⟩⟩
 ·
  rcases List.mem_cons.1 hx with rfl | hx
  . exact ⟨hh, zfU _ _, fun _ h => h, fun q hq => ⟨.inr (hS q (.inr hq)).1, (hS q (.inr hq)).2⟩⟩
  ·
   obtain ⟨k1, k2, k3, k4⟩ := l1 x hx
   exact ⟨k1, k2, k3, fun q hq => ⟨.inr (hS q (.inl (machHS.1 ⟨x, hx, hq⟩))).1, k4 q hq⟩⟩
 . exact hap q (machHS.1 ⟨x, hx, hs⟩) hq
theorem zhH {f : Fl} (vd : Valid f) : 0 + nbL f.body <= 100000 := by
 have := vd.nb; omega
theorem zhI {H : Hp} {w w0 : World} {D : Nat -> Prop} {bm : Nat} {v1 v2 v3 vv hv ov : Value} {σ : Sg} {l : List Int} (hI : VI [(w0, fun _ => False)] H w) (h0 : zm H 900 = some (.own bm [v1, v2, v3, vv, hv, ov, .int .i64 σ.time] 180)) (h1 : zm H 901 = some (.row 3 1 vv σ.vals.length (σ.vals.map zi))) (h2 : zm H 902 = some (.row 3 1 ov σ.outs.length (σ.outs.map zi))) (h3 : zm H 903 = some (zi5 hv l)) : ∀ q, qB bm vv ov q -> ¬ (D q /\ q < w0.heap.size) /\ hv.ownBlock ≠ some q := by
 rintro q (hq | hq | hq)
 . exact ⟨fun h => by have := hI.own 900 0 h0 O q hq; omega, fun h => zw hI.apart h0 h3 O q hq h⟩
 . exact ⟨fun h => by have := hI.own 901 0 h1 O q hq; omega, fun h => zw hI.apart h1 h3 O q hq h⟩
 . exact ⟨fun h => by have := hI.own 902 0 h2 O q hq; omega, fun h => zw hI.apart h2 h3 O q hq h⟩
theorem zdQ (f : Fl) (r : Ins) (v1 v2 v3 s1 s2 s3 : Value) (D : Nat -> Prop) (W : World) (hf0 : RFl D W f v1 v2 v3) (hi1 : SlR 1 zF D W s1 r.secret) (hi2 : SlR 1 zF D W s2 r.pub) (hi3 : SlR 1 zF D W s3 r.random) (hsz : zj f.body + zB f.hatches <= 1024) (hbk : zr f.body <= 1000000) :
  Calls Tryz.prog 87 #[.agg #[v1, v2, v3], .agg #[s1, s2, s3]] W (Ret fun rr w' => (∃ ov t, rr = .tuple #[.agg #[ov, .int .i64 t], .int .i64 (zP f r)] /\ (zP f r ≠ 0 -> ov = .slice none 0 0 /\ t = 0) /\ (zP f r = 0 -> t = (qk f r).time /\ SlR 1 zF (fun b => W.heap.size <= b) w' ov (qk f r).outs)) /\ Ext W w') := by
 have hf := hf0.narrow
 refine zkH Tryz.func87 O Tryz.ntmps87 O (zkS ?_)
 refine Vs 2 O ?_
 refine V.box 2 O O (fun b2 => ?_)
 refine V.box 3 O O (fun b3 => ?_)
 refine V.alloc 4 tz60 O O (fun b4 => ?_)
 refine Vs 4 O ?_
 refine ziS (p := zP f r = 0) (fun hc => ?_) (fun hc => ?_)
 ·
  have hck : zZ f = 0 := by
   unfold zP at hc
   split at hc
   . rename_i h; exact absurd hc h
   . rename_i h; exact Decidable.not_not.1 h
  have vd : Valid f := ⟨hck, hsz, hbk⟩
  have hst : zM f.vars r = 0 := by unfold zP at hc; rwa [if_neg (by omega)] at hc
  have hvl := vd.lens
  have hss := vd.ssize
  have hnb := zhH vd
  refine Vs 3 O ?_
  refine zlw [] (Hn := fun x : Nat × Value × Value => [(903, zi5 x.2.2 (jp f r)), (900, .own x.1 [v1, v2, v3, x.2.1, x.2.2, (.slice none 0 0), .int .i64 (jq f r).time] 180), (901, .row 3 1 x.2.1 (jq f r).vals.length ((jq f r).vals.map zi)), (902, .row 3 1 (.slice none 0 0) (jq f r).outs.length ((jq f r).outs.map zi))]) [(2, some (2, 0)), (3, some (3, 0)), (4, some (4, 0))] Tryz.call119 O (fun _ _ => rfl) (fun _ => rfl) (fun w hI => zfV (hI.k0).size hc (jV f r v1 v2 v3 s1 s2 s3 D w (Tr1 hI.k0 hf0) (Tr1 hI.k0 hi1) (Tr1 hI.k0 hi2) (Tr1 hI.k0 hi3) hsz hbk)) ?_
  rintro _ ⟨bm, vv, hv⟩ rfl
  refine Vs 9 O ?_
  refine zkY 6 900 0 O O ?_
  refine Vs 5 O ?_
  refine ziB O (fun c0 => ?_) (fun c0 => ?_)
  . exact absurd O c0
  ·
   refine Vs 7 O ?_
   refine zlw [900, 901, 902] (Hn := fun ov' : Value => [(900, .own bm [v1, v2, v3, vv, hv, ov', .int .i64 (qk f r).time] 180), (901, .row 3 1 vv (qk f r).vals.length ((qk f r).vals.map zi)), (902, .row 3 1 ov' (qk f r).outs.length ((qk f r).outs.map zi))]) [(2, some (2, 0)), (3, some (3, 0)), (4, some (4, 0)), (6, some (900, 0)), (18, some (900, 0)), (19, some (2, 2))] Tryz.call120 O (fun _ _ => rfl) (fun _ => rfl) (fun w hI => qR (σ := jq f r) (zh1 f (jp f r) vd.good (by simp [zfN]) (by omega) f.body (zba vd) 0 (jq f r) (zag hst) hnb (fun b => D b /\ b < W.heap.size) (fun b => hv.ownBlock = some b) w bm v1 v2 v3 vv hv _ _ (fun q hq => hq.elim (fun h => Nat.lt_of_lt_of_le h.2 (hI.k0).size) (fun h => hI.low _ (zl (k := 903) O) q h)) (Tr1 hI.k0 hf) (hI.at 903 O) (Tr1 hI.k0 hf.body) (jU hI O O O) (zhI hI O O O O)) (hI.k0).size O O O) ?_
   rintro _ ov' ⟨rfl, hov⟩
   refine zkT (fun w hI => zaN (show w.ownsRow 0 3 1 ov' _ _ from hI.at 902 O)) ?_
   rintro ⟨ao, co, rfl⟩
   refine Vs 3 O ?_
   refine Vw [2, 3, 4, 900] [9] O ?_
   refine Vd [0, 1, 2, 3, 4, 5, 6, 7] 0 (by kernel_rfl) O O O ?_
   refine zlo 8 [Value.slice none 0 0, Value.int IntKind.i64 0] [(0, 1), (1, 1)] [(0, _), (1, _)] O (by kernel_rfl) O O (fun _ => by kernel_rfl) ?_
   refine Vl 9 O (by kernel_rfl) O ?_
   refine Vx [10] (by kernel_rfl) O ?_
   refine zjJ (by kernel_rfl) ?_
   refine Vs 2 O ?_
   refine zj6 Tryz.results87 tg60 ts60 O O O O (fun w hI => ⟨_, rfl, ⟨_, _, by rw [hc], fun h => absurd hc h, fun _ => ⟨rfl, zjO zi (fun _ _ => rfl) (hI.at 902 O) (fun b hb => hI.own 902 0 O O b hb)⟩⟩, hI.k0⟩)
 ·
  refine Vs 3 O ?_
  refine zl9 Tryz.call119 O (fun w hI => jV f r v1 v2 v3 s1 s2 s3 D w (Tr1 hI.k0 hf0) (Tr1 hI.k0 hi1) (Tr1 hI.k0 hi2) (Tr1 hI.k0 hi3) hsz hbk) ?_
  rintro rr w1 w2 hI1 hk12 ⟨rv, rfl, _⟩ hlow
  refine Vs 14 O ?_
  refine ziB O (fun c0 => ?_) (fun c0 => ?_)
  ·
   refine Vs 2 O ?_
   refine zln [Value.slice none 0 0, Value.int IntKind.i64 0] [(0, 1), (1, 1)] [] O O (fun _ => by kernel_rfl) ?_
   refine Vs 7 O ?_
   refine zj6 Tryz.results87 tg60 ts60 O O O O (fun w hI => ⟨_, rfl, ⟨_, _, rfl, fun _ => ⟨rfl, rfl⟩, fun h => absurd h hc⟩, hI.k1⟩)
  . exact absurd hc c0
theorem zdm (a : Int) (w : World) : Calls Tryz.prog 154 #[.int .i64 a] w (Ret fun r w' => r = .bool false /\ Ext w w') := by
 refine zkG Tryz.func154 O Tryz.ntmps154 O (Gs 14 O (ziU Tryz.results154 O ⟨_, rfl, by simp, Keep.refl _ _⟩))
theorem zhJ (a b : Int) (w : World) : Calls Tryz.prog 125 #[.int .i64 a, .int .i64 b] w (Ret fun r w' => r = .int .i64 (if a < b then -1 else if b < a then 1 else 0) /\ Ext w w') := by
 refine zkH Tryz.func125 O Tryz.ntmps125 O (Gs 8 O (G.call O Tryz.call154 (zdm a w) ?_))
 rintro _ w1 ⟨rfl, hk1⟩
 refine Gs 6 O (G.call O Tryz.call154 (zdm b w1) ?_)
 rintro _ w2 ⟨rfl, hk2⟩
 refine Gs 9 O (G.ff O (rfl) (Gs 8 O (G.ff O (rfl) (Gs 10 O (zkv O (fun h => ?_) (fun h => ?_))))))
 . refine Gs 7 O (ziU Tryz.results125 O ⟨_, rfl, by rw [if_pos h], hk1.ext hk2⟩)
 ·
  refine Gs 10 O (zkv O (fun h2 => ?_) (fun h2 => ?_))
  . refine Gs 7 O (ziU Tryz.results125 O ⟨_, rfl, by rw [if_neg h, if_pos h2], hk1.ext hk2⟩)
  . refine Gs 8 O (ziU Tryz.results125 O ⟨_, rfl, by rw [if_neg h, if_neg (by omega)], hk1.ext hk2⟩)
def jr : List Int -> List Int -> Int
 | [], [] => 0
 | [], _ :: _ => -1
 | _ :: _, [] => 1
 | x :: xs, y :: ys => if x < y then -1 else if y < x then 1 else jr xs ys
theorem zcM (xs ys : List Int) (u v : Value) (D D' : Nat -> Prop) (w : World) (hx : SlR 1 zF D w u xs) (hy : SlR 1 zF D' w v ys) : Calls Tryz.prog 90 #[u, v] w (Ret fun r w' => r = .int .i64 (jr xs ys) /\ Ext w w') := by
 obtain ⟨ao, cx, rfl, hxc, hxm, hxe⟩ := hx
 obtain ⟨bo, cy, rfl, hyc, hym, hye⟩ := hy
 refine zkH Tryz.func90 O Tryz.ntmps90 O (Gs 14 O (G.loop (σ := Nat) (fun k => [(0, .slice ao xs.length cx), (1, .slice bo ys.length cy), (9, .slice ao xs.length cx), (10, .int .i64 xs.length), (11, .int .i64 k)]) (fun k => fun w' => k <= xs.length /\ k <= ys.length /\ jr (xs.drop k) (ys.drop k) = jr xs ys /\ Ext w w') (fun k => xs.length - k) (0) (zkg O) (⟨Nat.zero_le _, Nat.zero_le _, rfl, Keep.refl _ _⟩) ?_))
 rintro k w1 ⟨hkx, hky, hc, hk1⟩
 refine Gs 6 O (zkv O (fun hlt => ?_) (fun hge => ?_))
 ·
  obtain ⟨x, hx⟩ : ∃ x, xs[k]? = some x := ⟨_, zm8 (by omega)⟩
  obtain ⟨b1, o1, c1, hao, _, hcl1, hcs1, rfl⟩ := hxe k x hx
  have hdx : xs.drop k = x :: xs.drop (k + 1) := by
   obtain ⟨h1, h2⟩ := List.getElem?_eq_some_iff.1 hx
   rw [List.drop_eq_getElem_cons h1, h2]
  refine Gs 7 O (zkw O O (zjj tR31 ts3 O O hao (by omega)) (zkA O tg3 ((hk1.cells hcs1 (fun h => h)) 0 _ O) (Gs 13 O (zkv O (fun hgy => ?_) (fun hly => ?_)))))
  ·
   have : ys.drop k = [] := List.drop_of_length_le (by omega)
   refine Gs 12 O (ziU tr90 O ⟨_, rfl, by rw [<- hc, hdx, this]; rfl, hk1⟩)
  ·
   obtain ⟨y, hy⟩ : ∃ y, ys[k]? = some y := ⟨_, zm8 (by omega)⟩
   obtain ⟨b2, o2, c2, hbo, _, hcl2, hcs2, rfl⟩ := hye k y hy
   have hdy : ys.drop k = y :: ys.drop (k + 1) := by
    obtain ⟨h1, h2⟩ := List.getElem?_eq_some_iff.1 hy
    rw [List.drop_eq_getElem_cons h1, h2]
   have hcc : (if x < y then -1 else if y < x then 1 else jr (xs.drop (k + 1)) (ys.drop (k + 1))) = jr xs ys := by rw [<- hc, hdx, hdy]; rfl
   refine Gs 6 O (zkw O O (zjj tR31 ts3 O O hbo (by omega)) (zkA O tg3 ((hk1.cells hcs2 (fun h => h)) 0 _ O) (Gs 7 O (G.call O Tryz.call125 (zhJ x y w1) ?_))))
   rintro _ w2 ⟨rfl, hk2⟩
   refine Gs 9 O (zkv O (fun hn => ?_) (fun he => ?_))
   ·
    refine Gs 12 O (ziU tr90 O ⟨_, rfl, ?_, hk1.ext hk2⟩)
    rw [<- hcc]
    by_cases h1 : x < y
    . rw [if_pos h1, if_pos h1]
    ·
     by_cases h2 : y < x
     . rw [if_neg h1, if_pos h2, if_neg h1, if_pos h2]
     . exact absurd (by rw [if_neg h1, if_neg h2]) hn
   ·
    have h1 : ¬ x < y := fun h => he (by rw [if_pos h]; decide)
    have h2 : ¬ y < x := fun h => he (by rw [if_neg h1, if_pos h]; decide)
    rw [if_neg h1, if_neg h2] at hcc
    refine Ga 7 O (by omega) (ziL (k + 1) (zkg O) (⟨by omega, by omega, hcc, hk1.ext hk2⟩) (by first | omega | (dsimp only; omega)))
 ·
  have hdx : xs.drop k = [] := List.drop_of_length_le (by omega)
  refine Gs 15 O (zkv O (fun hl2 => ?_) (fun hg2 => ?_))
  ·
   obtain ⟨y, hy⟩ : ∃ y, ys[k]? = some y := ⟨_, zm8 (by omega)⟩
   have hdy : ys.drop k = y :: ys.drop (k + 1) := by
    obtain ⟨h1, h2⟩ := List.getElem?_eq_some_iff.1 hy
    rw [List.drop_eq_getElem_cons h1, h2]
   refine Gs 7 O (ziU tr90 O ⟨_, rfl, by rw [<- hc, hdx, hdy]; rfl, hk1⟩)
  ·
   have hdy : ys.drop k = [] := List.drop_of_length_le (by omega)
   refine Gs 8 O (ziU tr90 O ⟨_, rfl, by rw [<- hc, hdx, hdy]; rfl, hk1⟩)
def yu (x y : List Int × Int) : Int := if jr x.1 y.1 ≠ 0 then jr x.1 y.1 else if x.2 < y.2 then -1 else if y.2 < x.2 then 1 else 0
theorem xy (x y : List Int × Int) (u v : Value) (D D' : Nat -> Prop) (W : World) (hx : SlR 1 zF D W u x.1) (hy : SlR 1 zF D' W v y.1) :
  Calls Tryz.prog 54 #[.agg #[u, .int .i64 x.2], .agg #[v, .int .i64 y.2]] W (Ret fun r w' => r = .int .i64 (yu x y) /\ Ext W w') := by
 refine zkH Tryz.func54 O Tryz.ntmps54 O (zkS ?_)
 refine Vs 2 O ?_
 refine V.box 2 O O (fun b2 => ?_)
 refine V.box 3 O O (fun b3 => ?_)
 refine Vs 10 O ?_
 refine zl7 Tryz.call90 O (fun w hI => zcM x.1 y.1 u v D D' w (Tr1 hI.k0 hx) (Tr1 hI.k0 hy)) ?_
 refine Vs 9 O ?_
 refine ziB O (fun h0 => ?_) (fun h0 => ?_)
 ·
  refine Vs 8 O ?_
  refine ziV tr54 O (fun w hI => ⟨_, rfl, by unfold yu; rw [if_pos h0], hI.k0⟩)
 ·
  refine Vs 14 O ?_
  refine ziB O (fun h1 => ?_) (fun h1 => ?_)
  ·
   refine Vs 8 O ?_
   refine ziV tr54 O (fun w hI => ⟨_, rfl, by unfold yu; rw [if_neg h0, if_pos h1], hI.k0⟩)
  ·
   refine Vs 10 O ?_
   refine ziB O (fun h2 => ?_) (fun h2 => ?_)
   ·
    refine Vs 8 O ?_
    refine ziV tr54 O (fun w hI => ⟨_, rfl, by unfold yu; rw [if_neg h0, if_neg h1, if_pos h2], hI.k0⟩)
   ·
    refine Vs 9 O ?_
    refine ziV tr54 O (fun w hI => ⟨_, rfl, by unfold yu; rw [if_neg h0, if_neg h1, if_neg (by omega)], hI.k0⟩)
def zcN : List Vr -> List Int -> Int -> Option Int
 | v :: vs, x :: xs, n => if x < v.low \/ v.high < x then none else zcN vs xs (n * (v.high - v.low + 1) + x - v.low)
 | _, _, n => some n
def xT (k : Int) (vs : List Vr) (r : List Int) : Int × Int :=
 if (zp k vs).isSome then (if r.length = (ze k vs).length then (match zcN (ze k vs) r 0 with | none => (0, 3) | some n => (n, 0)) else (0, 2)) else (0, 4)
theorem zdR {k : Int} {vs : List Vr} (h : (zp k vs).isSome = true) (i : Nat) : ∃ m, yf k ((ze k vs).take i) 1 = some m := by
 unfold zp at h
 rw [<- yZ, <- List.take_append_drop i (ze k vs), zU] at h
 cases hm : yf k ((ze k vs).take i) 1 with
 | none => rw [hm] at h; cases h
 | some m => exact ⟨m, rfl⟩
theorem xC {k : Int} {vs : List Vr} {v : Vr} (h : v ∈ ze k vs) : v ∈ vs := (List.mem_filter.1 h).1
theorem qx {α : Type} {l : List α} {i : Nat} {x : α} (h : l[i]? = some x) : l.drop i = x :: l.drop (i + 1) := by
 obtain ⟨h1, h2⟩ := List.getElem?_eq_some_iff.1 h
 rw [List.drop_eq_getElem_cons h1, h2]
theorem zeN {n m s x l : Int} (h0 : 0 <= n) (h1 : n < m) (h2 : x - l < s) (h3 : 0 <= x - l) (h4 : m * s <= 4096) : 0 <= n * s /\ n * s <= 4096 /\ n * s + x - l < m * s /\ 0 <= n * s + x - l := by
 have hs : 0 <= s := by omega
 have a : 0 <= n * s := Int.mul_nonneg h0 hs
 have b : (n + 1) * s <= m * s := Int.mul_le_mul_of_nonneg_right (by omega) hs
 rw [Int.add_mul, Int.one_mul] at b
 omega
theorem zdS (vs : List Vr) (k : Int) (r : List Int) (vv rv : Value) (D D' : Nat -> Prop) (W : World) (hk : 0 <= k /\ k <= 3) (hg : ∀ v ∈ vs, yn (v.low, v.high)) (hlen : vs.length <= 1000000) (hvs : SlR 5 RVr D W vv vs) (hr : SlR 1 zF D' W rv r) :
  Calls Tryz.prog 96 #[vv, .int .i64 k, rv] W (Ret fun rr w' => rr = .tuple #[.int .i64 (xT k vs r).1, .int .i64 (xT k vs r).2] /\ Ext W w') := by
 obtain ⟨ar, cr, rfl⟩ := hr.form
 have hmr := hr.max
 refine zkI Tryz.func96 O Tryz.ntmps96 O (zkS ?_)
 refine ziS (p := (zp k vs).isSome = true) (fun hc => ?_) (fun hc => ?_)
 ·
  refine Vs 10 O ?_
  refine zl9 tc117 O (fun w hI => qh vs k vv D w hk hg (Tr1 hI.k0 hvs) hlen) ?_
  rintro rr w1 w2 hI1 hk12 ⟨vl, rfl, hs1, _⟩ hlow
  have hos := hs1 hc
  obtain ⟨al, cl, rfl⟩ := hos.form
  have hml := hos.max
  refine Vs 18 O ?_
  refine ziB O (fun c0 => ?_) (fun c0 => ?_)
  . exact absurd (if_pos hc) c0
  ·
   refine Vs 10 O ?_
   refine ziB O (fun c1 => ?_) (fun c1 => ?_)
   ·
    refine Vs 9 O ?_
    refine ziY tr96 O O (fun w hI => ⟨_, rfl, by unfold xT; rw [if_pos hc, if_neg (by omega)], hI.k1⟩)
   ·
    have hel : r.length = (ze k vs).length := by omega
    refine Vs 17 O ?_
    refine zli (σ := Nat × Int) [2, 31, 32] [] [] O (fun e ⟨i, n⟩ => (11, .int .i64 n) :: (33, .int .i64 i) :: e) (fun e ⟨i, n⟩ => e) (fun ⟨i, n⟩ => i <= (ze k vs).length /\ zcN ((ze k vs).drop i) (r.drop i) n = zcN (ze k vs) r 0 /\ ∃ m, yf k ((ze k vs).take i) 1 = some m /\ 0 <= n /\ n < m) (fun ⟨i, n⟩ => (ze k vs).length - i) ((0, 0)) (zkg O) (zkh O) (fun _ => rfl) (fun _ => rfl) (fun _ => rfl) (⟨Nat.zero_le _, rfl, 1, rfl, by omega, by omega⟩) ?_
    rintro ⟨i, n⟩ ⟨hi, hrk, m, hm, hn0, hn1⟩
    show V _ _ _ _ _ ((11, .int .i64 n) :: (33, .int .i64 i) :: _) _ (_) _
    refine Vs 6 O ?_
    refine ziB O (fun hlt => ?_) (fun hlt => ?_)
    ·
     refine Vs 7 O ?_
     obtain ⟨x, he_x, hm_x⟩ := gE_ (ze k vs) (i) (by omega)
     obtain ⟨b_x, o_x, c_x, ha_x, hd_x, hc_x, hR_x⟩ := hos.atD he_x
     obtain rfl := hR_x
     refine zlg 1000 0 O O (fun h_ => by have h1_ := hlow _ h_; have h2_ := hd_x; first | omega | exact h1_ h2_) hc_x ?_
     refine zkZ 1000 tR52 ts120 O ha_x (by omega) (_) (rfl) O ?_
     refine Vs 1 O ?_
     refine V.alloc 13 tz120 O O (fun b13 => ?_)
     refine Vs 6 O ?_
     obtain ⟨y, he_y, hm_y⟩ := gE_ r (i) (by omega)
     obtain ⟨b_y, o_y, c_y, ha_y, _, hc_y, hR_y⟩ := hr.at he_y
     obtain rfl := hR_y
     refine zlf 2000 1 O O hc_y ?_
     have hry : i < r.length := by omega
     have hgx := hg x (xC hm_x)
     unfold yn at hgx
     dsimp only at hgx
     have hdx := qx he_x
     have hdy := qx he_y
     refine Vq (by kernel_rfl) ?_
     refine Vs 2 O ?_
     refine zl1 2000 tR31 ts3 O ha_y (by omega) (_) (rfl) O ?_
     refine Vs 5 O ?_
     refine zkt 45 O (fun b1 => ?_) (fun b1 => ?_)
     ·
      refine Vs 24 O ?_
      refine ziY tr96 O O (fun w hI => ⟨_, rfl, by unfold xT; rw [if_pos hc, if_pos hel, <- hrk, hdx, hdy]; unfold zcN; rw [if_pos (by omega)], hI.k1⟩)
     ·
      refine Vs 2 O ?_
      refine zl1 2000 tR31 ts3 O ha_y (by omega) (_) (rfl) O ?_
      refine Vs 7 O ?_
      refine ziB O (fun d1 => ?_) (fun d1 => ?_)
      ·
       refine Vs 13 O ?_
       refine ziY tr96 O O (fun w hI => ⟨_, rfl, by unfold xT; rw [if_pos hc, if_pos hel, <- hrk, hdx, hdy]; unfold zcN; rw [if_pos (by omega)], hI.k1⟩)
      ·
       obtain ⟨m', hm'⟩ := zdR hc (i + 1)
       have hp := yq k ((ze k vs).take (i + 1)) 1 m' (fun v hv => hg v (xC (List.mem_of_mem_take hv))) (by omega) (by omega) hm'
       have hst := hm'
       rw [zg he_x, zU, hm] at hst
       have hkx : x.kind = k := of_decide_eq_true (List.mem_filter.1 hm_x).2
       have hmm : m * (x.high - x.low + 1) = m' := by
        simp only [Option.bind, yf] at hst
        rw [if_pos hkx] at hst
        split at hst
        . cases hst
        . exact Option.some.inj hst
       have hrs := zeN (s := x.high - x.low + 1) (x := y) (l := x.low) hn0 hn1 (by omega) (by omega) (by omega)
       refine Vs 2 O ?_
       refine Vw [1000, 13, 2000] [] O ?_
       refine Vd [0, 1, 4, 5, 9, 10] 0 (by kernel_rfl) O O O ?_
       refine zl0 6 2000 tR31 ts3 O (by kernel_rfl) O ha_y (by omega) (_) (rfl) O ?_
       refine Vd [7] 0 (by kernel_rfl) O O O ?_
       refine zl8 2 0 Tryz.call118 O (by kernel_rfl) O O (fun w hI => jB x w (hg x (xC hm_x))) ?_
       refine Vb [3, 8, 11, 12] 0 (by kernel_rfl) O O O (by omega) ?_
       refine zjI (by kernel_rfl) ?_
       refine Va 6 O (by omega) ?_
       refine ziM ((i + 1, n * (x.high - x.low + 1) + y - x.low)) (zkg O) (zkh O) (⟨by omega, by rw [<- hrk, hdx, hdy]; conv => rhs; unfold zcN; rw [if_neg (by omega)], m', hm', by omega, by omega⟩) (by first | omega | (dsimp only; omega)) 0 O O
    ·
     have : i = (ze k vs).length := by omega
     subst this
     rw [List.drop_length, <- hel, List.drop_length] at hrk
     refine Vs 13 O ?_
     refine ziY tr96 O O (fun w hI => ⟨_, rfl, by unfold xT; rw [if_pos hc, if_pos hel, <- hrk]; rfl, hI.k1⟩)
 ·
  refine Vs 10 O ?_
  refine zl9 tc117 O (fun w hI => qh vs k vv D w hk hg (Tr1 hI.k0 hvs) hlen) ?_
  rintro rr w1 w2 hI1 hk12 ⟨vl, rfl, _, _⟩ hlow
  refine Vs 18 O ?_
  refine ziB O (fun c0 => ?_) (fun c0 => ?_)
  ·
   refine Vs 10 O ?_
   refine ziY tr96 O O (fun w hI => ⟨_, rfl, by unfold xT; rw [if_neg hc, if_neg hc], hI.k1⟩)
  . exact absurd (by rw [if_neg hc]; decide) c0
def yy : List Vr -> Int -> List Int × Int
 | [], n => ([], n)
 | v :: vs, n => ((v.low + (yy vs n).2.tmod (v.high - v.low + 1)) :: (yy vs n).1, (yy vs n).2.tdiv (v.high - v.low + 1))
theorem qS : ∀ (vs : List Vr) (n : Int), (yy vs n).1.length = vs.length
 | [], _ => rfl
 | v :: vs, n => by simp [yy, qS vs n]
structure UnIn (os : List Vr) (n : Int) (i q : Int) (xs : List Int) : Prop where
 low : -1 <= i
 lt : i < os.length
 row : xs = List.replicate (i + 1).toNat 0 ++ (yy (os.drop (i + 1).toNat) n).1
 rest : q = (yy (os.drop (i + 1).toNat) n).2
 q0 : 0 <= q /\ q <= n
theorem zjR {os : List Vr} {n : Int} (h : 0 <= n) : UnIn os n ((os.length : Int) - 1) n (List.replicate os.length 0) := by
 have e : ((os.length : Int) - 1 + 1).toNat = os.length := by omega
 exact ⟨by omega, by omega, by rw [e, List.drop_length]; simp [yy], by rw [e, List.drop_length]; rfl, h, Int.le_refl _⟩
theorem UnIn.len {os : List Vr} {n i q : Int} {xs : List Int} (h : UnIn os n i q xs) : xs.length = os.length := by
 have := h.low
 have := h.lt
 rw [h.row, zmg, List.length_replicate, qS, List.length_drop]
 omega
theorem zfW {k : Int} {vs : List Vr} (hg : ∀ v ∈ vs, yn (v.low, v.high)) (h : (zp k vs).isSome = true) : (zp k vs).getD 0 <= 4096 := by
 cases hm : zp k vs with
 | none => rw [hm] at h; cases h
 | some m => exact (yq k vs 1 m hg (by omega) (by omega) hm).2
theorem UnIn.step {os : List Vr} {n q : Int} {j : Nat} {xs : List Int} {x : Vr} (h : UnIn os n j q xs) (hx : os[j]? = some x) (hs : 1 <= x.high - x.low + 1) : UnIn os n ((j : Int) - 1) (q.tdiv (x.high - x.low + 1)) (xs.set j (x.low + q.tmod (x.high - x.low + 1))) := by
 have e1 : ((j : Int) + 1).toNat = j + 1 := by omega
 have e2 : ((j : Int) - 1 + 1).toNat = j := by omega
 have hx0 := h.row
 have hq0 := h.rest
 rw [e1] at hx0 hq0
 have hd : yy (os.drop j) n = ((x.low + q.tmod (x.high - x.low + 1)) :: (yy (os.drop (j + 1)) n).1, q.tdiv (x.high - x.low + 1)) := by
  rw [qx hx, yy, <- hq0]
 have hl := h.lt
 refine ⟨by omega, by omega, ?_, by rw [e2, hd], Int.tdiv_nonneg h.q0.1 (by omega), Int.le_trans (Int.tdiv_le_self _ h.q0.1) h.q0.2⟩
 rw [e2, hd, hx0, List.replicate_succ', List.append_assoc]
 rw [List.set_append_right _ _ (by simp)]
 simp
def yH (k : Int) (vs : List Vr) (n : Int) : Int :=
 if (zp k vs).isSome then (if n < 0 \/ (zp k vs).getD 0 <= n then 3 else 0) else 4
theorem zc0 (vs : List Vr) (k n : Int) (vv : Value) (D : Nat -> Prop) (W : World) (hk : 0 <= k /\ k <= 3) (hg : ∀ v ∈ vs, yn (v.low, v.high)) (hlen : vs.length <= 1000000) (hvs : SlR 5 RVr D W vv vs) :
  Calls Tryz.prog 86 #[vv, .int .i64 k, .int .i64 n] W (Ret fun rr w' => (∃ u, rr = .tuple #[u, .int .i64 (yH k vs n)] /\ (yH k vs n ≠ 0 -> u = .slice none 0 0) /\ (yH k vs n = 0 -> SlR 1 zF (fun b => W.heap.size <= b) w' u (yy (ze k vs) n).1)) /\ Ext W w') := by
 refine zkI Tryz.func86 O Tryz.ntmps86 O (zkS ?_)
 refine ziS (p := (zp k vs).isSome = true) (fun hc => ?_) (fun hc => ?_)
 ·
  refine Vs 10 O ?_
  refine zl9 tc117 O (fun w hI => qh vs k vv D w hk hg (Tr1 hI.k0 hvs) hlen) ?_
  rintro rr w1 w2 hI1 hk12 ⟨vl, rfl, hs1, _⟩ hlow
  have hos := hs1 hc
  obtain ⟨al, cl, rfl⟩ := hos.form
  have hml := hos.max
  have hN := zfW hg hc
  have hol := zme (xe k vs) hlen
  refine Vs 18 O ?_
  refine ziB O (fun c0 => ?_) (fun c0 => ?_)
  . exact absurd (if_pos hc) c0
  ·
   refine Vs 5 O ?_
   refine zkt 28 O (fun c1 => ?_) (fun c1 => ?_)
   ·
    have hC : yH k vs n = 3 := by unfold yH; rw [if_pos hc, if_pos (.inl c1)]
    refine Vs 17 O ?_
    refine ziY tr86 O O (fun w hI => ⟨_, rfl, ⟨_, by rw [hC], fun _ => rfl, fun h => by rw [hC] at h; cases h⟩, hI.k1⟩)
   ·
    refine Vs 7 O ?_
    refine ziB O (fun c2 => ?_) (fun c2 => ?_)
    ·
     have hC : yH k vs n = 3 := by unfold yH; rw [if_pos hc, if_pos (.inr c2)]
     refine Vs 9 O ?_
     refine ziY tr86 O O (fun w hI => ⟨_, rfl, ⟨_, by rw [hC], fun _ => rfl, fun h => by rw [hC] at h; cases h⟩, hI.k1⟩)
    ·
     have hC : yH k vs n = 0 := by unfold yH; rw [if_pos hc, if_neg (by omega)]
     refine Vs 7 O ?_
     refine zjy 35 tu31 Tryz.el3 O (by omega) (by omega) (zs := List.replicate (ze k vs).length (.int .i64 0)) (zi6 _ _ O) (by simp) (fun b35 => ?_)
     refine zlh 35 O (e' := .row 3 1 (.slice (some ⟨b35, 0, none⟩) (ze k vs).length (ze k vs).length) (ze k vs).length ((List.replicate (ze k vs).length (0 : Int)).map zi)) (by rw [List.map_replicate]) ?_
     refine Va 13 O (by omega) ?_
     refine zli (σ := Int × Int × List Int) [8, 11] [] [] O (fun e ⟨i, q, xs⟩ => (12, .int .i64 i) :: (2, .int .i64 q) :: e) (fun e ⟨i, q, xs⟩ => (35, .row 3 1 (.slice (some ⟨b35, 0, none⟩) (ze k vs).length (ze k vs).length) (ze k vs).length (xs.map zi)) :: e) (fun ⟨i, q, xs⟩ => UnIn (ze k vs) n i q xs) (fun ⟨i, q, xs⟩ => (i + 1).toNat) ((((ze k vs).length : Int) - 1, n, List.replicate (ze k vs).length 0)) (zkg O) (zkh O) (fun _ => rfl) (fun _ => rfl) (fun _ => rfl) (zjR (by omega)) ?_
     rintro ⟨i, q, xs⟩ hU
     show V _ _ _ _ _ ((12, .int .i64 i) :: (2, .int .i64 q) :: _) _ ((35, .row 3 1 (.slice (some ⟨b35, 0, none⟩) (ze k vs).length (ze k vs).length) (ze k vs).length (xs.map zi)) :: _) _
     refine Vs 7 O ?_
     refine ziB O (fun hlt => ?_) (fun hlt => ?_)
     ·
      obtain ⟨j, rfl⟩ : ∃ j : Nat, i = j := ⟨i.toNat, by omega⟩
      have hjl := hU.lt
      refine Vs 8 O ?_
      obtain ⟨x, he_x, hm_x⟩ := gE_ (ze k vs) (j) (by omega)
      obtain ⟨b_x, o_x, c_x, ha_x, hd_x, hc_x, hR_x⟩ := hos.atD he_x
      obtain rfl := hR_x
      refine zlg 1000 0 O O (fun h_ => by have h1_ := hlow _ h_; have h2_ := hd_x; first | omega | exact h1_ h2_) hc_x ?_
      refine zkZ 1000 tR52 ts120 O ha_x (by omega) (_) (rfl) O ?_
      have hgx := hg x (xC hm_x)
      unfold yn at hgx
      dsimp only at hgx
      have hq := hU.q0
      have hxl := hU.len
      have hr0 := Int.tmod_nonneg (x.high - x.low + 1) hq.1
      have hr1 := Int.tmod_lt_of_pos q (show 0 < x.high - x.low + 1 by omega)
      refine Vs 1 O ?_
      refine zl7 Tryz.call118 O (fun w hI => jB x w (hg x (xC hm_x))) ?_
      refine Vs 4 O ?_
      refine Vw [1000] [] O ?_
      refine Vd [0, 1, 2, 3, 7, 8] 0 (by kernel_rfl) O O O ?_
      refine zl0 4 1000 tR52 ts120 O (by kernel_rfl) O ha_x (by omega) (_) (rfl) O ?_
      refine Vd [5, 6] 0 (by kernel_rfl) O O O ?_
      refine zlp 9 O (by kernel_rfl) O (fun w => R.rem O O (by omega) (by omega)) ?_
      refine Vb [10, 11] 0 (by kernel_rfl) O O O (by omega) ?_
      refine zl6 12 35 0 (j) ts3 O (by kernel_rfl) O O (by omega) (by simp; omega) ?_
      refine zjI (by kernel_rfl) ?_
      refine Vs 1 O ?_
      refine zlh 35 O (e' := .row 3 1 (.slice (some ⟨b35, 0, none⟩) (ze k vs).length (ze k vs).length) (ze k vs).length ((xs.set j (x.low + q.tmod (x.high - x.low + 1))).map zi)) (by rw [List.map_set] <;> rfl) ?_
      refine Vs 3 O ?_
      refine zkx O (fun w hI => R.quo O O (by omega) (by omega)) ?_
      refine Va 9 O (by omega) ?_
      refine ziM (⟨(j : Int) - 1, q.tdiv (x.high - x.low + 1), xs.set j (x.low + q.tmod (x.high - x.low + 1))⟩) (zkg O) (zkh O) (hU.step he_x (by omega)) (by first | omega | (dsimp only; omega)) 0 O O
     ·
      have hi : i = -1 := by have := hU.low; omega
      subst hi
      have hx := hU.row
      simp at hx
      refine Vs 13 O ?_
      refine ziY tr86 O O (fun w hI => ⟨_, rfl, ⟨_, by rw [hC], fun h => absurd hC h, fun _ => by rw [<- hx]; exact zjO zi (fun _ _ => rfl) (hI.at 35 O) (fun b hb => hI.own 35 1 O O b hb)⟩, hI.k1⟩)
 ·
  refine Vs 10 O ?_
  refine zl9 tc117 O (fun w hI => qh vs k vv D w hk hg (Tr1 hI.k0 hvs) hlen) ?_
  rintro rr w1 w2 hI1 hk12 ⟨vl, rfl, _, _⟩ hlow
  have hC : yH k vs n = 4 := by unfold yH; rw [if_neg hc]
  refine Vs 18 O ?_
  refine ziB O (fun c0 => ?_) (fun c0 => ?_)
  ·
   refine Vs 10 O ?_
   refine ziY tr86 O O (fun w hI => ⟨_, rfl, ⟨_, by rw [hC, if_neg hc], fun _ => rfl, fun h => by rw [hC] at h; cases h⟩, hI.k1⟩)
  . exact absurd (by rw [if_neg hc]; decide) c0
abbrev Ob := List Int × Int
theorem zc1 : ∀ (x y : List Int), jr y x = - jr x y
 | [], [] => rfl
 | [], _ :: _ => rfl
 | _ :: _, [] => rfl
 | a :: x, b :: y => by
  simp only [jr]
  have := zc1 x y
  (repeat' split); all_goals omega
theorem zbc : ∀ {x y : List Int}, jr x y = 0 -> x = y
 | [], [], _ => rfl
 | [], _ :: _, h => by simp [jr] at h
 | _ :: _, [], h => by simp [jr] at h
 | a :: x, b :: y, h => by
  simp only [jr] at h
  split at h
  . simp at h
  ·
   split at h
   . simp at h
   . rw [show a = b by omega, zbc h]
theorem zai : ∀ (x : List Int), jr x x = 0
 | [] => rfl
 | a :: x => by simp [jr, zai x]
theorem zaH : ∀ {x y z : List Int}, jr x y < 0 -> jr y z < 0 -> jr x z < 0
 | [], [], _, h, _ => by simp [jr] at h
 | [], _ :: _, [], _, h => by simp [jr] at h
 | [], _ :: _, _ :: _, _, _ => by simp [jr]
 | _ :: _, [], _, h, _ => by simp [jr] at h
 | _ :: _, _ :: _, [], _, h => by simp [jr] at h
 | a :: x, b :: y, c :: z, h, h' => by
  simp only [jr] at h h' ⊢
  by_cases h1 : a < b
  ·
   by_cases h2 : b < c
   . rw [if_pos (by omega)]; omega
   ·
    by_cases h3 : c < b
    . rw [if_neg h2, if_pos h3] at h'; omega
    . rw [if_pos (by omega)]; omega
  ·
   by_cases h2 : b < a
   . rw [if_neg h1, if_pos h2] at h; omega
   ·
    rw [if_neg h1, if_neg h2] at h
    by_cases h3 : b < c
    . rw [if_pos (by omega)]; omega
    ·
     by_cases h4 : c < b
     . rw [if_neg h3, if_pos h4] at h'; omega
     ·
      rw [if_neg h3, if_neg h4] at h'
      rw [if_neg (by omega), if_neg (by omega)]
      exact zaH h h'
theorem xg (x y : Ob) : yu y x = - yu x y := by
 unfold yu
 have := zc1 x.1 y.1
 (repeat' split); all_goals omega
theorem jH (x : Ob) : yu x x = 0 := by
 unfold yu
 simp [zai]
theorem js {x y : Ob} (h : yu x y = 0) : x = y := by
 unfold yu at h
 split at h
 . rename_i h1; exact absurd h h1
 ·
  rename_i h1
  split at h
  . simp at h
  ·
   split at h
   . simp at h
   . exact Prod.ext (zbc (Decidable.not_not.1 h1)) (by omega)
theorem cmpOb_iff {x y : Ob} : yu x y = 0 ↔ x = y := ⟨js, fun h => h ▸ jH x⟩
theorem zfX {x y : Ob} : yu x y < 0 ↔ jr x.1 y.1 < 0 \/ (x.1 = y.1 /\ x.2 < y.2) := by
 unfold yu
 by_cases h : x.1 = y.1
 ·
  have h1 : jr x.1 y.1 = 0 := by rw [h]; exact zai _
  rw [if_neg (by rw [h1]; decide), h1]
  by_cases h2 : x.2 < y.2
  . simp [h2, h]
  ·
   rw [if_neg h2]
   by_cases h3 : y.2 < x.2
   . simp [h3, h2]
   . simp [h3, h2]
 ·
  have h1 : jr x.1 y.1 ≠ 0 := fun e => h (zbc e)
  rw [if_pos h1]
  simp [h]
theorem qT {x y z : Ob} (h : yu x y < 0) (h' : yu y z < 0) : yu x z < 0 := by
 rw [zfX] at h h' ⊢
 rcases h with h | ⟨h1, h2⟩
 ·
  rcases h' with h' | ⟨h3, h4⟩
  . exact .inl (zaH h h')
  . exact .inl (h3 ▸ h)
 ·
  rcases h' with h' | ⟨h3, h4⟩
  . exact .inl (h1 ▸ h')
  . exact .inr ⟨h1.trans h3, by omega⟩
abbrev Asc (l : List Ob) : Prop := l.Pairwise fun a b => yu a b < 0
theorem Asc.irr {l : List Ob} {x : Ob} (h : Asc (x :: l)) : x ∉ l := fun hm => by
 have := (List.pairwise_cons.1 h).1 x hm
 rw [jH] at this
 omega
theorem zeO : ∀ {l l' : List Ob}, Asc l -> Asc l' -> (∀ x, x ∈ l ↔ x ∈ l') -> l = l'
 | [], [], _, _, _ => rfl
 | [], y :: l', _, _, h => absurd ((h y).2 (zmc ..)) (by simp)
 | x :: l, [], _, _, h => absurd ((h x).1 (zmc ..)) (by simp)
 | x :: l, y :: l', h1, h2, h => by
  have hxy : x = y := by
   rcases List.mem_cons.1 ((h x).1 (zmc ..)) with e | e
   . exact e
   ·
    rcases List.mem_cons.1 ((h y).2 (zmc ..)) with e' | e'
    . exact e'.symm
    ·
     have a := (List.pairwise_cons.1 h2).1 x e
     have b := (List.pairwise_cons.1 h1).1 y e'
     have c := xg x y
     omega
  subst hxy
  rw [zeO (List.pairwise_cons.1 h1).2 (List.pairwise_cons.1 h2).2 fun z => ?_]
  constructor
  ·
   intro hz
   rcases List.mem_cons.1 ((h z).1 (zmb _ hz)) with rfl | h3
   . exact absurd hz h1.irr
   . exact h3
  ·
   intro hz
   rcases List.mem_cons.1 ((h z).2 (zmb _ hz)) with rfl | h3
   . exact absurd hz h2.irr
   . exact h3
def zgx (x : Ob) : List Ob -> List Ob
 | [] => [x]
 | y :: l => if yu x y < 0 then x :: y :: l else if x = y then y :: l else y :: zgx x l
def zcO (l : List Ob) : List Ob := l.foldr zgx []
theorem mem_insO {x z : Ob} : ∀ {l : List Ob}, z ∈ zgx x l ↔ z = x \/ z ∈ l
 | [] => by simp [zgx]
 | y :: l => by
  simp only [zgx]
  split
  . simp
  ·
   split
   . rename_i h; subst h; simp
   ·
    simp only [List.mem_cons, mem_insO (l := l)]
    constructor
    ·
     rintro (h | h | h)
     . exact .inr (.inl h)
     . exact .inl h
     . exact .inr (.inr h)
    ·
     rintro (h | h | h)
     . exact .inr (.inl h)
     . exact .inl h
     . exact .inr (.inr h)
theorem zdn {x : Ob} : ∀ {l : List Ob}, Asc l -> Asc (zgx x l)
 | [], _ => List.pairwise_singleton _ _
 | y :: l, h => by
  simp only [zgx]
  split
  ·
   rename_i h1
   refine List.pairwise_cons.2 ⟨fun z hz => ?_, h⟩
   rcases List.mem_cons.1 hz with rfl | hz
   . exact h1
   . exact qT h1 ((List.pairwise_cons.1 h).1 z hz)
  ·
   split
   . exact h
   ·
    rename_i h1 h2
    refine List.pairwise_cons.2 ⟨fun z hz => ?_, zdn (List.pairwise_cons.1 h).2⟩
    rcases mem_insO.1 hz with rfl | hz
    ·
     have a := xg z y
     have b : yu z y ≠ 0 := fun e => h2 (js e)
     omega
    . exact (List.pairwise_cons.1 h).1 z hz
theorem mem_distO {z : Ob} : ∀ {l : List Ob}, z ∈ zcO l ↔ z ∈ l
 | [] => Iff.rfl
 | x :: l => by
  show z ∈ zgx x (zcO l) ↔ _
  rw [mem_insO, mem_distO, List.mem_cons]
theorem zc2 : ∀ (l : List Ob), Asc (zcO l)
 | [] => List.Pairwise.nil
 | _ :: l => zdn (zc2 l)
theorem zfY {l m : List Ob} (h : Asc l) (hm : ∀ x, x ∈ l ↔ x ∈ m) : l = zcO m := zeO h (zc2 m) fun x => by rw [hm, mem_distO]
theorem zc3 {l s m : List Ob} (hp : s.Perm l) (hn : l.Nodup) (hs : s.Pairwise fun a b => ¬ yu b a < 0) (hm : ∀ x, x ∈ l ↔ x ∈ m) : s = zcO m := by
 have hsn : s.Nodup := hp.nodup_iff.2 hn
 refine zfY ?_ fun x => by rw [hp.mem_iff, hm]
 refine (hs.and hsn).imp ?_
 intro a b h
 have h1 := xg a b
 have h2 : yu a b ≠ 0 := fun e => h.2 (js e)
 omega
end Go.Proofs.YtbkhagigkglgoaaGreatDoor
namespace Go.GL
def ROb : Rel (List Int × Int) := fun D w o cs => ∃ v, cs = [v, .int .i64 o.2] /\ SlR 1 zF D w v o.1
def RQu : Rel (Int × List Int) := fun D w q cs => ∃ v, cs = [.int .i64 q.1, v] /\ SlR 1 zF D w v q.2
def RPg : Rel Fl := fun D w f cs => ∃ v1 v2 v3, cs = [v1, v2, v3] /\ RFl D w f v1 v2 v3
theorem zaj : zQ ROb := fun _ _ _ _ hD hk _ _ ⟨v, h1, h2⟩ => ⟨v, h1, h2.stable zc hD hk⟩
theorem xD : zQ RQu := fun _ _ _ _ hD hk _ _ ⟨v, h1, h2⟩ => ⟨v, h1, h2.stable zc hD hk⟩
theorem zak : zQ RPg := fun _ _ _ _ hD hk _ _ ⟨v1, v2, v3, h1, h2⟩ => ⟨v1, v2, v3, h1, h2.vars.stable yN hD hk, h2.hatches.stable yO hD hk, h2.body.stable zd hD hk⟩
theorem zeP : xt ROb := fun _ _ _ _ ⟨v, h1, h2⟩ => ⟨v, h1, h2.narrow (by omega) yj⟩
theorem zc4 : xt RQu := fun _ _ _ _ ⟨v, h1, h2⟩ => ⟨v, h1, h2.narrow (by omega) yj⟩
theorem zc5 : xt RPg := fun _ _ _ _ ⟨v1, v2, v3, h1, h2⟩ => ⟨v1, v2, v3, h1, h2.narrow⟩
instance : StC ROb := ⟨zaj⟩
instance : StC RQu := ⟨xD⟩
instance : StC RPg := ⟨zak⟩
instance : Dt ROb := ⟨zaj, zeP⟩
instance : Dt RQu := ⟨xD, zc4⟩
instance : Dt RPg := ⟨zak, zc5⟩
theorem zgy (D : Nat -> Prop) {w : World} (x : List Int × Int) (cs : List Value) (h : ROb D w x cs) : ∀ u ∈ cs, u.oneCell' = true := by
 obtain ⟨v, rfl, h1⟩ := h
 obtain ⟨a, c, rfl⟩ := h1.form
 simp [Value.oneCell']
theorem zgz (D : Nat -> Prop) {w : World} (x : Int × List Int) (cs : List Value) (h : RQu D w x cs) : ∀ u ∈ cs, u.oneCell' = true := by
 obtain ⟨v, rfl, h1⟩ := h
 obtain ⟨a, c, rfl⟩ := h1.form
 simp [Value.oneCell']
@[ext] structure Ac where
 mode : Int
 budget : Int
 spent : Int
 left : List Int
 asked : List (Int × List Int)
deriving DecidableEq
structure RAc (D : Nat -> Prop) (w : World) (a : Ac) (v1 v2 : Value) : Prop where
 left : SlR 1 zF D w v1 a.left
 asked : SlR 2 RQu D w v2 a.asked
theorem RAc.ext {D : Nat -> Prop} {w w' : World} {a : Ac} {v1 v2 : Value} (h : RAc D w a v1 v2) (hk : Ext w w') : RAc D w' a v1 v2 := ⟨h.left.ext zc hk, h.asked.ext xD hk⟩
instance {D : Nat -> Prop} {w w' : World} {a : Ac} {v1 v2 : Value} : Tr (RAc D w a v1 v2) w w' (RAc D w' a v1 v2) := ⟨fun h hk => RAc.ext h hk⟩
theorem RAc.wide {D D' : Nat -> Prop} {w : World} {a : Ac} {v1 v2 : Value} (h : RAc D w a v1 v2) (hD : ∀ q, D q -> D' q) : RAc D' w a v1 v2 := ⟨h.left.wide zc hD, h.asked.wide xD hD⟩
section
variable {P : Program} {env : Env} {w : World} {dst : Option Tmp} {ty : TypeId} {pos : String} {aft : Array Edge} {g : Option (Nat × Bool)}
theorem M.bs0 {t e : TypeId} {k : Nat} (hu : ∀ w, (underlying t).run P w = .ok (.slice e) w) (hs : ∀ w, (sizeOf e).run P w = .ok k w) :
  yp P ⟨dst, .buildSlice t 0 #[], ty, pos, aft, g⟩ env w (fun u w' => ∃ b, u = .slice (some ⟨b, 0, none⟩) 0 0 /\ New w [] e b w') := by
 refine ⟨.slice (some ⟨w.heap.size, 0, none⟩) 0 0, w.alloc (.cells #[] e), ?_, _, rfl, New.mk w [] e⟩
 intro n a ha
 have h0 : Array.range 0 = #[] := Array.eq_empty_of_size_eq_zero (by simp)
 simp [execOp, Instr.buildSlice, hu, hs, newRow, Instr.fill, h0]
end
end Go.GL
namespace Go.Proofs.YtbkhagigkglgoaaGreatDoor
open Go.GL
theorem zfZ (vs : List Vr) (k : Int) (vv : Value) (D : Nat -> Prop) (w : World) (hvs : SlR 5 RVr D w vv vs) (hlen : vs.length <= 1000000) : Calls Tryz.prog 72 #[vv, .int .i64 k] w (Ret fun r w' => SlR 5 RVr (fun b => w.heap.size <= b) w' r (ze k vs) /\ Ext w w') := by
 obtain ⟨av, nv, rfl⟩ := hvs.form
 have hvs0 := hvs
 have hE := Keep.refl (fun _ => False) w
 refine zkH Tryz.func72 O Tryz.ntmps72 O (Gs 7 O (zjs O O (M.bs0 tR52 ts120) ?_))
 rintro _ w0 ⟨b0, rfl, hg_b0, hs_b0, hB_b0, hk_b0⟩
 obtain ⟨hE, hvs⟩ := Tr2 hk_b0 hE hvs
 have ho0 : w0.ownsRow 0 120 5 (.slice (some ⟨b0, 0, none⟩) 0 0) 0 [] := yl (k := 5) (n := 0) (cap := 0) hB_b0 (Nat.le_refl _) (by decide) rfl
 refine Gs 10 O (G.loop (σ := Nat × Value) (fun ⟨i, vl⟩ => [(0, .slice av vs.length nv), (1, .int .i64 k), (5, vl), (6, .int .i64 i)]) (fun ⟨i, vl⟩ => fun w' => i <= vs.length /\ w'.ownsRow 0 120 5 vl (ze k (vs.take i)).length ((ze k (vs.take i)).flatMap zcB) /\ (∀ q, vl.ownBlock = some q -> w.heap.size <= q) /\ Ext w w') (fun ⟨i, vl⟩ => vs.length - i) ((0, .slice (some ⟨b0, 0, none⟩) 0 0)) (zkg O) (⟨Nat.zero_le _, ho0, fun q hq => by obtain rfl : b0 = q := Option.some.inj hq; omega, hE⟩) ?_)
 rintro ⟨i, vl⟩ w2 ⟨hi, hown, hfr, hE2⟩
 show G _ _ _ _ _ [(0, .slice av vs.length nv), (1, .int .i64 k), (5, vl), (6, .int .i64 i)] _
 have hvs2 := hvs0.ext yN hE2
 refine Gs 9 O (ziA O (fun hlt => ?_) (fun hlt => ?_))
 ·
  obtain ⟨x, he_x, hm_x⟩ := gE_ vs (i) (by omega)
  obtain ⟨b_x, o_x, c_x, ha_x, _, hc_x, hR_x⟩ := hvs2.at he_x
  have h1_x := RVr.one hR_x
  obtain rfl := hR_x
  have hlt_x : b_x < _ := zma _ _ (hc_x 0 _ rfl)
  have hot := za4 (k := k) he_x
  have hol := xe k (vs.take i)
  rw [List.length_take] at hol
  refine Gs 8 O (zkw O O (zjj tR52 ts120 O O ha_x (by omega)) (Gs 1 O (zkA O tg89 (hc_x 1 _ O) (Gs 4 O (ziA O (fun hkx => ?_) (fun hkx => ?_))))))
  ·
   rw [if_pos hkx] at hot
   refine Gs 4 O (zkw O O (zjj tR52 ts120 O O ha_x (by omega)) (zkC O tg120 ts120 hc_x O (zjs O O (M.buildSlice (cs := zcB x) [(0, _)] tR52 ts120 tz120 (by decide) O (by kernel_rfl)) ?_)))
   rintro _ w5 ⟨b5, rfl, hg_b5, hs_b5, hB_b5, hk_b5⟩
   have hown5 := zN hown hk_b5 (fun _ _ h => h)
   have hE5 := hE2.ext hk_b5
   have hs5 := hE5.size
   refine zjs O O (M.append tu52 Tryz.el120 O (by decide) O O hown5 O (Cells.add hB_b5.cells) (zdc _) (by omega) (by omega)) ?_
   rintro vl' w6 ⟨hown6, hfr6, hk6, _⟩
   refine Ga 9 O (by omega) (ziL ((i + 1, vl')) (zkg O) (⟨by omega, ?_, ?_, hE5.trans hk6 (fun q hq h => by have := hfr q h; omega)⟩) (by first | omega | (dsimp only; omega)))
   ·
    rw [hot, zmg, List.flatMap_append]
    exact hown6
   ·
    intro q hq
    rcases hfr6 with h | ⟨q', h, h'⟩
    . exact hfr q (by rw [<- h]; exact hq)
    . rw [h] at hq; cases hq; omega
  ·
   rw [if_neg hkx, List.append_nil] at hot
   refine Ga 8 O (by omega) (ziL ((i + 1, vl)) (zkg O) (⟨by omega, by rw [hot]; exact hown, hfr, hE2⟩) (by first | omega | (dsimp only; omega)))
 ·
  obtain rfl : i = vs.length := by omega
  rw [zmd] at hown
  refine Gs 12 O (ziU Tryz.results72 O ⟨_, rfl, zjP (by omega) zcB zdb (fun x _ => rfl) hown hfr, hE2⟩)
theorem xQ (vs : List Vr) (k : Int) (vv : Value) (D : Nat -> Prop) (w : World) (hvs : SlR 5 RVr D w vv vs) (hlen : vs.length <= 1000000) : Calls Tryz.prog 66 #[vv, .int .i64 k] w (Ret fun r w' => (∃ a b : Int, r = .tuple #[.int .i64 a, .int .i64 b]) /\ Ext w w') := by
 obtain ⟨av, nv, rfl⟩ := hvs.form
 have hE := Keep.refl (fun _ => False) w
 refine zkH Tryz.func66 O Tryz.ntmps66 O (Gs 8 O (ziO (σ := Bool) (fun q => [(0, .slice av vs.length nv), (1, .int .i64 k), (23, .bool q)]) (fun q => fun w' => w' = w) ?_ ?_))
 ·
  refine Gs 4 O (zkr 12 O (fun hh1 => ?_) (fun hh1 => ?_))
  ·
   refine Gs 4 O (zkr 16 O (fun hh2 => ?_) (fun hh2 => ?_))
   ·
    refine Gs 4 O (zkr 20 O (fun hh3 => ?_) (fun hh3 => ?_))
    ·
     refine Gs 4 O ?_
     refine ziQ (_) (zkg O) (rfl)
    ·
     refine Gs 4 O ?_
     refine ziQ (_) (Sub.cons O (Sub.cons O (Sub.cons (by first | rfl | (show some (Value.bool false) = some (Value.bool _); simp [*])) Sub.nil))) (rfl)
   ·
    refine Gs 8 O ?_
    refine ziQ (_) (Sub.cons O (Sub.cons O (Sub.cons (by first | rfl | (show some (Value.bool false) = some (Value.bool _); simp [*])) Sub.nil))) (rfl)
  ·
   refine Gs 12 O ?_
   refine ziQ (_) (Sub.cons O (Sub.cons O (Sub.cons (by first | rfl | (show some (Value.bool false) = some (Value.bool _); simp [*])) Sub.nil))) (rfl)
 rintro q w1 hw1
 subst hw1
 refine Gs 1 O (G.bool O (fun q1 => ?_) (fun q1 => ?_))
 . refine Gs 8 O (ziX tr66 O O ⟨_, rfl, ⟨_, _, rfl⟩, hE⟩)
 ·
  refine Gs 6 O (G.call O Tryz.call72 (zfZ vs k _ D _ hvs hlen) ?_)
  rintro _ wz4 ⟨hl, hz4⟩
  obtain ⟨hE, hvs⟩ := Tr2 hz4 hE hvs
  have hol := xe k vs
  generalize ze k vs = l at hl hol
  obtain ⟨al, nl, rfl⟩ := hl.form
  refine Gs 10 O ?_
  have hlm := hl.max
  refine G.loop (σ := Nat) (fun i => [(6, .slice al l.length nl), (7, .int .i64 i)]) (fun i => fun w' => i <= l.length /\ (∀ v ∈ l.take i, v.low <= v.high /\ -1048576 <= v.low /\ v.high <= 1048576) /\ Ext wz4 w') (fun i => l.length - i) (0) (zkg O) (⟨Nat.zero_le _, by simp, Keep.refl _ _⟩) ?_
  rintro i w2 ⟨hi, hgood, hL1⟩
  obtain ⟨hE, hvs, hl⟩ := Tr3 hL1 hE hvs hl
  refine Gs 9 O (ziA O (fun hlt => ?_) (fun hlt => ?_))
  ·
   obtain ⟨x, he_x, hm_x⟩ := gE_ l (i) (by omega)
   obtain ⟨b_x, o_x, c_x, ha_x, _, hc_x, hR_x⟩ := hl.at he_x
   have h1_x := RVr.one hR_x
   obtain rfl := hR_x
   have hlt_x : b_x < _ := zma _ _ (hc_x 0 _ rfl)
   refine Gs 5 O (Qt (by kernel_rfl) (Gs 2 O (zkz O O (fun w1 hw1 => zjj tR52 ts120 O O ha_x (by omega)) (Gs 1 O (zkB O tg3 (fun w1 hw1 => ((hw1.cells hc_x (fun h => h)) 2 _ O)) (Gs 2 O (zkz O O (fun w1 hw1 => zjj tR52 ts120 O O ha_x (by omega)) (Gs 1 O (zkB O tg3 (fun w1 hw1 => ((hw1.cells hc_x (fun h => h)) 3 _ O)) (Gs 2 O (zkr 44 O (fun p1 => ?_) (fun p1 => ?_))))))))))))
   ·
    refine Gs 15 O (zkD (fun wz5 hz5 => ?_))
    obtain ⟨hE, hvs, hl, hL1, hc_x⟩ := Tr5 hz5 hE hvs hl hL1 hc_x
    refine Gs 14 O (ziX tr66 O O ⟨_, rfl, ⟨_, _, rfl⟩, hE⟩)
   ·
    refine Gs 2 O (zkz O O (fun w1 hw1 => zjj tR52 ts120 O O ha_x (by omega)) (Gs 1 O (zkB O tg3 (fun w1 hw1 => ((hw1.cells hc_x (fun h => h)) 2 _ O)) (Gs 3 O (zkr 52 O (fun p2 => ?_) (fun p2 => ?_))))))
    ·
     refine Gs 7 O (zkD (fun wz6 hz6 => ?_))
     obtain ⟨hE, hvs, hl, hL1, hc_x⟩ := Tr5 hz6 hE hvs hl hL1 hc_x
     refine Gs 14 O (ziX tr66 O O ⟨_, rfl, ⟨_, _, rfl⟩, hE⟩)
    ·
     refine Gs 2 O (zkz O O (fun w1 hw1 => zjj tR52 ts120 O O ha_x (by omega)) (Gs 1 O (zkB O tg3 (fun w1 hw1 => ((hw1.cells hc_x (fun h => h)) 3 _ O)) (Gs 2 O (zkD (fun wz7 hz7 => ?_))))))
     obtain ⟨hE, hvs, hl, hL1, hc_x⟩ := Tr5 hz7 hE hvs hl hL1 hc_x
     refine Gs 1 O (ziA O (fun p3 => ?_) (fun p3 => ?_))
     . refine Gs 12 O (ziX tr66 O O ⟨_, rfl, ⟨_, _, rfl⟩, hE⟩)
     ·
      refine Ga 8 O (by omega) ?_
      have hgood2 : ∀ v ∈ l.take (i + 1), v.low <= v.high /\ -1048576 <= v.low /\ v.high <= 1048576 := fun v hv => by
       rw [zg he_x, List.mem_append, List.mem_singleton] at hv
       rcases hv with hv | rfl
       . exact hgood v hv
       . omega
      refine ziL (i + 1) (zkg O) (⟨by omega, hgood2, hL1⟩) (by first | omega | (dsimp only; omega))
  ·
   obtain rfl : i = l.length := by omega
   rw [zmd] at hgood
   refine Gs 17 O (G.loop (σ := Nat × Int) (fun ⟨j, n⟩ => [(6, .slice al l.length nl), (8, .int .i64 n), (9, .int .i64 j)]) (fun ⟨j, n⟩ => fun w' => j <= l.length /\ 0 <= n /\ n <= 4096 /\ Ext w2 w') (fun ⟨j, n⟩ => l.length - j) ((0, 1)) (zkg O) (⟨Nat.zero_le _, by decide, by decide, Keep.refl _ _⟩) ?_)
   rintro ⟨j, n⟩ w3 ⟨hj, hn0, hn1, hL2⟩
   show G _ _ _ _ _ [(6, .slice al l.length nl), (8, .int .i64 n), (9, .int .i64 j)] _
   obtain ⟨hE, hvs, hl, hL1⟩ := Tr4 hL2 hE hvs hl hL1
   refine Gs 9 O (ziA O (fun hlt2 => ?_) (fun hlt2 => ?_))
   ·
    obtain ⟨x, he_x, hm_x⟩ := gE_ l (j) (by omega)
    obtain ⟨b_x, o_x, c_x, ha_x, _, hc_x, hR_x⟩ := hl.at he_x
    have h1_x := RVr.one hR_x
    obtain rfl := hR_x
    have hlt_x : b_x < _ := zma _ _ (hc_x 0 _ rfl)
    have hgx := hgood x hm_x
    have hm1 : 0 <= n * (x.high - x.low + 1) := Int.mul_nonneg hn0 (by omega)
    have hm2 : n * (x.high - x.low + 1) <= 4096 * 2097153 := Int.mul_le_mul hn1 (by omega) (by omega) (by omega)
    refine Gs 5 O (Qt (by kernel_rfl) (Gs 3 O (zkz O O (fun w1 hw1 => zjj tR52 ts120 O O ha_x (by omega)) (Gs 1 O (zkB O tg3 (fun w1 hw1 => ((hw1.cells hc_x (fun h => h)) 3 _ O)) (Gs 2 O (zkz O O (fun w1 hw1 => zjj tR52 ts120 O O ha_x (by omega)) (Gs 1 O (zkB O tg3 (fun w1 hw1 => ((hw1.cells hc_x (fun h => h)) 2 _ O)) (Ga 4 O (by omega) (zkD (fun wz8 hz8 => ?_))))))))))))
    obtain ⟨hE, hvs, hl, hL1, hL2, hc_x⟩ := Tr6 hz8 hE hvs hl hL1 hL2 hc_x
    refine Gs 7 O (ziA O (fun p4 => ?_) (fun p4 => ?_))
    . refine Gs 12 O (ziX tr66 O O ⟨_, rfl, ⟨_, _, rfl⟩, hE⟩)
    . refine Ga 8 O (by omega) (ziL ((j + 1, n * (x.high - x.low + 1))) (zkg O) (⟨by omega, hm1, by omega, hL2⟩) (by first | omega | (dsimp only; omega)))
   . refine Gs 13 O (ziX tr66 O O ⟨_, rfl, ⟨_, _, rfl⟩, hE⟩)
end Go.Proofs.YtbkhagigkglgoaaGreatDoor
namespace Go.GL
theorem xp {p : Prop} [Decidable p] (h : p) : some (Value.bool true) = some (Value.bool (decide p)) := by rw [decide_eq_true h]
theorem xq {p : Prop} [Decidable p] (h : ¬ p) : some (Value.bool false) = some (Value.bool (decide p)) := by rw [decide_eq_false h]
theorem xr {q p : Prop} [Decidable q] [Decidable p] (h : q ↔ p) : some (Value.bool (decide q)) = some (Value.bool (decide p)) := by rw [decide_eq_decide.2 h]
end Go.GL
namespace Go.Proofs.YtbkhagigkglgoaaGreatDoor
open Go.GL
def zh3 (f : Fl) (s : Int) : List Int := if yH 1 f.vars s = 0 then (yy (ze 1 f.vars) s).1 else []
def qU (f : Fl) (pub : List Int) (s : Int) : Ins := ⟨zh3 f s, pub, []⟩
def obN (f : Fl) (pub : List Int) (s : Int) : Ob := if zP f (qU f pub s) = 0 then ((qk f (qU f pub s)).outs, (qk f (qU f pub s)).time) else ([], 0)
def spN (f : Fl) : Nat := ((zp 1 f.vars).getD 0).toNat
def zax (f : Fl) : List Int := (List.range (spN f)).map fun i : Nat => (i : Int)
def zg0 (f : Fl) (pub rs : List Int) : List Ob := zcO (rs.map (obN f pub))
structure ValidA (a : Ac) : Prop where
 mode : a.mode = 0 \/ a.mode = 1
 b1 : 1 <= a.budget
 b2 : a.budget <= 1048576
 s1 : 1 <= a.spent
 s2 : a.spent <= a.budget
 l1 : 1 <= a.left.length
 l2 : a.left.length <= 4096
 rng : ∀ x ∈ a.left, 0 <= x /\ x < 4096
 asc : a.left.Pairwise (· < ·)
instance (a : Ac) : Decidable (ValidA a) :=
 if h : (a.mode = 0 \/ a.mode = 1) /\ 1 <= a.budget /\ a.budget <= 1048576 /\ 1 <= a.spent /\ a.spent <= a.budget /\ 1 <= a.left.length /\ a.left.length <= 4096 /\ (∀ x ∈ a.left, 0 <= x /\ x < 4096) /\ a.left.Pairwise (· < ·) then
  isTrue ⟨h.1, h.2.1, h.2.2.1, h.2.2.2.1, h.2.2.2.2.1, h.2.2.2.2.2.1, h.2.2.2.2.2.2.1, h.2.2.2.2.2.2.2.1, h.2.2.2.2.2.2.2.2⟩
 else isFalse fun g => h ⟨g.1, g.2, g.3, g.4, g.5, g.6, g.7, g.8, g.9⟩
def zcq (f : Fl) : Int := if zZ f ≠ 0 then zZ f else if ze 3 f.vars ≠ [] then 14 else 0
def zc6 (f : Fl) (pub : List Int) : Int := if zcq f ≠ 0 then zcq f else (xT 2 f.vars pub).2
def xU (f : Fl) (l : List Int) : Prop := ∀ r ∈ l, 0 <= r /\ r < (spN f : Int)
instance (f : Fl) (l : List Int) : Decidable (xU f l) := by unfold xU; infer_instance
abbrev Qu := Int × List Int
def qPC (f : Fl) (a : Ac) (pub : List Int) : Int := if zc6 f pub ≠ 0 then zc6 f pub else if xU f a.left then 0 else 2
def zbq (ps : List Fl) (i : Int) : Option Fl := if i < 0 then none else ps[i.toNat]?
def yU (a : Ac) (ps : List Fl) (q : Qu) : Int := if ¬ ValidA a then 1 else match zbq ps q.1 with
 | none => 3
 | some f => qPC f a q.2
def yi (a : Ac) (f : Fl) (q : Qu) : Int := if a.mode = 1 then (zg0 f q.2 a.left).length else if q ∈ a.asked then 1 else (zg0 f q.2 (zax f)).length
def yK (f : Fl) (pub : List Int) (o : Ob) (l : List Int) : List Int := l.filter fun s => decide (obN f pub s = o)
def zeQ (a : Ac) (f : Fl) (q : Qu) (n : Int) (o : Ob) : Ac := ⟨a.mode, a.budget, a.spent * n, yK f q.2 o a.left, if q ∈ a.asked then a.asked else a.asked ++ [q]⟩
structure Res where
 ac : Ac
 answer : Int
 charge : Int
 ob : Ob
 code : Int
def ac0 : Ac := ⟨0, 0, 0, [], []⟩
def zh4 (c : Int) : Res := ⟨ac0, 0, 0, ([], 0), c⟩
def zh5 (l : List Ob) (o : Ob) : Int := if o ∈ l then (l.findIdx (fun x => decide (x = o)) : Nat) else -1
def zhK (a : Ac) (f : Fl) (q : Qu) (s : Int) : Res := ⟨zeQ a f q (yi a f q) (obN f q.2 s), zh5 (zg0 f q.2 (zax f)) (obN f q.2 s), yi a f q, obN f q.2 s, 0⟩
def zc7 (a : Ac) (ps : List Fl) (q : Qu) (s : Int) : Res :=
 if yU a ps q ≠ 0 then zh4 (yU a ps q) else if s ∉ a.left then zh4 11 else match zbq ps q.1 with
 | none => zh4 0
 | some f => if a.budget.tdiv a.spent < yi a f q then zh4 18 else zhK a f q s
theorem jW {a : Ac} {ps : List Fl} {q : Qu} (h : yU a ps q = 0) : ValidA a /\ ∃ f, zbq ps q.1 = some f /\ zcq f = 0 /\ (xT 2 f.vars q.2).2 = 0 /\ xU f a.left := by
 unfold yU at h
 split at h
 . cases h
 ·
  rename_i h1
  have hv := Decidable.not_not.1 h1
  cases hg : zbq ps q.1 with
  | none => rw [hg] at h; cases h
  | some f =>
   rw [hg] at h
   unfold qPC zc6 at h
   simp only at h
   by_cases h2 : zcq f = 0
   ·
    simp only [h2, ne_eq, not_true_eq_false, if_false] at h
    by_cases h3 : (xT 2 f.vars q.2).2 = 0
    ·
     simp only [h3, not_true_eq_false, if_false] at h
     by_cases h4 : xU f a.left
     . exact ⟨hv, f, rfl, h2, h3, h4⟩
     . rw [if_neg h4] at h; cases h
    . rw [if_pos h3] at h; exact absurd h h3
   ·
    rw [if_pos h2] at h
    rw [if_pos h2] at h; exact absurd h h2
theorem zg1 {f : Fl} {pub rs : List Int} {s : Int} (h : s ∈ rs) : obN f pub s ∈ zg0 f pub rs := mem_distO.2 (List.mem_map.2 ⟨s, h, rfl⟩)
theorem mem_allR {f : Fl} {s : Int} : s ∈ zax f ↔ 0 <= s /\ s < (spN f : Int) := by
 unfold zax
 rw [List.mem_map]
 constructor
 ·
  rintro ⟨i, hi, rfl⟩
  rw [List.mem_range] at hi
  omega
 ·
  intro h
  exact ⟨s.toNat, List.mem_range.2 (by omega), by omega⟩
def Agree (ps : List Fl) (a : Ac) : Prop := ∀ q ∈ a.asked, ∀ f, zbq ps q.1 = some f -> ∀ s ∈ a.left, ∀ t ∈ a.left, obN f q.2 s = obN f q.2 t
theorem Agree.ans {ps : List Fl} {a : Ac} {f : Fl} {q : Qu} {n : Int} {o : Ob} (h : Agree ps a) (hf : zbq ps q.1 = some f) : Agree ps (zeQ a f q n o) := by
 intro r hr g hg s hs t ht
 have hs := List.mem_filter.1 hs
 have ht := List.mem_filter.1 ht
 have hr : r ∈ (if q ∈ a.asked then a.asked else a.asked ++ [q]) := hr
 have hc : r ∈ a.asked \/ r = q := by
  split at hr
  . exact .inl hr
  ·
   rcases List.mem_append.1 hr with hr | hr
   . exact .inl hr
   . exact .inr (List.mem_singleton.1 hr)
 rcases hc with hc | rfl
 . exact h r hc g hg s hs.1 t ht.1
 ·
  rw [hf] at hg
  cases hg
  rw [of_decide_eq_true hs.2, of_decide_eq_true ht.2]
theorem zc8 {a : Ac} {f : Fl} {q : Qu} (hv : ValidA a) (hi : xU f a.left) : 1 <= yi a f q := by
 have h1 := hv.l1
 obtain ⟨s, hs⟩ : ∃ s, s ∈ a.left := ⟨a.left[0], List.getElem_mem _⟩
 have h2 : ∀ rs, s ∈ rs -> (1 : Int) <= (zg0 f q.2 rs).length := fun rs hr => by have := List.length_pos_of_mem (zg1 (f := f) (pub := q.2) hr); omega
 unfold yi
 split
 . exact h2 _ hs
 ·
  split
  . omega
  . exact h2 _ (mem_allR.2 (hi s hs))
theorem zal {b s p : Int} (hb : 0 <= b) (hs : 1 <= s) (h : p <= b.tdiv s) : s * p <= b := by
 rw [Int.tdiv_eq_ediv_of_nonneg hb] at h
 have := (Int.le_ediv_iff_mul_le (by omega)).1 h
 rw [Int.mul_comm]
 exact this
theorem ValidA.ans {a : Ac} {f : Fl} {q : Qu} {s : Int} (hv : ValidA a) (hs : s ∈ a.left) (hi : xU f a.left) (hp : yi a f q <= a.budget.tdiv a.spent) : ValidA (zeQ a f q (yi a f q) (obN f q.2 s)) := by
 have h1 := zal (by have := hv.b1; omega) hv.s1 hp
 have h2 := zc8 (q := q) hv hi
 have hsub : ∀ x ∈ yK f q.2 (obN f q.2 s) a.left, x ∈ a.left := fun x hx => (List.mem_filter.1 hx).1
 have h3 : s ∈ yK f q.2 (obN f q.2 s) a.left := List.mem_filter.2 ⟨hs, decide_eq_true rfl⟩
 have h4 := List.length_filter_le (fun s' => decide (obN f q.2 s' = obN f q.2 s)) a.left
 have h5 : 1 * 1 <= a.spent * yi a f q := Int.mul_le_mul hv.s1 h2 (by omega) (by have := hv.s1; omega)
 exact ⟨hv.mode, hv.b1, hv.b2, by have : (zeQ a f q (yi a f q) (obN f q.2 s)).spent = a.spent * yi a f q := rfl; omega, h1, List.length_pos_of_mem h3, zme h4 hv.l2, fun x hx => hv.rng x (hsub x hx), hv.asc.filter _⟩
structure Nn where
 q : Qu
 next : List Int
theorem RFl.wide {D D' : Nat -> Prop} {w : World} {f : Fl} {v1 v2 v3 : Value} (h : RFl D w f v1 v2 v3) (hD : ∀ q, D q -> D' q) : RFl D' w f v1 v2 v3 := ⟨h.vars.wide yN hD, h.hatches.wide yO hD, h.body.wide zd hD⟩
theorem zhL {f : Fl} {pub : List Int} {s : Int} {ov : Value} {t : Int} {B : Nat -> Prop} {w : World} (h1 : zP f (qU f pub s) ≠ 0 -> ov = .slice none 0 0 /\ t = 0) (h2 : zP f (qU f pub s) = 0 -> t = (qk f (qU f pub s)).time /\ SlR 1 zF B w ov (qk f (qU f pub s)).outs) : t = (obN f pub s).2 /\ SlR 1 zF B w ov (obN f pub s).1 := by
 unfold obN
 by_cases h : zP f (qU f pub s) = 0
 . rw [if_pos h]; exact h2 h
 ·
  rw [if_neg h]
  obtain ⟨rfl, rfl⟩ := h1 h
  exact ⟨rfl, SlR.nil⟩
theorem xR (f : Fl) (vd : Valid f) (pub : List Int) (s : Int) (v1 v2 v3 pv : Value) (D D' : Nat -> Prop) (W : World) (hf : RFl D W f v1 v2 v3) (hp : SlR 1 zF D' W pv pub) :
  Calls Tryz.prog 49 #[.agg #[v1, v2, v3], pv, .int .i64 s] W (Ret fun r w' => (∃ ov, r = .agg #[ov, .int .i64 (obN f pub s).2] /\ SlR 1 zF (fun b => W.heap.size <= b) w' ov (obN f pub s).1) /\ Ext W w') := by
 have hl := vd.lens
 obtain ⟨ap, cp, rfl⟩ := hp.form
 refine zkI Tryz.func49 O Tryz.ntmps49 O (zkS ?_)
 refine Vs 2 O ?_
 refine V.box 3 O O (fun b3 => ?_)
 refine V.alloc 6 tz60 O O (fun b6 => ?_)
 refine Vs 7 O ?_
 refine zl9 Tryz.call86 O (fun w hI => zc0 f.vars 1 s v1 D w (by decide) vd.good (by omega) (Tr1 hI.k0 hf.vars)) ?_
 rintro r1 w1 w2 hI1 hk12 ⟨u, rfl, hu0, hu1⟩ hlow
 have hsec : SlR 1 zF (fun b => w1.heap.size <= b) w2 u (zh3 f s) := by
  unfold zh3
  by_cases h : yH 1 f.vars s = 0
  . rw [if_pos h]; exact hu1 h
  . rw [if_neg h, hu0 h]; exact SlR.nil
 obtain ⟨au, cu, rfl⟩ := hsec.form
 have e1 : W.heap.size <= w1.heap.size := hI1.k0.size
 refine Vs 8 O ?_
 refine V.dat 900 0 O O O (hsec) (fun q hq _ hs => by have := hlow q hs; omega) ?_
 refine Vs 4 O ?_
 refine zln [Value.slice none 0 0, Value.slice none 0 0, Value.slice none 0 0] [(0, 1), (1, 1), (2, 1)] [(0, _), (1, _)] O O (fun _ => by kernel_rfl) ?_
 refine zl9 Tryz.call87 O (fun w hI => zdQ f (qU f pub s) v1 v2 v3 _ _ _ (fun b => D b \/ D' b \/ (w1.heap.size <= b /\ b < w2.heap.size)) w (RFl.wide (Tr1 hI.k1 hf) (fun q hq => .inl hq)) ((hI.at 900 O).1.wide zc (fun q hq => .inr (.inr hq))) ((hp.ext zc hI.k1).wide zc (fun q hq => .inr (.inl hq))) SlR.nil vd.size vd.bulk) ?_
 rintro r2 w3 w4 hI3 hk34 ⟨ov, t, rfl, h1, h2⟩ hlow2
 obtain ⟨rfl, hov⟩ := zhL h1 h2
 obtain ⟨ao, co, rfl⟩ := hov.form
 have e3 : W.heap.size <= w3.heap.size := hI3.k1.size
 refine Vs 3 O ?_
 refine V.alloc 9 tz60 O O (fun b9 => ?_)
 refine Vs 11 O ?_
 refine V.dat 901 0 O O O (hov) (fun q hq _ hs => by have := hlow2 q hs; omega) ?_
 refine zj3 Tryz.results49 tg60 ts60 O O O (fun w hI => ⟨_, rfl, ⟨_, rfl, (hI.at 901 O).1.wide zc (fun q hq => by omega)⟩, hI.k2⟩)
end Go.Proofs.YtbkhagigkglgoaaGreatDoor
