/-
  Contracts and the mathematics that the proof needs. Nothing here is a claim.
-/
import Derived.Test.YtbkhagigkglgoaaGreatDoorKV3
namespace Go.Proofs.YtbkhagigkglgoaaGreatDoor
open Go.GL
def RNew (cs : List Value) (e : TypeId) : World -> Value -> World -> Prop := fun a v a' => ∃ b, v = .pointer (some ⟨b, 0, none⟩) /\ New a cs e b a'
theorem RNew.ext {cs : List Value} {e : TypeId} {a a' : World} {v : Value} (h : RNew cs e a v a') : Ext a a' := by obtain ⟨_, _, h⟩ := h; obtain ⟨_, _, _, h⟩ := h; exact h
theorem RNew.apart {cs cs' : List Value} {e e' : TypeId} {v u : Value} {b c : Nat} (h : zhE (RNew cs e) v (RNew cs' e') u) (hb : v = .pointer (some ⟨b, 0, none⟩)) (hc : u = .pointer (some ⟨c, 0, none⟩)) : b ≠ c := by
 rcases h with ⟨a, a', d, d', ⟨b1, e1, g1, s1, _, _⟩, ⟨c1, e2, g2, s2, _, _⟩, hk⟩ | ⟨a, a', d, d', ⟨b1, e1, g1, s1, _, _⟩, ⟨c1, e2, g2, s2, _, _⟩, hk⟩
 . rw [hb] at e1; rw [hc] at e2; cases e1; cases e2; have := hk.size; omega
 . rw [hb] at e1; rw [hc] at e2; cases e1; cases e2; have := hk.size; omega
theorem zgw (vs : List Vr) (nh : Nat) (l : List St) : ∀ (v : Value) (D : Nat -> Prop) (w : World) (top : Bool), zc vs nh l top = 0 -> SlR 10 RSt D w v l -> zw l <= 1000000 -> Calls Tryz.prog 161 #[v] w (Ret fun r w' => r = .agg #[.int .i64 (cap 1099511627776 (bds l).1), .int .i64 (cap 1099511627776 (bds l).2.1), .int .i64 (cap 1099511627776 (bds l).2.2)] /\ Ext w w') := by
 induction l using zkS with
 | h l ih =>
 intro v D w top hok hl hb
 have hmx := hl.max
 obtain ⟨av, nv, rfl⟩ := hl.form
 have hl0 := hl
 have hE := Keep.refl (fun _ => False) w
 refine zlq Tryz.func161 O Tryz.ntmps161 O (Gs 2 O (zkf O O (M.alloc (cs := _) tz223 O) ?_))
 rintro _ w_r ⟨r, rfl, hg_r, hs_r, hB_r, hk_r⟩
 have hge_r : _ <= r := zn6 hE.size (Nat.le_of_eq hg_r.symm)
 obtain ⟨hE, hl⟩ := Tr2 hk_r hE hl
 refine Gs 4 O (zkf O O (M.alloc (cs := _) tz223 O) ?_)
 rintro _ w_o ⟨o, rfl, hg_o, hs_o, hB_o, hk_o⟩
 have hn_r_o : r ≠ o := by have := hB_r.lt; omega
 have hge_o : _ <= o := zn6 hE.size (Nat.le_of_eq hg_o.symm)
 obtain ⟨hE, hl, hB_r⟩ := Tr3 hk_o hE hl hB_r
 refine Gs 11 O ?_
 have hk0 := Keep.refl (fun q => q = o) w_o
 refine G.loop (σ := Nat) (fun i => [(2, .pointer (some ⟨r, 0, none⟩)), (3, .pointer (some ⟨o, 0, none⟩)), (9, .slice av l.length nv), (10, .int .i64 l.length), (11, .int .i64 i)]) (fun i => fun w' => i <= l.length /\ Blk w' o [.int .i64 (cap 1099511627776 (bds (l.take i)).1), .int .i64 (cap 1099511627776 (bds (l.take i)).2.1), .int .i64 (cap 1099511627776 (bds (l.take i)).2.2)] 223 /\ Blk w' r [.int .i64 0, .int .i64 0, .int .i64 0] 223 /\ Ext w w') (fun i => l.length - i) (0) (zkZ O) (⟨znf _, hB_o, hB_r, hE⟩) ?_
 rintro i w1 ⟨hi, hB_o, hB_r, hE⟩
 have hl := hl0.ext zf hE
 refine Gs 6 O (zjn O (fun hlt => ?_) (fun hlt => ?_))
 ·
  obtain ⟨x, he_x, hm_x⟩ := gE_ l (i) (by omega)
  obtain ⟨b_x, o_x, c_x, ha_x, _, hc_x, hR_x⟩ := hl.at he_x
  have h1_x := RSt.one hR_x
  obtain ⟨v1_x, v2_x, v3_x, v4_x, rfl, hk_x, ht_x, hs_x, hb_x⟩ := hR_x.get
  obtain ⟨a1_x, n1_x, rfl⟩ := hk_x.form
  obtain ⟨a2_x, n2_x, rfl⟩ := ht_x.form
  obtain ⟨a3_x, n3_x, rfl⟩ := hs_x.form
  obtain ⟨a4_x, n4_x, rfl⟩ := hb_x.form
  have hlt_x : b_x < _ := zn2 _ _ (hc_x 0 _ rfl)
  have htk := zdQ he_x
  have htk1 : (bds (l.take (i + 1))).1 = (bds (l.take i)).1 + (yq x).1 := by rw [htk]
  have htk2 : (bds (l.take (i + 1))).2.1 = (bds (l.take i)).2.1 + (yq x).2.1 := by rw [htk]
  have htk3 : (bds (l.take (i + 1))).2.2 = (bds (l.take i)).2.2 + (yq x).2.2 := by rw [htk]
  have hpre : 0 <= (bds (l.take i)).1 /\ 0 <= (bds (l.take i)).2.1 /\ 0 <= (bds (l.take i)).2.2 := zf7 hok i
  obtain ⟨last, hx0⟩ := xz l top hok x hm_x
  obtain ⟨hS, _, _, hs1, hs2⟩ := qd hx0
  have hcost := hS.cost
  have n1 := yO x.thn _ hs1
  have n2 := yO x.els _ hs2
  have y := kH hx0
  have hbx := qt hm_x
  rw [St.bulk_eq] at hbx
  refine Gs 6 O (zlg O O (zk6 tR54 ts134 O O ha_x (by omega)) (zlm O tg134 ts134 hc_x O (zkf O O (M.alloc (cs := _) tz134 O) ?_)))
  rintro _ wa1 ⟨c, rfl, hg_c, hs_c, hB_c, hk_c⟩
  refine zki O (zkj ts134 O O O O h1_x hB_c (by simp)) ?_
  rintro w_c ⟨_, hB_c, hkk_c⟩
  replace hk_c := hk_c.trans hkk_c (fun q hq h => by have h : q = c := h; omega)
  have hn_r_c : r ≠ c := by have := hB_r.lt; omega
  have hn_o_c : o ≠ c := by have := hB_o.lt; omega
  have hge_c : _ <= c := zn6 hE.size (Nat.le_of_eq hg_c.symm)
  obtain ⟨hE, hl, hB_r, hB_o, hc_x, hk_x, ht_x⟩ := Tr7 hk_c hE hl hB_r hB_o hc_x hk_x ht_x
  obtain ⟨hs_x, hb_x⟩ := Tr2 hk_c hs_x hb_x
  refine Gs 5 O (zlk O tg3 (hB_c.cells 1 _ O) (zlg O O (R.build (v := .agg #[.int .i64 1, .int .i64 0, .int .i64 x.cost]) [(0, _), (2, _)] O (fun _ => by kernel_rfl)) (zkf O O (M.alloc (cs := _) tz223 O) ?_)))
  rintro _ wa2 ⟨p, rfl, hg_p, hs_p, hB_p, hk_p⟩
  refine zki O (zkj ts223 O O O O (by simp [Value.oneCell']) hB_p (by simp)) ?_
  rintro w_p ⟨_, hB_p, hkk_p⟩
  replace hk_p := hk_p.trans hkk_p (fun q hq h => by have h : q = p := h; omega)
  have hn_r_p : r ≠ p := by have := hB_r.lt; omega
  have hn_o_p : o ≠ p := by have := hB_o.lt; omega
  have hn_c_p : c ≠ p := by have := hB_c.lt; omega
  have hge_p : _ <= p := zn6 hE.size (Nat.le_of_eq hg_p.symm)
  obtain ⟨hE, hl, hB_r, hB_o, hk_x, ht_x, hs_x⟩ := Tr7 hk_p hE hl hB_r hB_o hk_x ht_x hs_x
  obtain ⟨hb_x, hB_c⟩ := Tr2 hk_p hb_x hB_c
  refine Gs 3 O ?_
  have hlr : r < w_p.heap.size := hB_r.lt
  have hlo : o < w_p.heap.size := hB_o.lt
  have hlc : c < w_p.heap.size := hB_c.lt
  have hlp : p < w_p.heap.size := hB_p.lt
  refine Dw (fun q => Ext w_p q) [] (fun wd0 hD _ => (Ds [0] (by kernel_rfl) O (WD.take 1 O (by kernel_rfl) O O O hD (fun w1 hw1 => R.load tg54 O ((hw1.blk hB_c (fun h => h)).cells 7 _ O)) (Ds [3] (by kernel_rfl) O (WD.take 4 O (by kernel_rfl) O O O hD (fun w1 hw1 => R.load tg54 O ((hw1.blk hB_c (fun h => h)).cells 8 _ O)) ?_)))))
  refine zmA (fuel := 2) (L3 := #[true, true, true, true, true, true, true, true, false, false]) [⟨2, _, 20, fun a v a' => v = .agg #[.int .i64 (cap 1099511627776 (bds x.thn).1), .int .i64 (cap 1099511627776 (bds x.thn).2.1), .int .i64 (cap 1099511627776 (bds x.thn).2.2)] /\ Ext a a'⟩, ⟨5, _, 23, fun a v a' => v = .agg #[.int .i64 (cap 1099511627776 (bds x.els).1), .int .i64 (cap 1099511627776 (bds x.els).2.1), .int .i64 (cap 1099511627776 (bds x.els).2.2)] /\ Ext a a'⟩, ⟨6, _, 7, RNew [.int .i64 0, .int .i64 0, .int .i64 0] 223⟩, ⟨7, _, 8, RNew [.int .i64 0, .int .i64 0, .int .i64 0] 223⟩]
   (List.forall_mem_cons.2 ⟨⟨rfl, rfl, rfl, rfl, rfl⟩, List.forall_mem_cons.2 ⟨⟨rfl, rfl, rfl, rfl, rfl⟩, List.forall_mem_cons.2 ⟨⟨rfl, rfl, rfl, rfl, rfl⟩, List.forall_mem_cons.2 ⟨⟨rfl, rfl, rfl, rfl, rfl⟩, by simp⟩⟩⟩⟩)
   (show List.Nodup [20, 23, 7, 8] by decide) (show List.Nodup [2, 5, 6, 7] by decide) (by kernel_rfl) (fun w' h => hD.ext h) ?_ ?_ ?_
  . refine List.forall_mem_cons.2 ⟨fun a v a' h => h.2, List.forall_mem_cons.2 ⟨fun a v a' h => h.2, List.forall_mem_cons.2 ⟨fun a v a' h => h.ext, List.forall_mem_cons.2 ⟨fun a v a' h => h.ext, by simp⟩⟩⟩⟩
  . refine List.forall_mem_cons.2 ⟨fun w' h => Does.call (F.call (vs := [_]) Tryz.call161 O) ((ih x hm_x).1 _ _ _ _ hs1 (ht_x.ext zf (hD.ext h)) (by omega)), List.forall_mem_cons.2 ⟨fun w' h => Does.call (F.call (vs := [_]) Tryz.call161 O) ((ih x hm_x).2 _ _ _ _ hs2 (hs_x.ext zf (hD.ext h)) (by omega)), List.forall_mem_cons.2 ⟨fun w' h => zkY (M.alloc (cs := _) tz223 O), List.forall_mem_cons.2 ⟨fun w' h => zkY (M.alloc (cs := _) tz223 O), by simp⟩⟩⟩⟩
  intro val wm hEm hmade hap
  obtain ⟨_, _, _, ⟨e2, _⟩, _⟩ := hmade _ (zn4 ..)
  obtain ⟨_, _, _, ⟨e5, _⟩, _⟩ := hmade _ (zn3 _ (zn4 ..))
  obtain ⟨a6, a6', h61, ⟨t, e6, hg6, hs6, hB6, hk6⟩, h62⟩ := hmade _ (zn3 _ (zn3 _ (zn4 ..)))
  obtain ⟨a7, a7', h71, ⟨u, e7, hg7, hs7, hB7, hk7⟩, h72⟩ := hmade _ (zn3 _ (zn3 _ (zn3 _ (zn4 ..))))
  have hn_t_u : t ≠ u := RNew.apart (hap _ (zn3 _ (zn3 _ (zn4 ..))) _ (zn3 _ (zn3 _ (zn3 _ (zn4 ..)))) (show (7 : Nat) ≠ 8 by decide)) e6 e7
  have hgt : w_p.heap.size <= t := by have := hD.size; have := h61.size; omega
  have hgu : w_p.heap.size <= u := by have := hD.size; have := h71.size; omega
  have hB_t := h62.blk hB6 (fun h => h)
  have hB_u := h72.blk hB7 (fun h => h)
  replace hD := hD.ext hEm
  have hn_r_t : r ≠ t := by omega
  have hn_r_u : r ≠ u := by omega
  have hn_o_t : o ≠ t := by omega
  have hn_o_u : o ≠ u := by omega
  have hn_c_t : c ≠ t := by omega
  have hn_c_u : c ≠ u := by omega
  have hn_p_t : p ≠ t := by omega
  have hn_p_u : p ≠ u := by omega
  show WD _ _ _ _ _ _ _ _ ((20, val 20) :: (23, val 23) :: (7, val 7) :: (8, val 8) :: _) _
  rw [e2, e5, e6, e7]
  refine zkh 8 O (by kernel_rfl) O O (zkj ts223 O O O O (by simp [Value.oneCell']) hB_t (by simp)) ?_
  rintro ws1 ⟨_, hB_t, hs1⟩
  replace hB_u := hs1.blk hB_u (fun h => hn_t_u h.symm)
  replace hD := hD.trans hs1 (fun q hq h => by have h : q = t := h; omega)
  refine ⟨fun _ => hD, ?_⟩
  refine zkh 9 O (by kernel_rfl) O O (zkj ts223 O O O O (by simp [Value.oneCell']) hB_u (by simp)) ?_
  rintro ws2 ⟨_, hB_u, hs2⟩
  replace hB_t := hs2.blk hB_t hn_t_u
  replace hD := hD.trans hs2 (fun q hq h => by have h : q = u := h; omega)
  refine ⟨fun _ => hD, ?_⟩
  refine G.done (by kernel_rfl) ?_ _
  obtain ⟨hE, hl, hB_r, hB_o, hk_x, ht_x, hs_x⟩ := Tr7 hD hE hl hB_r hB_o hk_x ht_x hs_x
  obtain ⟨hb_x, hB_c, hB_p⟩ := Tr3 hD hb_x hB_c hB_p
  have hge_t : w.heap.size <= t := by have := hE.size; omega
  have hge_u : w.heap.size <= u := by have := hE.size; omega
  have r1 := zJ n1.1 (show (0:Int) <= 1099511627776 by decide)
  have r2 := zJ n1.2.1 (show (0:Int) <= 1099511627776 by decide)
  have r3 := zJ n1.2.2 (show (0:Int) <= 1099511627776 by decide)
  have r4 := zJ n2.1 (show (0:Int) <= 1099511627776 by decide)
  have r5 := zJ n2.2.1 (show (0:Int) <= 1099511627776 by decide)
  have r6 := zJ n2.2.2 (show (0:Int) <= 1099511627776 by decide)
  have t1 := zJ hpre.1 (show (0:Int) <= 1099511627776 by decide)
  have t2 := zJ hpre.2.1 (show (0:Int) <= 1099511627776 by decide)
  have t3 := zJ hpre.2.2 (show (0:Int) <= 1099511627776 by decide)
  refine Gs 5 O (zlk O tg128 (hB_c.cells 0 _ O) (Gs 9 O (zjn O (fun a1 => ?_) (fun a1 => ?_))))
  ·
   obtain ⟨g1, g2⟩ := hS.free (by omega) (by omega)
   have eB : yq x = (1, 1, x.cost) := by rw [yb, g1, g2, zna (by omega)]; simp [bds, a1]
   have f1 : cap 1099511627776 1 = cap 1099511627776 (yq x).1 := by rw [eB]
   have f2 : cap 1099511627776 1 = cap 1099511627776 (yq x).2.1 := by rw [eB]
   have f3 : cap 1099511627776 x.cost = cap 1099511627776 (yq x).2.2 := by rw [eB]
   have z1 : (0 : Int) <= 1 := by decide
   have z2 : (0 : Int) <= 1 := by decide
   have z3 := hcost.1
   refine Gs 2 O (zki O (M.store ts3 O O O O hB_p (by simp)) ?_)
   rintro ws3 ⟨_, hB_p, hs3⟩
   replace hE := hE.trans hs3 (fun q hq h => by have h : q = p := h; omega)
   replace hB_r := hs3.blk hB_r hn_r_p
   replace hB_o := hs3.blk hB_o hn_o_p
   replace hB_c := hs3.blk hB_c hn_c_p
   replace hB_t := hs3.blk hB_t (fun h => hn_p_t h.symm)
   replace hB_u := hs3.blk hB_u (fun h => hn_p_u h.symm)
   refine Gs 6 O (zlk O tg3 (hB_o.cells 0 _ O) (Gs 1 O (zlk O tg3 (hB_p.cells 0 _ O) (Ga 3 O (by omega) (zki O (M.store ts3 O O O O hB_o (by simp)) ?_)))))
   rintro ws4 ⟨_, hB_o, hs4⟩
   replace hE := hE.trans hs4 (fun q hq h => by have h : q = o := h; omega)
   replace hB_r := hs4.blk hB_r hn_r_o
   replace hB_c := hs4.blk hB_c (fun h => hn_o_c h.symm)
   replace hB_p := hs4.blk hB_p (fun h => hn_o_p h.symm)
   replace hB_t := hs4.blk hB_t (fun h => hn_o_t h.symm)
   replace hB_u := hs4.blk hB_u (fun h => hn_o_u h.symm)
   refine Gs 5 O (zlk O tg3 (hB_o.cells 1 _ O) (Gs 1 O (zlk O tg3 (hB_p.cells 1 _ O) (Ga 3 O (by omega) (zki O (M.store ts3 O O O O hB_o (by simp)) ?_)))))
   rintro ws5 ⟨_, hB_o, hs5⟩
   replace hE := hE.trans hs5 (fun q hq h => by have h : q = o := h; omega)
   replace hB_r := hs5.blk hB_r hn_r_o
   replace hB_c := hs5.blk hB_c (fun h => hn_o_c h.symm)
   replace hB_p := hs5.blk hB_p (fun h => hn_o_p h.symm)
   replace hB_t := hs5.blk hB_t (fun h => hn_o_t h.symm)
   replace hB_u := hs5.blk hB_u (fun h => hn_o_u h.symm)
   refine Gs 4 O (zlk O tg3 (hB_o.cells 2 _ O) (Gs 1 O (zlk O tg3 (hB_p.cells 2 _ O) (Ga 3 O (by omega) (zki O (M.store ts3 O O O O hB_o (by simp)) ?_)))))
   rintro ws6 ⟨_, hB_o, hs6⟩
   replace hE := hE.trans hs6 (fun q hq h => by have h : q = o := h; omega)
   replace hB_r := hs6.blk hB_r hn_r_o
   replace hB_c := hs6.blk hB_c (fun h => hn_o_c h.symm)
   replace hB_p := hs6.blk hB_p (fun h => hn_o_p h.symm)
   replace hB_t := hs6.blk hB_t (fun h => hn_o_t h.symm)
   replace hB_u := hs6.blk hB_u (fun h => hn_o_u h.symm)
   refine Ga 7 O (by omega) (zjy (i + 1) (zkZ O) (⟨by omega, by rw [htk1, htk2, htk3, <- ye hpre.1 y.1 z1 f1, <- ye hpre.2.1 y.2.1 z2 f2, <- ye hpre.2.2 y.2.2 z3 f3]; exact hB_o, hB_r, hE⟩) (by first | omega | (dsimp only; omega)))
  ·
   refine Gs 6 O (zjn O (fun a3 => ?_) (fun a3 => ?_))
   ·
    have n4 : ¬ x.act = 4 := by omega
    have f1 : cap 1099511627776 (1 + max (cap 1099511627776 (bds x.thn).1) (cap 1099511627776 (bds x.els).1)) = cap 1099511627776 (yq x).1 := by rw [yb, zna n4]; exact zbw (by omega) n1.1 n2.1
    have f2 : cap 1099511627776 (max (cap 1099511627776 (bds x.thn).2.1) (cap 1099511627776 (bds x.els).2.1)) = cap 1099511627776 (yq x).2.1 := by rw [yb, zna n4]; simp only [a1, if_false]; exact zdR n1.2.1 n2.2.1
    have f3 : cap 1099511627776 (x.cost + max (cap 1099511627776 (bds x.thn).2.2) (cap 1099511627776 (bds x.els).2.2)) = cap 1099511627776 (yq x).2.2 := by rw [yb, zna n4]; exact zbw hcost.1 n1.2.2 n2.2.2
    have z1 : 0 <= 1 + max (cap 1099511627776 (bds x.thn).1) (cap 1099511627776 (bds x.els).1) := by omega
    have z2 : 0 <= max (cap 1099511627776 (bds x.thn).2.1) (cap 1099511627776 (bds x.els).2.1) := by omega
    have z3 : 0 <= x.cost + max (cap 1099511627776 (bds x.thn).2.2) (cap 1099511627776 (bds x.els).2.2) := by omega
    refine Gs 3 O (zlk O tg3 (hB_p.cells 0 _ O) (Gs 1 O (zlk O tg3 (hB_t.cells 0 _ O) (Gs 1 O (zlk O tg3 (hB_u.cells 0 _ O) (Ga 3 O (by omega) (zki O (M.store ts3 O O O O hB_p (by simp)) ?_)))))))
    rintro ws7 ⟨_, hB_p, hs7⟩
    replace hE := hE.trans hs7 (fun q hq h => by have h : q = p := h; omega)
    replace hB_r := hs7.blk hB_r hn_r_p
    replace hB_o := hs7.blk hB_o hn_o_p
    replace hB_c := hs7.blk hB_c hn_c_p
    replace hB_t := hs7.blk hB_t (fun h => hn_p_t h.symm)
    replace hB_u := hs7.blk hB_u (fun h => hn_p_u h.symm)
    refine Gs 5 O (zlk O tg3 (hB_t.cells 1 _ O) (Gs 1 O (zlk O tg3 (hB_u.cells 1 _ O) (Gs 2 O (zki O (M.store ts3 O O O O hB_p (by simp)) ?_)))))
    rintro ws8 ⟨_, hB_p, hs8⟩
    replace hE := hE.trans hs8 (fun q hq h => by have h : q = p := h; omega)
    replace hB_r := hs8.blk hB_r hn_r_p
    replace hB_o := hs8.blk hB_o hn_o_p
    replace hB_c := hs8.blk hB_c hn_c_p
    replace hB_t := hs8.blk hB_t (fun h => hn_p_t h.symm)
    replace hB_u := hs8.blk hB_u (fun h => hn_p_u h.symm)
    refine Gs 4 O (zlk O tg3 (hB_p.cells 2 _ O) (Gs 1 O (zlk O tg3 (hB_t.cells 2 _ O) (Gs 1 O (zlk O tg3 (hB_u.cells 2 _ O) (Ga 3 O (by omega) (zki O (M.store ts3 O O O O hB_p (by simp)) ?_)))))))
    rintro ws9 ⟨_, hB_p, hs9⟩
    replace hE := hE.trans hs9 (fun q hq h => by have h : q = p := h; omega)
    replace hB_r := hs9.blk hB_r hn_r_p
    replace hB_o := hs9.blk hB_o hn_o_p
    replace hB_c := hs9.blk hB_c hn_c_p
    replace hB_t := hs9.blk hB_t (fun h => hn_p_t h.symm)
    replace hB_u := hs9.blk hB_u (fun h => hn_p_u h.symm)
    refine Gs 6 O (zlk O tg3 (hB_o.cells 0 _ O) (Gs 1 O (zlk O tg3 (hB_p.cells 0 _ O) (Ga 3 O (by omega) (zki O (M.store ts3 O O O O hB_o (by simp)) ?_)))))
    rintro ws10 ⟨_, hB_o, hs10⟩
    replace hE := hE.trans hs10 (fun q hq h => by have h : q = o := h; omega)
    replace hB_r := hs10.blk hB_r hn_r_o
    replace hB_c := hs10.blk hB_c (fun h => hn_o_c h.symm)
    replace hB_p := hs10.blk hB_p (fun h => hn_o_p h.symm)
    replace hB_t := hs10.blk hB_t (fun h => hn_o_t h.symm)
    replace hB_u := hs10.blk hB_u (fun h => hn_o_u h.symm)
    refine Gs 5 O (zlk O tg3 (hB_o.cells 1 _ O) (Gs 1 O (zlk O tg3 (hB_p.cells 1 _ O) (Ga 3 O (by omega) (zki O (M.store ts3 O O O O hB_o (by simp)) ?_)))))
    rintro ws11 ⟨_, hB_o, hs11⟩
    replace hE := hE.trans hs11 (fun q hq h => by have h : q = o := h; omega)
    replace hB_r := hs11.blk hB_r hn_r_o
    replace hB_c := hs11.blk hB_c (fun h => hn_o_c h.symm)
    replace hB_p := hs11.blk hB_p (fun h => hn_o_p h.symm)
    replace hB_t := hs11.blk hB_t (fun h => hn_o_t h.symm)
    replace hB_u := hs11.blk hB_u (fun h => hn_o_u h.symm)
    refine Gs 4 O (zlk O tg3 (hB_o.cells 2 _ O) (Gs 1 O (zlk O tg3 (hB_p.cells 2 _ O) (Ga 3 O (by omega) (zki O (M.store ts3 O O O O hB_o (by simp)) ?_)))))
    rintro ws12 ⟨_, hB_o, hs12⟩
    replace hE := hE.trans hs12 (fun q hq h => by have h : q = o := h; omega)
    replace hB_r := hs12.blk hB_r hn_r_o
    replace hB_c := hs12.blk hB_c (fun h => hn_o_c h.symm)
    replace hB_p := hs12.blk hB_p (fun h => hn_o_p h.symm)
    replace hB_t := hs12.blk hB_t (fun h => hn_o_t h.symm)
    replace hB_u := hs12.blk hB_u (fun h => hn_o_u h.symm)
    refine Ga 7 O (by omega) (zjy (i + 1) (zkZ O) (⟨by omega, by rw [htk1, htk2, htk3, <- ye hpre.1 y.1 z1 f1, <- ye hpre.2.1 y.2.1 z2 f2, <- ye hpre.2.2 y.2.2 z3 f3]; exact hB_o, hB_r, hE⟩) (by first | omega | (dsimp only; omega)))
   ·
    refine Gs 6 O (zjn O (fun a4 => ?_) (fun a4 => ?_))
    ·
     have hr := hS.rep a4
     have p1 := xQ x.n (1 + cap 1099511627776 (bds x.thn).1) 4096 1099511627777 hr.1 hr.2.1 (by omega) (by omega)
     have p2 := xQ x.n (cap 1099511627776 (bds x.thn).2.1) 4096 1099511627776 hr.1 hr.2.1 (by omega) (by omega)
     have p3 := xQ x.n (x.cost + cap 1099511627776 (bds x.thn).2.2) 4096 1099578736640 hr.1 hr.2.1 (by omega) (by omega)
     have q1 := znu hr.1 (show 0 <= 1 + (bds x.thn).1 by omega)
     have f1 : cap 1099511627776 (1 + x.n * (1 + cap 1099511627776 (bds x.thn).1)) = cap 1099511627776 (yq x).1 := by rw [yb, znb a4]; exact zf6 p1.1 q1 (zaz hr.1 (by omega) n1.1 (by omega))
     have f2 : cap 1099511627776 (x.n * cap 1099511627776 (bds x.thn).2.1) = cap 1099511627776 (yq x).2.1 := by rw [yb, znb a4]; exact zdS hr.1 n1.2.1 (by omega)
     have f3 : cap 1099511627776 (x.n * (x.cost + cap 1099511627776 (bds x.thn).2.2)) = cap 1099511627776 (yq x).2.2 := by rw [yb, znb a4]; exact zaz hr.1 hcost.1 n1.2.2 (by omega)
     have z1 : 0 <= 1 + x.n * (1 + cap 1099511627776 (bds x.thn).1) := by omega
     have z2 := p2.1
     have z3 := p3.1
     refine Gs 3 O (zlk O tg3 (hB_p.cells 0 _ O) (Gs 1 O (zlk O tg3 (hB_c.cells 3 _ O) (Gs 1 O (zlk O tg3 (hB_t.cells 0 _ O) (Ga 4 O (by omega) (zki O (M.store ts3 O O O O hB_p (by simp)) ?_)))))))
     rintro ws13 ⟨_, hB_p, hs13⟩
     replace hE := hE.trans hs13 (fun q hq h => by have h : q = p := h; omega)
     replace hB_r := hs13.blk hB_r hn_r_p
     replace hB_o := hs13.blk hB_o hn_o_p
     replace hB_c := hs13.blk hB_c hn_c_p
     replace hB_t := hs13.blk hB_t (fun h => hn_p_t h.symm)
     replace hB_u := hs13.blk hB_u (fun h => hn_p_u h.symm)
     refine Gs 5 O (zlk O tg3 (hB_c.cells 3 _ O) (Gs 1 O (zlk O tg3 (hB_t.cells 1 _ O) (Ga 2 O (by omega) (zki O (M.store ts3 O O O O hB_p (by simp)) ?_)))))
     rintro ws14 ⟨_, hB_p, hs14⟩
     replace hE := hE.trans hs14 (fun q hq h => by have h : q = p := h; omega)
     replace hB_r := hs14.blk hB_r hn_r_p
     replace hB_o := hs14.blk hB_o hn_o_p
     replace hB_c := hs14.blk hB_c hn_c_p
     replace hB_t := hs14.blk hB_t (fun h => hn_p_t h.symm)
     replace hB_u := hs14.blk hB_u (fun h => hn_p_u h.symm)
     refine Gs 4 O (zlk O tg3 (hB_c.cells 3 _ O) (Gs 1 O (zlk O tg3 (hB_c.cells 1 _ O) (Gs 1 O (zlk O tg3 (hB_t.cells 2 _ O) (Ga 3 O (by omega) (zki O (M.store ts3 O O O O hB_p (by simp)) ?_)))))))
     rintro ws15 ⟨_, hB_p, hs15⟩
     replace hE := hE.trans hs15 (fun q hq h => by have h : q = p := h; omega)
     replace hB_r := hs15.blk hB_r hn_r_p
     replace hB_o := hs15.blk hB_o hn_o_p
     replace hB_c := hs15.blk hB_c hn_c_p
     replace hB_t := hs15.blk hB_t (fun h => hn_p_t h.symm)
     replace hB_u := hs15.blk hB_u (fun h => hn_p_u h.symm)
     refine Gs 6 O (zlk O tg3 (hB_o.cells 0 _ O) (Gs 1 O (zlk O tg3 (hB_p.cells 0 _ O) (Ga 3 O (by omega) (zki O (M.store ts3 O O O O hB_o (by simp)) ?_)))))
     rintro ws16 ⟨_, hB_o, hs16⟩
     replace hE := hE.trans hs16 (fun q hq h => by have h : q = o := h; omega)
     replace hB_r := hs16.blk hB_r hn_r_o
     replace hB_c := hs16.blk hB_c (fun h => hn_o_c h.symm)
     replace hB_p := hs16.blk hB_p (fun h => hn_o_p h.symm)
     replace hB_t := hs16.blk hB_t (fun h => hn_o_t h.symm)
     replace hB_u := hs16.blk hB_u (fun h => hn_o_u h.symm)
     refine Gs 5 O (zlk O tg3 (hB_o.cells 1 _ O) (Gs 1 O (zlk O tg3 (hB_p.cells 1 _ O) (Ga 3 O (by omega) (zki O (M.store ts3 O O O O hB_o (by simp)) ?_)))))
     rintro ws17 ⟨_, hB_o, hs17⟩
     replace hE := hE.trans hs17 (fun q hq h => by have h : q = o := h; omega)
     replace hB_r := hs17.blk hB_r hn_r_o
     replace hB_c := hs17.blk hB_c (fun h => hn_o_c h.symm)
     replace hB_p := hs17.blk hB_p (fun h => hn_o_p h.symm)
     replace hB_t := hs17.blk hB_t (fun h => hn_o_t h.symm)
     replace hB_u := hs17.blk hB_u (fun h => hn_o_u h.symm)
     refine Gs 4 O (zlk O tg3 (hB_o.cells 2 _ O) (Gs 1 O (zlk O tg3 (hB_p.cells 2 _ O) (Ga 3 O (by omega) (zki O (M.store ts3 O O O O hB_o (by simp)) ?_)))))
     rintro ws18 ⟨_, hB_o, hs18⟩
     replace hE := hE.trans hs18 (fun q hq h => by have h : q = o := h; omega)
     replace hB_r := hs18.blk hB_r hn_r_o
     replace hB_c := hs18.blk hB_c (fun h => hn_o_c h.symm)
     replace hB_p := hs18.blk hB_p (fun h => hn_o_p h.symm)
     replace hB_t := hs18.blk hB_t (fun h => hn_o_t h.symm)
     replace hB_u := hs18.blk hB_u (fun h => hn_o_u h.symm)
     refine Ga 7 O (by omega) (zjy (i + 1) (zkZ O) (⟨by omega, by rw [htk1, htk2, htk3, <- ye hpre.1 y.1 z1 f1, <- ye hpre.2.1 y.2.1 z2 f2, <- ye hpre.2.2 y.2.2 z3 f3]; exact hB_o, hB_r, hE⟩) (by first | omega | (dsimp only; omega)))
    ·
     obtain ⟨g1, g2⟩ := hS.free a3 a4
     have eB : yq x = (1, 0, x.cost) := by rw [yb, g1, g2, zna a4]; simp [bds, a1]
     have f1 : cap 1099511627776 1 = cap 1099511627776 (yq x).1 := by rw [eB]
     have f2 : cap 1099511627776 0 = cap 1099511627776 (yq x).2.1 := by rw [eB]
     have f3 : cap 1099511627776 x.cost = cap 1099511627776 (yq x).2.2 := by rw [eB]
     have z1 : (0 : Int) <= 1 := by decide
     have z2 : (0 : Int) <= 0 := by decide
     have z3 := hcost.1
     refine Gs 6 O (zlk O tg3 (hB_o.cells 0 _ O) (Gs 1 O (zlk O tg3 (hB_p.cells 0 _ O) (Ga 3 O (by omega) (zki O (M.store ts3 O O O O hB_o (by simp)) ?_)))))
     rintro ws19 ⟨_, hB_o, hs19⟩
     replace hE := hE.trans hs19 (fun q hq h => by have h : q = o := h; omega)
     replace hB_r := hs19.blk hB_r hn_r_o
     replace hB_c := hs19.blk hB_c (fun h => hn_o_c h.symm)
     replace hB_p := hs19.blk hB_p (fun h => hn_o_p h.symm)
     replace hB_t := hs19.blk hB_t (fun h => hn_o_t h.symm)
     replace hB_u := hs19.blk hB_u (fun h => hn_o_u h.symm)
     refine Gs 5 O (zlk O tg3 (hB_o.cells 1 _ O) (Gs 1 O (zlk O tg3 (hB_p.cells 1 _ O) (Ga 3 O (by omega) (zki O (M.store ts3 O O O O hB_o (by simp)) ?_)))))
     rintro ws20 ⟨_, hB_o, hs20⟩
     replace hE := hE.trans hs20 (fun q hq h => by have h : q = o := h; omega)
     replace hB_r := hs20.blk hB_r hn_r_o
     replace hB_c := hs20.blk hB_c (fun h => hn_o_c h.symm)
     replace hB_p := hs20.blk hB_p (fun h => hn_o_p h.symm)
     replace hB_t := hs20.blk hB_t (fun h => hn_o_t h.symm)
     replace hB_u := hs20.blk hB_u (fun h => hn_o_u h.symm)
     refine Gs 4 O (zlk O tg3 (hB_o.cells 2 _ O) (Gs 1 O (zlk O tg3 (hB_p.cells 2 _ O) (Ga 3 O (by omega) (zki O (M.store ts3 O O O O hB_o (by simp)) ?_)))))
     rintro ws21 ⟨_, hB_o, hs21⟩
     replace hE := hE.trans hs21 (fun q hq h => by have h : q = o := h; omega)
     replace hB_r := hs21.blk hB_r hn_r_o
     replace hB_c := hs21.blk hB_c (fun h => hn_o_c h.symm)
     replace hB_p := hs21.blk hB_p (fun h => hn_o_p h.symm)
     replace hB_t := hs21.blk hB_t (fun h => hn_o_t h.symm)
     replace hB_u := hs21.blk hB_u (fun h => hn_o_u h.symm)
     refine Ga 7 O (by omega) (zjy (i + 1) (zkZ O) (⟨by omega, by rw [htk1, htk2, htk3, <- ye hpre.1 y.1 z1 f1, <- ye hpre.2.1 y.2.1 z2 f2, <- ye hpre.2.2 y.2.2 z3 f3]; exact hB_o, hB_r, hE⟩) (by first | omega | (dsimp only; omega)))
 ·
  have hii : i = l.length := by omega
  subst hii
  rw [zn5] at hB_o
  refine Gs 7 O (zlm O Tryz.isAgg223 ts223 hB_o.cells O (zki O (zkj ts223 O O O O (by simp [Value.oneCell']) hB_r (by simp)) ?_))
  rintro wf ⟨_, hBf, hkf⟩
  refine Gs 3 O (zjP Tryz.results161 O (zr Tryz.isAgg223 ts223 O hBf.cells) ?_)
  exact ⟨_, rfl, rfl, hE.trans hkf (fun q hq h => by have h : q = r := h; omega)⟩
def xk (f : Fl) : Bool := decide (f.vars.length <= 64) && decide (f.hatches.length <= 8) && f.hatches.all (fun h => decide (h.term.depth <= 12)) && (decide (zO f.body <= 12) && !yf f.body)
theorem zde (f : Fl) (v1 v2 v3 : Value) (D : Nat -> Prop) (w : World) (hf : RFl D w f v1 v2 v3) (hsz : zn f.body + zG f.hatches <= 1024) : Calls Tryz.prog 76 #[.agg #[v1, v2, v3]] w (Ret fun r w' => r = .bool (xk f) /\ Ext w w') := by
 obtain ⟨hvs, hhs, hbd⟩ := hf
 have hm1 := hvs.max
 have hm2 := hhs.max
 obtain ⟨a1, n1, rfl⟩ := hvs.form
 obtain ⟨a2, n2, rfl⟩ := hhs.form
 have hE := Keep.refl (fun _ => False) w
 refine zlq Tryz.func76 O Tryz.ntmps76 O (Gs 2 O (zkf O O (M.box O O) ?_))
 rintro _ w_b ⟨b, rfl, hg_b, hs_b, hB_b, hk_b⟩
 have hge_b : _ <= b := zn6 hE.size (Nat.le_of_eq hg_b.symm)
 obtain ⟨hE, hvs, hhs, hbd⟩ := Tr4 hk_b hE hvs hhs hbd
 refine Gs 7 O (zlk O tg52 (hB_b.cells 0 _ O) (Gs 3 O (zlb 9 O (fun g1 => ?_) (fun g1 => ?_))))
 . refine Gs 15 O (zjH tr76 O ⟨_, rfl, by unfold xk; rw [znd (show ¬ f.vars.length <= 64 by omega)]; rfl, hE⟩)
 ·
  refine Gs 1 O (zlk O tg53 (hB_b.cells 1 _ O) (Gs 5 O (zjn O (fun g2 => ?_) (fun g2 => ?_))))
  . refine Gs 7 O (zjH tr76 O ⟨_, rfl, by unfold xk; rw [znd (show ¬ f.hatches.length <= 8 by omega), Bool.and_false]; rfl, hE⟩)
  ·
   have hpre : xk f = (f.hatches.all (fun h => decide (h.term.depth <= 12)) && (decide (zO f.body <= 12) && !yf f.body)) := by
    unfold xk; rw [znc (show f.vars.length <= 64 by omega), znc (show f.hatches.length <= 8 by omega)]; rfl
   refine Gs 5 O (zlk O tg54 (hB_b.cells 2 _ O) (G.call O Tryz.call103 (zd5 f.body _ D _ hbd (by omega)) ?_))
   rintro _ wz1 ⟨rfl, hz1⟩
   obtain ⟨hE, hvs, hhs, hbd, hB_b⟩ := Tr5 hz1 hE hvs hhs hbd hB_b
   refine Gs 10 O (G.loop (σ := Nat) (fun i => [(1, .pointer (some ⟨b, 0, none⟩)), (3, .int .i64 ((zn f.body : Int) + zG (f.hatches.take i))), (4, .int .i64 i)]) (fun i => fun w' => i <= f.hatches.length /\ (f.hatches.take i).all (fun h => decide (h.term.depth <= 12)) = true /\ Ext wz1 w') (fun i => f.hatches.length - i) (0) (zkZ O) (⟨znf _, rfl, Keep.refl _ _⟩) ?_)
   rintro i w1 ⟨hi, hall, hL1⟩
   obtain ⟨hE, hvs, hhs, hbd, hB_b⟩ := Tr5 hL1 hE hvs hhs hbd hB_b
   refine Gs 5 O (zlk O tg53 (hB_b.cells 1 _ O) (Gs 4 O (zjn O (fun hlt => ?_) (fun hlt => ?_))))
   ·
    obtain ⟨x, he_x, hm_x⟩ := gE_ f.hatches (i) (by omega)
    obtain ⟨b_x, o_x, c_x, ha_x, _, hc_x, hR_x⟩ := hhs.at he_x
    have h1_x := RHt.one hR_x
    obtain ⟨v1_x, rfl, hk_x⟩ := hR_x
    obtain ⟨a1_x, n1_x, rfl⟩ := hk_x.form
    have hlt_x : b_x < _ := zn2 _ _ (hc_x 0 _ rfl)
    have hsp := xa he_x
    have htk := ja he_x
    have hdn : x.term.depth <= x.term.nodes := by have := kB [x.term]; simp [yx, zP] at this; exact this
    refine Gs 8 O (zlk O tg53 (hB_b.cells 1 _ O) (Gs 1 O (zlg O O (zk6 tR53 ts137 O O ha_x (by omega)) (Gs 1 O (zlm O tg132 ts132 (hc_x.sub 3 3) O (G.call O Tryz.call104 (qx x.term _ D _ (RTm.put hk_x) (by omega)) ?_))))))
    rintro _ wz2 ⟨rfl, hz2⟩
    obtain ⟨hE, hvs, hhs, hbd, hB_b, hL1, hc_x⟩ := Tr7 hz2 hE hvs hhs hbd hB_b hL1 hc_x
    replace hk_x := Tr1 hz2 hk_x
    refine Ga 7 O (by omega) (zlk O tg53 (hB_b.cells 1 _ O) (Gs 1 O (zlg O O (zk6 tR53 ts137 O O ha_x (by omega)) (Gs 1 O (zlm O tg132 ts132 (hc_x.sub 3 3) O (G.call O Tryz.call105 (qy x.term _ D _ (RTm.put hk_x) (by omega)) ?_))))))
    rintro _ wz3 ⟨rfl, hz3⟩
    obtain ⟨hE, hvs, hhs, hbd, hB_b, hL1, hc_x⟩ := Tr7 hz3 hE hvs hhs hbd hB_b hL1 hc_x
    replace hk_x := Tr1 hz3 hk_x
    refine Gs 3 O (zjn O (fun dd => ?_) (fun dd => ?_))
    ·
     have hfa : f.hatches.all (fun h => decide (h.term.depth <= 12)) = false := by
      rw [Bool.eq_false_iff]; intro h; have := List.all_eq_true.1 h x hm_x; simp at this; omega
     refine Gs 11 O (zjH tr76 O ⟨_, rfl, by rw [hpre, hfa, Bool.false_and], hE⟩)
    . refine Ga 8 O (by omega) (zjy (i + 1) (Sub.cons O (Sub.cons (xD O (by rw [htk]; omega)) (zkZ O))) (⟨by omega, by rw [zg he_x, List.all_append, hall]; simp; omega, hL1⟩) (by first | omega | (dsimp only; omega)))
   ·
    have hii : i = f.hatches.length := by omega
    subst hii
    rw [zn5] at hall
    rw [hall, Bool.true_and] at hpre
    have hsd := qw f.body
    refine Gs 10 O (zlb 44 O (fun gn => ?_) (fun gn => ?_))
    ·
     refine Gs 1 O (zlk O tg54 (hB_b.cells 2 _ O) (G.call O Tryz.call106 (zam f.body _ D _ hbd (by omega)) ?_))
     rintro _ wz4 ⟨rfl, hz4⟩
     obtain ⟨hE, hvs, hhs, hbd, hB_b, hL1⟩ := Tr6 hz4 hE hvs hhs hbd hB_b hL1
     refine Gs 3 O (zlb 50 O (fun gd => ?_) (fun gd => ?_))
     ·
      refine Gs 1 O (zlk O tg54 (hB_b.cells 2 _ O) (G.call O Tryz.call107 (zan f.body _ D _ hbd (by omega)) ?_))
      rintro _ wz5 ⟨rfl, hz5⟩
      obtain ⟨hE, hvs, hhs, hbd, hB_b, hL1⟩ := Tr6 hz5 hE hvs hhs hbd hB_b hL1
      refine zlg O O (zkJ O (by first | exact za | rfl)) (Gs 5 O (zjH tr76 O ⟨_, rfl, by rw [hpre, znc (show zO f.body <= 12 by omega)]; rfl, hE⟩))
     . refine Gs 9 O (zjH tr76 O ⟨_, rfl, by rw [hpre, znd (show ¬ zO f.body <= 12 by omega)]; rfl, hE⟩)
    . exact absurd (by rw [zn5]; omega) gn
def zbx (f : Fl) : Bool := decide (4096 < (bds f.body).1) || decide (8 < (bds f.body).2.1) || decide (67108864 < (bds f.body).2.2)
def zS (f : Fl) : Int :=
 if xk f = false then 4
 else if zv f.vars ≠ 0 then zv f.vars
 else if zA f.vars f.hatches ≠ 0 then zA f.vars f.hatches
 else if zc f.vars f.hatches.length f.body true ≠ 0 then zc f.vars f.hatches.length f.body true
 else if zbx f then 4 else 0
theorem zaB {vs : List Vr} (h : zv vs = 0) : ∀ v ∈ vs, yg (v.low, v.high) := by
 have h1 : ∀ j, j < vs.length -> jC vs j = 0 := by
  unfold zv at h
  split at h
  . rename_i h2; exact absurd h h2
  ·
   rename_i h2
   intro j hj
   exact xd vs.length 0 (by simpa using h2) j (znf _) (by omega)
 exact fun v hv => (xK h1 v hv).1
theorem jd (f : Fl) (v1 v2 v3 : Value) (D : Nat -> Prop) (w : World) (hf : RFl D w f v1 v2 v3) (hsz : zn f.body + zG f.hatches <= 1024) (hbk : zw f.body <= 1000000) : Calls Tryz.prog 42 #[.agg #[v1, v2, v3]] w (Ret fun r w' => r = .int .i64 (zS f) /\ Ext w w') := by
 obtain ⟨hvs, hhs, hbd⟩ := hf
 have hm1 := hvs.max
 have hm2 := hhs.max
 obtain ⟨a1, n1, rfl⟩ := hvs.form
 obtain ⟨a2, n2, rfl⟩ := hhs.form
 have hE := Keep.refl (fun _ => False) w
 refine zlq Tryz.func42 O Tryz.ntmps42 O (Gs 2 O (zkf O O (M.box O O) ?_))
 rintro _ w_b ⟨b, rfl, hg_b, hs_b, hB_b, hk_b⟩
 have hge_b : _ <= b := zn6 hE.size (Nat.le_of_eq hg_b.symm)
 obtain ⟨hE, hvs, hhs, hbd⟩ := Tr4 hk_b hE hvs hhs hbd
 refine Gs 6 O (zlm O tg56 ts56 hB_b.cells O (G.call O Tryz.call76 (zde f _ _ _ D _ ⟨hvs, hhs, hbd⟩ hsz) ?_))
 rintro _ wz1 ⟨rfl, hz1⟩
 obtain ⟨hE, hvs, hhs, hbd, hB_b⟩ := Tr5 hz1 hE hvs hhs hbd hB_b
 refine zlg O O (zkJ O (by first | exact za | rfl)) (Gs 2 O (G.bool O (fun s0 => ?_) (fun s0 => ?_)))
 ·
  have s0' : xk f = false := by simpa using s0
  refine Gs 7 O (zjH tr42 O ⟨_, rfl, by rw [zS, znb s0'], hE⟩)
 ·
  have s0' : ¬ xk f = false := by simpa using s0
  refine Gs 5 O (zlk O tg52 (hB_b.cells 0 _ O) (G.call O Tryz.call77 (zax f.vars _ D _ hvs) ?_))
  rintro _ wz2 ⟨rfl, hz2⟩
  obtain ⟨hE, hvs, hhs, hbd, hB_b⟩ := Tr5 hz2 hE hvs hhs hbd hB_b
  refine Gs 10 O (zjn O (fun vz => ?_) (fun vz => ?_))
  . refine Gs 8 O (zjH tr42 O ⟨_, rfl, by rw [zS, zna s0', znb vz], hE⟩)
  ·
   have hg := zaB (show zv f.vars = 0 by omega)
   refine Gs 9 O ?_
   have hch : zS f = if zA f.vars f.hatches ≠ 0 then zA f.vars f.hatches else if zc f.vars f.hatches.length f.body true ≠ 0 then zc f.vars f.hatches.length f.body true else if zbx f then 4 else 0 := by rw [zS, zna s0', zna vz]
   refine G.loop (σ := Nat) (fun i => [(1, .pointer (some ⟨b, 0, none⟩)), (4, .int .i64 i)]) (fun i => fun w' => i <= f.hatches.length /\ (∀ j, j < i -> qc f.vars f.hatches j = 0) /\ Ext wz2 w') (fun i => f.hatches.length - i) (0) (zkZ O) (⟨znf _, fun j h => absurd h (Nat.not_lt_zero _), Keep.refl _ _⟩) ?_
   rintro i w1 ⟨hi, hall, hL1⟩
   obtain ⟨hE, hvs, hhs, hbd, hB_b⟩ := Tr5 hL1 hE hvs hhs hbd hB_b
   refine Gs 5 O (zlk O tg53 (hB_b.cells 1 _ O) (Gs 4 O (zjn O (fun hlt => ?_) (fun hlt => ?_))))
   ·
    obtain ⟨x, he_x, hm_x⟩ := gE_ f.hatches (i) (by omega)
    obtain ⟨b_x, o_x, c_x, ha_x, _, hc_x, hR_x⟩ := hhs.at he_x
    have h1_x := RHt.one hR_x
    obtain ⟨v1_x, rfl, hk_x⟩ := hR_x
    obtain ⟨a1_x, n1_x, rfl⟩ := hk_x.form
    have hlt_x : b_x < _ := zn2 _ _ (hc_x 0 _ rfl)
    have hat := kg (vs := f.vars) he_x
    have hbad : ∀ c : Int, zN f.vars (f.hatches.take i) x = c -> c ≠ 0 -> zS f = c := by
     intro c h1 h2
     have h3 : qc f.vars f.hatches i ≠ 0 := by rw [hat, h1]; exact h2
     have h4 : zA f.vars f.hatches = c := by rw [zA, qb hall (by omega) h3, hat, h1]
     rw [hch, h4, znb h2]
    have hnext : zN f.vars (f.hatches.take i) x = 0 -> ∀ j, j < i + 1 -> qc f.vars f.hatches j = 0 := by
     intro h j hj
     by_cases e : j = i
     . subst e; rw [hat, h]
     . exact hall j (by omega)
    have hxn := xa he_x
    refine Gs 7 O (zlk O tg53 (hB_b.cells 1 _ O) (Gs 1 O (zlg O O (zk6 tR53 ts137 O O ha_x (by omega)) (zlm O tg137 ts137 hc_x O (zkf O O (M.alloc (cs := _) tz137 O) ?_)))))
    rintro _ wa3 ⟨c, rfl, hg_c, hs_c, hB_c, hk_c⟩
    refine zki O (zkj ts137 O O O O h1_x hB_c (by simp)) ?_
    rintro w_c ⟨_, hB_c, hkk_c⟩
    replace hk_c := hk_c.trans hkk_c (fun q hq h => by have h : q = c := h; omega)
    have hn_b_c : b ≠ c := by have := hB_b.lt; omega
    have hge_c : _ <= c := zn6 hE.size (Nat.le_of_eq hg_c.symm)
    obtain ⟨hE, hvs, hhs, hbd, hB_b, hL1, hc_x⟩ := Tr7 hk_c hE hvs hhs hbd hB_b hL1 hc_x
    replace hk_x := Tr1 hk_c hk_x
    refine Gs 6 O (zlk O tg9 (hB_c.cells 0 _ O) (G.call O Tryz.call78 (kC x.name _) ?_))
    rintro _ wz4 ⟨rfl, hz4⟩
    obtain ⟨hE, hvs, hhs, hbd, hB_b, hL1, hc_x⟩ := Tr7 hz4 hE hvs hhs hbd hB_b hL1 hc_x
    obtain ⟨hk_x, hB_c⟩ := Tr2 hz4 hk_x hB_c
    refine zlg O O (zkJ O (by first | exact za | rfl)) (Gs 2 O (G.bool O (fun n0 => ?_) (fun n0 => ?_)))
    ·
     have n0' : zaq x.name = false := by simpa using n0
     refine Gs 12 O (zjH tr42 O ⟨_, rfl, by rw [hbad 7 (by rw [zN, znb n0']) (by decide)], hE⟩)
    ·
     have n0' : ¬ zaq x.name = false := by simpa using n0
     refine Gs 9 O (G.loop (σ := Nat) (fun j => [(1, .pointer (some ⟨b, 0, none⟩)), (4, .int .i64 i), (5, .pointer (some ⟨c, 0, none⟩)), (6, .int .i64 j)]) (fun j => fun w' => j <= i /\ (f.hatches.take j).any (fun u => zW u.name x.name) = false /\ Ext wz4 w') (fun j => i - j) (0) (zkZ O) (⟨znf _, rfl, Keep.refl _ _⟩) ?_)
     rintro j w2 ⟨hj, hno, hL2⟩
     obtain ⟨hE, hvs, hhs, hbd, hB_b, hL1, hc_x⟩ := Tr7 hL2 hE hvs hhs hbd hB_b hL1 hc_x
     obtain ⟨hk_x, hB_c⟩ := Tr2 hL2 hk_x hB_c
     refine Gs 8 O (zjn O (fun hjl => ?_) (fun hjl => ?_))
     ·
      obtain ⟨y, he_y, hm_y⟩ := gE_ f.hatches (j) (by omega)
      obtain ⟨b_y, o_y, c_y, ha_y, _, hc_y, hR_y⟩ := hhs.at he_y
      have h1_y := RHt.one hR_y
      obtain ⟨v1_y, rfl, hk_y⟩ := hR_y
      obtain ⟨a1_y, n1_y, rfl⟩ := hk_y.form
      have hlt_y : b_y < _ := zn2 _ _ (hc_y 0 _ rfl)
      refine Gs 5 O (Qt (by kernel_rfl) (Gs 1 O (zll O tg53 (fun w1 hw1 => ((hw1.blk hB_b (fun h => h)).cells 1 _ O)) (Gs 1 O (zlj O O (fun w1 hw1 => zk6 tR53 ts137 O O ha_y (by omega)) (Gs 1 O (zll O tg9 (fun w1 hw1 => ((hw1.cells hc_y (fun h => h)) 0 _ O)) (Gs 1 O (zll O tg9 (fun w1 hw1 => ((hw1.blk hB_c (fun h => h)).cells 0 _ O)) (Gs 1 O (zln (fun wz5 hz5 => ?_))))))))))))
      obtain ⟨hE, hvs, hhs, hbd, hB_b, hL1, hc_x⟩ := Tr7 hz5 hE hvs hhs hbd hB_b hL1 hc_x
      obtain ⟨hk_x, hB_c, hL2, hc_y, hk_y⟩ := Tr5 hz5 hk_x hB_c hL2 hc_y hk_y
      refine Gs 1 O (zjn O (fun hd => ?_) (fun hd => ?_))
      ·
       have hany : (f.hatches.take i).any (fun u => zW u.name x.name) = true := by
        rw [List.any_eq_true]
        refine ⟨y, zn1 (i := j) (by rw [znv, znb (by omega)]; exact he_y), ?_⟩
        unfold zW; exact znc hd
       refine Gs 16 O (zjH tr42 O ⟨_, rfl, by rw [hbad 8 (by rw [zN, zna n0', znb hany]) (by decide)], hE⟩)
      . refine Ga 8 O (by omega) (zjy (j + 1) (zkZ O) (⟨by omega, by rw [zg he_y, List.any_append, hno]; simp [zW, hd], hL2⟩) (by first | omega | (dsimp only; omega)))
     ·
      have hji : j = i := by omega
      subst hji
      have n1 : ¬ (f.hatches.take j).any (fun u => zW u.name x.name) = true := by rw [hno]; decide
      refine Gs 9 O (zlk O tg3 (hB_c.cells 1 _ O) (Gs 1 O (zlk O tg3 (hB_c.cells 2 _ O) (G.call O Tryz.call79 (jB x.low x.high _) ?_))))
      rintro _ wz6 ⟨rfl, hz6⟩
      obtain ⟨hE, hvs, hhs, hbd, hB_b, hL1, hc_x⟩ := Tr7 hz6 hE hvs hhs hbd hB_b hL1 hc_x
      obtain ⟨hk_x, hB_c, hL2⟩ := Tr3 hz6 hk_x hB_c hL2
      refine zlg O O (zkJ O (by first | exact za | rfl)) (Gs 2 O (G.bool O (fun n3 => ?_) (fun n3 => ?_)))
      ·
       have n3' : zaV x.low x.high = false := by simpa using n3
       refine Gs 12 O (zjH tr42 O ⟨_, rfl, by rw [hbad 3 (by rw [zN, zna n0', zna n1, znb n3']) (by decide)], hE⟩)
      ·
       have n3' : ¬ zaV x.low x.high = false := by simpa using n3
       have hcc : zN f.vars (f.hatches.take j) x = zI f.vars true x.term := by rw [zN, zna n0', zna n1, zna n3']
       refine Gs 5 O (zlk O tg52 (hB_b.cells 0 _ O) (Gs 1 O (zlm O tg132 ts132 (hB_c.cells.sub 3 3) O (G.call O Tryz.call80 (xx f.vars true _ _ D D _ x.term hg hvs (RTm.put hk_x) (by omega)) ?_))))
       rintro _ wz7 ⟨rfl, hz7⟩
       obtain ⟨hE, hvs, hhs, hbd, hB_b, hL1, hc_x⟩ := Tr7 hz7 hE hvs hhs hbd hB_b hL1 hc_x
       obtain ⟨hk_x, hB_c, hL2⟩ := Tr3 hz7 hk_x hB_c hL2
       refine Gs 9 O (zjn O (fun tz => ?_) (fun tz => ?_))
       . refine Gs 12 O (zjH tr42 O ⟨_, rfl, by rw [hbad _ hcc tz], hE⟩)
       . refine Ga 8 O (by omega) (zjy (j + 1) (zkZ O) (⟨by omega, hnext (by rw [hcc]; omega), hL1⟩) (by first | omega | (dsimp only; omega)))
   ·
    have hii : i = f.hatches.length := by omega
    subst hii
    have hh0 : zA f.vars f.hatches = 0 := xn hall
    rw [hh0, zna (by decide)] at hch
    refine Gs 7 O (zlm O tg56 ts56 hB_b.cells O (Gs 1 O (zlk O tg54 (hB_b.cells 2 _ O) (G.call O tc81 (zbv f _ _ _ hg D f.body _ D _ true ⟨hvs, hhs, hbd⟩ hbd hbk) ?_))))
    rintro _ wz8 ⟨rfl, hz8⟩
    obtain ⟨hE, hvs, hhs, hbd, hB_b, hL1⟩ := Tr6 hz8 hE hvs hhs hbd hB_b hL1
    refine Gs 10 O (zjn O (fun sz => ?_) (fun sz => ?_))
    . refine Gs 8 O (zjH tr42 O ⟨_, rfl, by rw [hch, znb sz], hE⟩)
    ·
     have hs0 : zc f.vars f.hatches.length f.body true = 0 := by omega
     rw [zna sz] at hch
     refine Gs 5 O (zlk O tg54 (hB_b.cells 2 _ O) (G.call O Tryz.call82 (kI f.vars f.hatches.length f.body _ D _ true hs0 hbd hbk) ?_))
     rintro _ wz9 ⟨rfl, hz9⟩
     obtain ⟨hE, hvs, hhs, hbd, hB_b, hL1⟩ := Tr6 hz9 hE hvs hhs hbd hB_b hL1
     have c1 : (4096 < cap 4097 (bds f.body).1) ↔ 4096 < (bds f.body).1 := by unfold cap; omega
     have c2 : (8 < cap 9 (bds f.body).2.1) ↔ 8 < (bds f.body).2.1 := by unfold cap; omega
     have c3 : (67108864 < cap 67108865 (bds f.body).2.2) ↔ 67108864 < (bds f.body).2.2 := by unfold cap; omega
     have ho : zbx f = (decide (4096 < cap 4097 (bds f.body).1) || decide (8 < cap 9 (bds f.body).2.1) || decide (67108864 < cap 67108865 (bds f.body).2.2)) := by
      unfold zbx; rw [znr.2 c1, znr.2 c2, znr.2 c3]
     refine Gs 15 O (zlb 79 O (fun b1 => ?_) (fun b1 => ?_))
     . refine Gs 17 O (zjH tr42 O ⟨_, rfl, by rw [hch, znb (by rw [ho, znc b1]; rfl)], hE⟩)
     ·
      refine Gs 4 O (zlb 83 O (fun b2 => ?_) (fun b2 => ?_))
      . refine Gs 13 O (zjH tr42 O ⟨_, rfl, by rw [hch, znb (by rw [ho, znc b2, Bool.or_true]; rfl)], hE⟩)
      ·
       refine Gs 5 O (zjn O (fun b3 => ?_) (fun b3 => ?_))
       . refine Gs 7 O (zjH tr42 O ⟨_, rfl, by rw [hch, znb (by rw [ho, znc b3, Bool.or_true])], hE⟩)
       . refine Gs 8 O (zjH tr42 O ⟨_, rfl, by rw [hch, zna (by rw [ho, znd b1, znd b2, znd b3]; decide)], hE⟩)
theorem kJ (f : Fl) (v1 v2 v3 : Value) (D : Nat -> Prop) (w : World) (hf : RFl D w f v1 v2 v3) (hsz : zn f.body + zG f.hatches <= 1024) (hbk : zw f.body <= 1000000) : Calls Tryz.prog 126 #[.agg #[v1, v2, v3]] w (Ret fun r w' => r = .int .i64 (zS f) /\ Ext w w') := by
 replace hf := hf.narrow
 generalize hD0 : (fun b => D b /\ b < w.heap.size) = E at hf
 have hDw : ∀ q, E q -> q < w.heap.size := fun q h => by rw [<- hD0] at h; exact h.2
 obtain ⟨hvs, hhs, hbd⟩ := hf
 have hm1 := hvs.max
 have hm2 := hhs.max
 obtain ⟨a1, n1, rfl⟩ := hvs.form
 obtain ⟨a2, n2, rfl⟩ := hhs.form
 have hE := Keep.refl (fun _ => False) w
 refine zlq Tryz.func126 O Tryz.ntmps126 O (Gs 2 O (zkf O O (M.box O O) ?_))
 rintro _ w_b ⟨b, rfl, hg_b, hs_b, hB_b, hk_b⟩
 have hge_b : _ <= b := zn6 hE.size (Nat.le_of_eq hg_b.symm)
 replace hE := Tr1 hk_b hE
 refine Gs 5 O (zkf O O (M.alloc (cs := _) Tryz.zeroValue219 O) ?_)
 rintro _ w_m ⟨m, rfl, hg_m, hs_m, hB_m, hk_m⟩
 have hn_b_m : b ≠ m := by have := hB_b.lt; omega
 have hge_m : _ <= m := zn6 hE.size (Nat.le_of_eq hg_m.symm)
 obtain ⟨hE, hB_b⟩ := Tr2 hk_m hE hB_b
 refine Gs 5 O (zlk O tg54 (hB_b.cells 2 _ O) ?_)
 have hvs0 := hvs
 have hhs0 := hhs
 have hbd0 := hbd
 have DM : ∀ q, E q -> q ≠ m := fun q h => by have := hDw q h; omega
 refine G.call O Tryz.call155 (zcn f.body _ E _ m 0 false 1 (hbd.ext zf hE) DM hB_m (by omega) (by omega) (by omega) (by omega)) ?_
 rintro _ w2 ⟨rfl, ⟨m2, h1, h2, hB_m⟩, hz⟩
 replace hE := hE.trans hz (fun q hq h => by have h : q = m := h; omega)
 replace hB_b := hz.blk hB_b (hn_b_m)
 refine Gs 6 O (zlk O tg53 (hB_b.cells 1 _ O) (Gs 5 O (G.loop (σ := Nat) (fun i => [(1, .pointer (some ⟨b, 0, none⟩)), (3, .pointer (some ⟨m, 0, none⟩)), (14, .slice a2 f.hatches.length n2), (15, .int .i64 f.hatches.length), (16, .int .i64 i)]) (fun i => fun w' => i <= f.hatches.length /\ (∃ m' : Int, 0 <= m' /\ m' <= zn f.body + zG (f.hatches.take i) /\ Blk w' m [.int .i64 m', .bool (xE 1 f.body || (f.hatches.take i).any (fun h => decide (12 < h.term.depth)))] 219) /\ Blk w' b [.slice a1 f.vars.length n1, .slice a2 f.hatches.length n2, v3] 56 /\ Ext w w') (fun i => f.hatches.length - i) (0) (zkZ O) (⟨znf _, ⟨m2, by omega, by simp [zG]; omega, by simpa using hB_m⟩, hB_b, hE⟩) ?_)))
 rintro i w3 ⟨hi, ⟨m', hm0, hm'1, hB_m⟩, hB_b, hE⟩
 have hhs := hhs0.ext yY hE
 refine Gs 6 O (zjn O (fun hlt => ?_) (fun hlt => ?_))
 ·
  obtain ⟨x, he_x, hm_x⟩ := gE_ f.hatches (i) (by omega)
  obtain ⟨b_x, o_x, c_x, ha_x, _, hc_x, hR_x⟩ := hhs.at he_x
  have h1_x := RHt.one hR_x
  obtain ⟨v1_x, rfl, hk_x⟩ := hR_x
  obtain ⟨a1_x, n1_x, rfl⟩ := hk_x.form
  have hlt_x : b_x < _ := zn2 _ _ (hc_x 0 _ rfl)
  have hxn := xa he_x
  have htk := ja he_x
  refine Gs 6 O (zlg O O (zk6 tR53 ts137 O O ha_x (by omega)) (zlm O tg137 ts137 hc_x O (zkf O O (M.alloc (cs := _) tz137 O) ?_)))
  rintro _ wa1 ⟨c, rfl, hg_c, hs_c, hB_c, hk_c⟩
  refine zki O (zkj ts137 O O O O h1_x hB_c (by simp)) ?_
  rintro w_c ⟨_, hB_c, hkk_c⟩
  replace hk_c := hk_c.trans hkk_c (fun q hq h => by have h : q = c := h; omega)
  have hn_b_c : b ≠ c := by have := hB_b.lt; omega
  have hn_m_c : m ≠ c := by have := hB_m.lt; omega
  have hge_c : _ <= c := zn6 hE.size (Nat.le_of_eq hg_c.symm)
  obtain ⟨hE, hB_b, hB_m, hhs, hc_x, hk_x⟩ := Tr6 hk_c hE hB_b hB_m hhs hc_x hk_x
  refine Gs 4 O (G.call O Tryz.call156 (qe m _ _ _ hB_m) ?_)
  rintro _ wz2 ⟨rfl, hz2⟩
  obtain ⟨hE, hB_b, hB_m, hhs, hc_x, hk_x, hB_c⟩ := Tr7 hz2 hE hB_b hB_m hhs hc_x hk_x hB_c
  have ho : decide (1024 < m') = false := znd (by omega)
  rw [ho, Bool.or_false]
  refine zlg O O (zkJ O (by first | exact za | rfl)) (Gs 2 O (G.bool O (fun hov => ?_) (fun hov => ?_)))
  ·
   have hov' : (xE 1 f.body || (f.hatches.take i).any (fun h => decide (12 < h.term.depth))) = false := by simpa using hov
   rw [hov'] at hB_m
   refine Gs 2 O (zlm O tg132 ts132 (hB_c.cells.sub 3 3) O (G.call O Tryz.call157 (zaA x.term _ E _ m _ _ 1 (RTm.put hk_x) DM hB_m (by omega) (by omega) (by omega) (by omega)) ?_))
   rintro _ w6 ⟨rfl, ⟨n2', h1', h2', hB2⟩, hz⟩
   replace hE := hE.trans hz (fun q hq h => by have h : q = m := h; omega)
   replace hB_b := hz.blk hB_b (hn_b_m)
   replace hB_c := hz.blk hB_c (fun h => hn_m_c h.symm)
   refine Ga 7 O (by omega) (zjy (i + 1) (zkZ O) (⟨by omega, ⟨n2', by omega, by omega, ?_⟩, hB_b, hE⟩) (by first | omega | (dsimp only; omega)))
   have hb : (false || decide (12 < 1 + (x.term.depth : Int) - 1)) = (xE 1 f.body || (f.hatches.take (i + 1)).any (fun h => decide (12 < h.term.depth))) := by
    rw [zg he_x, List.any_append, <- Bool.or_assoc, hov', Bool.false_or, Bool.false_or]
    simp; omega
   rw [<- hb]; exact hB2
  ·
   have hov' : (xE 1 f.body || (f.hatches.take i).any (fun h => decide (12 < h.term.depth))) = true := by rw [<- Bool.not_eq_false]; intro h; rw [h] at hov; cases hov
   refine Ga 7 O (by omega) (zjy (i + 1) (zkZ O) (⟨by omega, ⟨m', by omega, by omega, ?_⟩, hB_b, hE⟩) (by first | omega | (dsimp only; omega)))
   rw [hov'] at hB_m
   rw [zg he_x, List.any_append, <- Bool.or_assoc, hov', Bool.true_or]
   exact hB_m
 ·
  have hii : i = f.hatches.length := by omega
  subst hii
  rw [zn5] at hB_m hm'1
  have hsz2 : xk f = (decide (f.vars.length <= 64) && decide (f.hatches.length <= 8) && !(xE 1 f.body || f.hatches.any (fun h => decide (12 < h.term.depth)))) := by
   unfold xk xE
   have e1 : (f.hatches.all fun h => decide (h.term.depth <= 12)) = !(f.hatches.any fun h => decide (12 < h.term.depth)) := by
    rw [List.not_any_eq_all_not]; congr 1; funext h; rw [<- decide_not, znr]; omega
   have e2 : decide (12 < 1 + (zO f.body : Int) - 1) = !decide (zO f.body <= 12) := by rw [<- decide_not, znr]; omega
   rw [e1, e2]
   generalize decide (f.vars.length <= 64) = p1
   generalize decide (f.hatches.length <= 8) = p2
   generalize (f.hatches.any fun h => decide (12 < h.term.depth)) = p3
   generalize decide (zO f.body <= 12) = p4
   generalize yf f.body = p5
   revert p1 p2 p3 p4 p5; decide
  refine Gs 9 O (zlk O tg52 (hB_b.cells 0 _ O) (Gs 3 O (zlb 30 O (fun g1 => ?_) (fun g1 => ?_))))
  ·
   have s0 : xk f = false := by rw [hsz2, znd (show ¬ f.vars.length <= 64 by omega)]; rfl
   refine Gs 18 O (zjH tr126 O ⟨_, rfl, by rw [zS, znb s0], hE⟩)
  ·
   refine Gs 1 O (zlk O tg53 (hB_b.cells 1 _ O) (Gs 4 O (zlb 36 O (fun g2 => ?_) (fun g2 => ?_))))
   ·
    have s0 : xk f = false := by rw [hsz2, znd (show ¬ f.hatches.length <= 8 by omega), Bool.and_false]; rfl
    refine Gs 12 O (zjH tr126 O ⟨_, rfl, by rw [zS, znb s0], hE⟩)
   ·
    have hvs := hvs0.ext yX hE
    have hbd := hbd0.ext zf hE
    refine G.call O Tryz.call156 (qe m _ _ _ hB_m) ?_
    rintro _ wz3 ⟨rfl, hz3⟩
    obtain ⟨hE, hB_b, hB_m, hhs, hvs, hbd⟩ := Tr6 hz3 hE hB_b hB_m hhs hvs hbd
    have ho : decide (1024 < m') = false := znd (by omega)
    rw [ho, Bool.or_false]
    rw [znc (show f.vars.length <= 64 by omega), znc (show f.hatches.length <= 8 by omega), Bool.true_and, Bool.true_and] at hsz2
    refine Gs 3 O (G.bool O (fun s1 => ?_) (fun s1 => ?_))
    ·
     have s0 : xk f = false := by rw [hsz2, s1]; rfl
     refine Gs 7 O (zjH tr126 O ⟨_, rfl, by rw [zS, znb s0], hE⟩)
    ·
     have s0 : ¬ xk f = false := by rw [hsz2, s1]; decide
     refine Gs 6 O (zlk O tg52 (hB_b.cells 0 _ O) (G.call O Tryz.call158 (zda f.vars _ E _ hvs (by omega)) ?_))
     rintro _ wz4 ⟨rfl, hz4⟩
     obtain ⟨hE, hB_b, hB_m, hhs, hvs, hbd⟩ := Tr6 hz4 hE hB_b hB_m hhs hvs hbd
     refine Gs 9 O (zjn O (fun vz => ?_) (fun vz => ?_))
     . refine Gs 8 O (zjH tr126 O ⟨_, rfl, by rw [zS, zna s0, znb vz], hE⟩)
     ·
      have hg := zaB (show zv f.vars = 0 by omega)
      refine Gs 5 O (zlm O tg56 ts56 hB_b.cells O ?_)
      have hch : zS f = if zA f.vars f.hatches ≠ 0 then zA f.vars f.hatches else if zc f.vars f.hatches.length f.body true ≠ 0 then zc f.vars f.hatches.length f.body true else if zbx f then 4 else 0 := by rw [zS, zna s0, zna vz]
      have hhs := hhs0.ext yY hE
      refine G.call O Tryz.call159 (zaX f _ _ _ E _ ⟨hvs, hhs, hbd⟩ hg (fun h hh => by obtain ⟨i, hi⟩ := List.mem_iff_getElem?.1 hh; have := xa hi; omega) (by omega)) ?_
      rintro _ wz5 ⟨rfl, hz5⟩
      obtain ⟨hE, hB_b, hB_m, hvs, hbd, hhs⟩ := Tr6 hz5 hE hB_b hB_m hvs hbd hhs
      refine Gs 9 O (zjn O (fun hz2 => ?_) (fun hz2 => ?_))
      . refine Gs 8 O (zjH tr126 O ⟨_, rfl, by rw [hch, znb hz2], hE⟩)
      ·
       rw [zna hz2] at hch
       refine Gs 5 O (zlm O tg56 ts56 hB_b.cells O (Gs 1 O (zlk O tg54 (hB_b.cells 2 _ O) (G.call O Tryz.call160 (zcm f _ _ _ hg E f.body _ E _ true ⟨hvs, hhs, hbd⟩ hbd hbk) ?_))))
       rintro _ wz6 ⟨rfl, hz6⟩
       obtain ⟨hE, hB_b, hB_m, hvs, hbd, hhs⟩ := Tr6 hz6 hE hB_b hB_m hvs hbd hhs
       refine Gs 9 O (zjn O (fun sz => ?_) (fun sz => ?_))
       . refine Gs 8 O (zjH tr126 O ⟨_, rfl, by rw [hch, znb sz], hE⟩)
       ·
        have hs0 : zc f.vars f.hatches.length f.body true = 0 := by omega
        rw [zna sz] at hch
        refine Gs 6 O (zlk O tg54 (hB_b.cells 2 _ O) (G.call O Tryz.call161 (zgw f.vars f.hatches.length f.body _ E _ true hs0 hbd hbk) ?_))
        rintro _ wz7 ⟨rfl, hz7⟩
        obtain ⟨hE, hB_b, hB_m, hvs, hbd, hhs⟩ := Tr6 hz7 hE hB_b hB_m hvs hbd hhs
        have c1 : (4096 < cap 1099511627776 (bds f.body).1) ↔ 4096 < (bds f.body).1 := by unfold cap; omega
        have c2 : (8 < cap 1099511627776 (bds f.body).2.1) ↔ 8 < (bds f.body).2.1 := by unfold cap; omega
        have c3 : (67108864 < cap 1099511627776 (bds f.body).2.2) ↔ 67108864 < (bds f.body).2.2 := by unfold cap; omega
        have ho2 : zbx f = (decide (4096 < cap 1099511627776 (bds f.body).1) || decide (8 < cap 1099511627776 (bds f.body).2.1) || decide (67108864 < cap 1099511627776 (bds f.body).2.2)) := by
         unfold zbx; rw [znr.2 c1, znr.2 c2, znr.2 c3]
        refine zkf O O (M.alloc (cs := _) tz223 O) ?_
        rintro _ wa8 ⟨c, rfl, hg_c, hs_c, hB_c, hk_c⟩
        refine zki O (zkj ts223 O O O O (by simp [Value.oneCell']) hB_c (by simp)) ?_
        rintro w_c ⟨_, hB_c, hkk_c⟩
        replace hk_c := hk_c.trans hkk_c (fun q hq h => by have h : q = c := h; omega)
        have hn_b_c : b ≠ c := by have := hB_b.lt; omega
        have hn_m_c : m ≠ c := by have := hB_m.lt; omega
        have hge_c : _ <= c := zn6 hE.size (Nat.le_of_eq hg_c.symm)
        obtain ⟨hE, hB_b, hB_m, hvs, hbd, hhs⟩ := Tr6 hk_c hE hB_b hB_m hvs hbd hhs
        refine Gs 5 O (zlk O tg3 (hB_c.cells 0 _ O) (Gs 2 O (zlb 63 O (fun b1 => ?_) (fun b1 => ?_))))
        . refine Gs 19 O (zjH tr126 O ⟨_, rfl, by rw [hch, znb (by rw [ho2, znc b1]; rfl)], hE⟩)
        ·
         refine Gs 1 O (zlk O tg3 (hB_c.cells 1 _ O) (Gs 3 O (zlb 68 O (fun b2 => ?_) (fun b2 => ?_))))
         . refine Gs 14 O (zjH tr126 O ⟨_, rfl, by rw [hch, znb (by rw [ho2, znc b2, Bool.or_true]; rfl)], hE⟩)
         ·
          refine Gs 1 O (zlk O tg3 (hB_c.cells 2 _ O) (Gs 4 O (zjn O (fun b3 => ?_) (fun b3 => ?_))))
          . refine Gs 7 O (zjH tr126 O ⟨_, rfl, by rw [hch, znb (by rw [ho2, znc b3, Bool.or_true])], hE⟩)
          . refine Gs 8 O (zjH tr126 O ⟨_, rfl, by rw [hch, zna (by rw [ho2, znd b1, znd b2, znd b3]; decide)], hE⟩)
end Go.Proofs.YtbkhagigkglgoaaGreatDoor
namespace Go.GL
instance decNd : DecidableEq Nd := fun a b =>
 if h : a.kind = b.kind /\ a.at_ = b.at_ /\ a.next = b.next /\ a.other = b.other then isTrue (zmy h.1 h.2.1 h.2.2.1 h.2.2.2) else isFalse (fun e => h (by subst e; exact ⟨rfl, rfl, rfl, rfl⟩))
end Go.GL
namespace Go.Proofs.YtbkhagigkglgoaaGreatDoor
open Go.GL
theorem yr {f : Fl} (h : zS f = 0) : xk f = true /\ zv f.vars = 0 /\ zA f.vars f.hatches = 0 /\ zc f.vars f.hatches.length f.body true = 0 /\ zbx f = false := by
 unfold zS at h
 split at h
 . cases h
 split at h
 . rename_i h1; exact absurd h h1
 split at h
 . rename_i h1; exact absurd h h1
 split at h
 . rename_i h1; exact absurd h h1
 split at h
 . cases h
 rename_i h1 h2 h3 h4 h5
 refine ⟨by simpa using h1, by omega, by omega, by omega, by simpa using h5⟩
theorem zdf {f : Fl} (hsz : zn f.body + zG f.hatches <= 1024) : ssize f.body <= 1024 := by have := zcc f.body; omega
end Go.Proofs.YtbkhagigkglgoaaGreatDoor
namespace Go.GL
mutual
/-- The steps in preorder. -/
def St.pre : St -> List St
 | .mk a c v n t f g b => .mk a c v n t f g b :: (jU f ++ jU g)
def jU : List St -> List St
 | [] => []
 | s :: r => s.pre ++ jU r
end
theorem St.pre_eq (s : St) : s.pre = s :: (jU s.thn ++ jU s.els) := by cases s; rw [St.pre]; rfl
theorem qf (a b : List St) : jU (a ++ b) = jU a ++ jU b := by
 induction a with
 | nil => rfl
 | cons x r ih => rw [List.cons_append, jU, ih, jU, List.append_assoc]
open Go.RowKit Go.ChangeMaps
def lkm : List (Int × Value) -> Int -> Option (Nat × Value)
 | [], _ => none
 | (a, v) :: r, k => if k = a then some (0, v) else (lkm r k).map fun p => (p.1 + 1, p.2)
def zdT (l : List (Int × Value)) (k : Int) : Option Value := (lkm l k).map (·.2)
def zhG (l : List (Int × Value)) (k : Int) (v : Value) : List (Int × Value) := match lkm l k with
 | some p => l.set p.1 (k, v)
 | none => l ++ [(k, v)]
theorem kX {l : List (Int × Value)} {k : Int} {p : Nat × Value} (h : lkm l k = some p) : l[p.1]? = some (k, p.2) := by
 induction l generalizing p with
 | nil => simp [lkm] at h
 | cons x r ih =>
  obtain ⟨a, v⟩ := x
  rw [lkm] at h
  split at h
  . rename_i h1; cases h; rw [h1]; rfl
  ·
   obtain ⟨q, h2, rfl⟩ := Option.map_eq_some_iff.1 h
   simpa using ih h2
theorem zby {l : List (Int × Value)} {k : Int} (h : lkm l k = none) : ∀ p ∈ l, p.1 ≠ k := by
 induction l with
 | nil => intro p hp; simp at hp
 | cons x r ih =>
  obtain ⟨a, v⟩ := x
  rw [lkm] at h
  split at h
  . cases h
  ·
   rename_i h1
   intro p hp
   rcases zng.1 hp with rfl | hp
   . exact fun h2 => h1 h2.symm
   . exact ih (by simpa using h) p hp
theorem zdU {l : List (Int × Value)} {k : Int} {v : Value} (h : zdT l k = some v) : (k, v) ∈ l := by
 obtain ⟨p, h1, rfl⟩ := Option.map_eq_some_iff.1 h
 exact zn1 (kX h1)
theorem je {l : List (Int × Value)} (hn : (l.map (·.1)).Nodup) {k : Int} {v : Value} (h : (k, v) ∈ l) : zdT l k = some v := by
 induction l with
 | nil => simp at h
 | cons x r ih =>
  obtain ⟨a, u⟩ := x
  rw [List.map_cons, List.nodup_cons] at hn
  rw [zdT, lkm]
  rcases zng.1 h with h1 | h1
  . cases h1; simp
  ·
   have hne : k ≠ a := fun e => hn.1 (List.mem_map.2 ⟨(k, v), h1, e⟩)
   rw [zna hne]
   have := ih hn.2 h1
   rw [zdT] at this
   simpa [Option.map_map] using this
theorem zbz {l : List (Int × Value)} {k : Int} : zdT l k = none ↔ ∀ p ∈ l, p.1 ≠ k := by
 rw [zdT, Option.map_eq_none_iff]
 refine ⟨zby, fun h => ?_⟩
 cases h1 : lkm l k with
 | none => rfl
 | some p => exact absurd rfl (h _ (zn1 (kX h1)))
theorem zf8 (l : List (Int × Value)) (k : Int) (v : Value) : (zhG l k v).map (·.1) = match lkm l k with
 | some _ => l.map (·.1)
 | none => l.map (·.1) ++ [k] := by
 unfold zhG
 cases h : lkm l k with
 | none => simp
 | some p =>
  have h1 := kX h
  simp only
  rw [List.map_set]
  apply List.ext_getElem?
  intro j
  rw [List.getElem?_set]
  split
  ·
   rename_i hj; subst hj
   rw [znh, h1]
   split
   . rfl
   . rename_i h2; rw [znk] at h2; exact absurd (zne.1 h1).1 h2
  . rfl
theorem zeo {l : List (Int × Value)} (hn : (l.map (·.1)).Nodup) (k : Int) (v : Value) : ((zhG l k v).map (·.1)).Nodup := by
 rw [zf8]
 cases h : lkm l k with
 | some p => exact hn
 | none =>
  simp only
  rw [List.nodup_append]
  refine ⟨hn, by simp, fun a ha b hb => ?_⟩
  rw [zni] at hb
  subst hb
  obtain ⟨p, hp, rfl⟩ := List.mem_map.1 ha
  exact zby h p hp
theorem zf9 {l : List (Int × Value)} (hn : (l.map (·.1)).Nodup) (k k' : Int) (v : Value) : zdT (zhG l k v) k' = if k' = k then some v else zdT l k' := by
 have hn' := zeo hn k v
 have key : ∀ u, (k', u) ∈ zhG l k v ↔ (k' = k /\ u = v) \/ (k' ≠ k /\ (k', u) ∈ l) := by
  intro u
  unfold zhG
  cases h : lkm l k with
  | none =>
   have h1 := zby h
   simp only [znj, zni, Prod.mk.injEq]
   constructor
   ·
    rintro (h2 | h2)
    . exact .inr ⟨h1 _ h2, h2⟩
    . exact .inl h2
   ·
    rintro (h2 | h2)
    . exact .inr h2
    . exact .inl h2.2
  | some p =>
   have h1 := kX h
   obtain ⟨hlt, h1'⟩ := zne.1 h1
   simp only
   constructor
   ·
    intro h2
    obtain ⟨j, hj⟩ := List.mem_iff_getElem?.1 h2
    rw [List.getElem?_set] at hj
    split at hj
    ·
     first
      | (split at hj <;> cases hj <;> exact .inl ⟨rfl, rfl⟩)
      | (cases hj; exact .inl ⟨rfl, rfl⟩)
    ·
     rename_i hne
     refine .inr ⟨?_, zn1 hj⟩
     rintro rfl
     have hjl := (zne.1 hj).1
     have := (List.nodup_iff_pairwise_ne.1 hn)
     rw [List.pairwise_iff_getElem] at this
     have e1 : (l.map (·.1))[p.1]'(by rw [znk]; exact hlt) = k' := by rw [List.getElem_map, h1']
     have e2 : (l.map (·.1))[j]'(by rw [znk]; exact hjl) = k' := by rw [List.getElem_map, (zne.1 hj).2]
     rcases Nat.lt_or_ge p.1 j with h3 | h3
     . exact this p.1 j _ _ h3 (by rw [e1, e2])
     . exact this j p.1 _ _ (by omega) (by rw [e1, e2])
   ·
    rintro (⟨rfl, rfl⟩ | ⟨h2, h3⟩)
    . exact zn1 (by rw [List.getElem?_set_self hlt])
    ·
     obtain ⟨j, hj⟩ := List.mem_iff_getElem?.1 h3
     refine List.mem_iff_getElem?.2 ⟨j, ?_⟩
     rw [List.getElem?_set_ne]
     . exact hj
     ·
      rintro rfl
      rw [h1] at hj
      exact h2 (congrArg Prod.fst (Option.some.inj hj)).symm
 by_cases h : k' = k
 ·
  rw [znb h]
  exact je hn' ((key v).2 (.inl ⟨h, rfl⟩))
 ·
  rw [zna h]
  cases h2 : zdT l k' with
  | some u => exact je hn' ((key u).2 (.inr ⟨h, zdU h2⟩))
  | none =>
   rw [zbz] at h2 ⊢
   rintro ⟨a, u⟩ hp rfl
   rcases (key u).1 hp with h3 | h3
   . exact h h3.1
   . exact h2 _ h3.2 O
def MapI (w : World) (m : Nat) (l : List (Int × Value)) : Prop :=
 ∃ (es : Array MapEntry) (clock : Nat), w.heap[m]? = some (.map es clock) /\ es.toList.map (fun e => (e.key, e.val)) = l.map (fun p => (Value.int .i64 p.1, p.2)) /\ (∀ e ∈ es.toList, e.born < clock) /\ (es.toList.map (·.born)).Nodup /\ (l.map (·.1)).Nodup
theorem MapI.keep {w w' : World} {S : Nat -> Prop} {m : Nat} {l : List (Int × Value)} (h : MapI w m l) (hk : Keep S w w') (hS : ¬ S m) : MapI w' m l := by
 obtain ⟨es, c, h1, r⟩ := h
 exact ⟨es, c, by rw [hk.block m (Array.getElem?_eq_some_iff.1 h1).1 hS]; exact h1, r⟩
theorem MapI.ext {w w' : World} {m : Nat} {l : List (Int × Value)} (h : MapI w m l) (hk : Ext w w') : MapI w' m l := h.keep hk (fun h => h)
theorem MapI.lt {w : World} {m : Nat} {l : List (Int × Value)} (h : MapI w m l) : m < w.heap.size := by
 obtain ⟨es, c, h1, r⟩ := h
 exact (Array.getElem?_eq_some_iff.1 h1).1
theorem MapI.ne {w : World} {m b : Nat} {l : List (Int × Value)} {cs : List Value} {e : TypeId} (h : MapI w m l) (hb : Blk w b cs e) : b ≠ m := by
 rintro rfl
 obtain ⟨es, c, h1, r⟩ := h
 unfold Blk at hb
 rw [h1] at hb
 cases hb
section
variable {P : Program} {w : World} {m : Nat} {l : List (Int × Value)} {t kt et : TypeId}
theorem xo {o o' : Obj} (h : w.heap[m]? = some o) : Keep (fun q => q = m) w (setBlock w m o') :=
 ⟨rfl, rfl, rfl, zno _, by simp [setBlock], fun k _ hn => (MapKept.heap_set h).2 k hn⟩
theorem zep {β : Type} (f : MapEntry -> β) (g : MapEntry -> MapEntry) (y : β) : ∀ (es : List MapEntry) (i : Nat), (∀ e, es[i]? = some e -> f (g e) = y) -> (es.modify i g).map f = (es.map f).set i y := by
 intro es i h
 apply List.ext_getElem?
 intro j
 rw [znh, List.getElem?_modify, List.getElem?_set]
 by_cases hj : i = j
 ·
  subst hj
  cases h1 : es[i]? with
  | none =>
   have := List.getElem?_eq_none_iff.1 h1
   rw [znb rfl, zna (by rw [znk]; omega)]
   simp
  | some e =>
   have := (zne.1 h1).1
   rw [znb rfl, znb (by rw [znk]; omega)]
   simp [h e h1]
 ·
  rw [zna hj, znh]
  cases es[j]? <;> simp [hj]
end
section
variable {P : Program} {env : Env} {w : World} {dst : Option Tmp} {ty : TypeId} {pos : String} {aft : Array Edge} {g : Option (Nat × Bool)} {t kt et : TypeId} {m : Nat} {l : List (Int × Value)}
theorem M.makeMap : yz P ⟨dst, .makeMap t none, ty, pos, aft, g⟩ env w (fun u w' => ∃ b, u = .map (some b) /\ b = w.heap.size /\ w'.heap.size = w.heap.size + 1 /\ MapI w' b [] /\ Ext w w') := by
 refine ⟨.map (some w.heap.size), w.alloc (.map #[] 0), ?_, _, rfl, rfl, by simp, ⟨#[], 0, (MapKept.heap_alloc w _).1, rfl, by simp, by simp, by simp⟩, Keep.alloc w _⟩
 intro n a ha
 have h : (Instr.makeMap t none).run P w = .ok (.map (some w.heap.size)) (w.alloc (.map #[] 0)) := by simp [Instr.makeMap, Result.andThen]
 simp [execOp, h]
end
def MapE (w : World) (m : Nat) (l : List (Int × Value)) (k : Int) (st : Nat) : Prop :=
 ∃ (es : Array MapEntry) (clock i : Nat) (e : MapEntry) (v : Value), w.heap[m]? = some (.map es clock) /\ es.toList.map (fun e => (e.key, e.val)) = l.map (fun p => (Value.int .i64 p.1, p.2)) /\ (∀ e ∈ es.toList, e.born < clock) /\ (es.toList.map (·.born)).Nodup /\ (l.map (·.1)).Nodup /\
  es.toList[i]? = some e /\ e.born = st /\ lkm l k = some (i, v)
theorem MapE.keep {w w' : World} {S : Nat -> Prop} {m st : Nat} {k : Int} {l : List (Int × Value)} (h : MapE w m l k st) (hk : Keep S w w') (hS : ¬ S m) : MapE w' m l k st := by
 obtain ⟨es, c, i, e, v, h1, r⟩ := h
 exact ⟨es, c, i, e, v, by rw [hk.block m (Array.getElem?_eq_some_iff.1 h1).1 hS]; exact h1, r⟩
theorem MapE.map {w : World} {m st : Nat} {k : Int} {l : List (Int × Value)} (h : MapE w m l k st) : MapI w m l := by
 obtain ⟨es, c, i, e, v, h1, h2, h3, h4, h5, _⟩ := h
 exact ⟨es, c, h1, h2, h3, h4, h5⟩
def RanI (w : World) (it m : Nat) (l : List (Int × Value)) (seen : List Int) (cur : Option (Int × Value)) : Prop :=
 ∃ (es : Array MapEntry) (clock since : Nat) (sb : Array Nat) (c0 : Nat), w.heap[m]? = some (.map es clock) /\ es.toList.map (fun e => (e.key, e.val)) = l.map (fun p => (Value.int .i64 p.1, p.2)) /\ (∀ e ∈ es.toList, e.born < clock) /\ (es.toList.map (·.born)).Nodup /\ (l.map (·.1)).Nodup /\
  w.heap[it]? = some (.mapIter (some m) since sb c0) /\ (∀ e ∈ es.toList, e.born < since) /\ since <= c0 /\ (∀ e ∈ es.toList, ∀ k, e.key = .int .i64 k -> (e.born ∈ sb ↔ k ∈ seen)) /\ seen.Nodup /\ (∀ k ∈ seen, ∃ v, zdT l k = some v) /\
  since <= clock /\ (∀ q, cur = some q -> c0 = clock /\ ∃ (e : MapEntry) (s : Array Nat), e ∈ es.toList /\ sb = s.push e.born /\ e.key = .int .i64 q.1 /\ e.val = q.2)
theorem RanI.keep {w w' : World} {S : Nat -> Prop} {it m : Nat} {l : List (Int × Value)} {seen : List Int} {cur : Option (Int × Value)} (h : RanI w it m l seen cur) (hk : Keep S w w') (hS : ¬ S m) (hI : ¬ S it) : RanI w' it m l seen cur := by
 obtain ⟨es, c, since, sb, c0, h1, h2, h3, h4, h5, h6, r⟩ := h
 exact ⟨es, c, since, sb, c0, by rw [hk.block m (Array.getElem?_eq_some_iff.1 h1).1 hS]; exact h1, h2, h3, h4, h5, by rw [hk.block it (Array.getElem?_eq_some_iff.1 h6).1 hI]; exact h6, r⟩
theorem RanI.map {w : World} {it m : Nat} {l : List (Int × Value)} {seen : List Int} {cur : Option (Int × Value)} (h : RanI w it m l seen cur) : MapI w m l := by
 obtain ⟨es, c, since, sb, c0, h1, h2, h3, h4, h5, _⟩ := h
 exact ⟨es, c, h1, h2, h3, h4, h5⟩
theorem RanI.lt {w : World} {it m : Nat} {l : List (Int × Value)} {seen : List Int} {cur : Option (Int × Value)} (h : RanI w it m l seen cur) : it < w.heap.size := by
 obtain ⟨es, c, since, sb, c0, h1, h2, h3, h4, h5, h6, _⟩ := h
 exact (Array.getElem?_eq_some_iff.1 h6).1
theorem RanI.ne {w : World} {it m : Nat} {l : List (Int × Value)} {seen : List Int} {cur : Option (Int × Value)} (h : RanI w it m l seen cur) : it ≠ m := by
 obtain ⟨es, c, since, sb, c0, h1, h2, h3, h4, h5, h6, _⟩ := h
 rintro rfl
 rw [h1] at h6; cases h6
section
variable {P : Program} {env : Env} {w : World} {dst : Option Tmp} {ty : TypeId} {pos : String} {aft : Array Edge} {g : Option (Nat × Bool)} {t kt et : TypeId} {m : Nat} {l : List (Int × Value)}
theorem M.range {x : Operand} (h : MapI w m l) (ht : P.underlying t = some (.map kt et)) (hx : ev env x = some (.map (some m))) :
  yz P ⟨dst, .range t x, ty, pos, aft, g⟩ env w (fun u w' => ∃ it, u = .pointer (some ⟨it, 0, none⟩) /\ it = w.heap.size /\ RanI w' it m l [] none /\ Ext w w' /\ w'.heap.size = w.heap.size + 1) := by
 have hlt := h.lt
 obtain ⟨es, c, h1, h2, h3, h4, h5⟩ := h
 have hrun : (Instr.range t (.map (some m))).run P w = .ok (.pointer (some ⟨w.heap.size, 0, none⟩)) (w.alloc (.mapIter (some m) c #[] c)) := by
  simp [Instr.range, run_underlying ht, MapKept.run_getObj_map h1, Result.andThen]
 refine ⟨.pointer (some ⟨w.heap.size, 0, none⟩), w.alloc (.mapIter (some m) c #[] c), fun n a ha => ?_, w.heap.size, rfl, rfl, ⟨es, c, c, #[], c, by rw [(MapKept.heap_alloc w _).2 _ hlt]; exact h1, h2, h3, h4, h5, (MapKept.heap_alloc w _).1, h3, zno _, fun e _ k _ => by simp, List.Pairwise.nil, by simp, zno _, by simp⟩, Keep.alloc w _, by simp⟩
 simp [execOp, ha.eval hx, hrun]
theorem M.next {x : Operand} {it : Nat} {seen : List Int} {cur : Option (Int × Value)} (h : RanI w it m l seen cur) (hx : ev env x = some (.pointer (some ⟨it, 0, none⟩))) :
  yz P ⟨dst, .next x false, ty, pos, aft, g⟩ env w (fun u w' => (u = .tuple #[.bool false] /\ w' = w /\ ∀ p ∈ l, p.1 ∈ seen) \/ ∃ k v, u = .tuple #[.bool true, .int .i64 k, v] /\ zdT l k = some v /\ k ∉ seen /\ RanI w' it m l (seen ++ [k]) (some (k, v)) /\ Keep (fun q => q = it) w w' /\ w'.heap.size = w.heap.size) := by
 have hne := h.ne
 obtain ⟨es, c, since, sb, c0, h1, h2, h3, h4, h5, h6, h7, h8, h9, h10, h11, hsc, h12⟩ := h
 have hkey : ∀ e ∈ es.toList, ∃ k, e.key = .int .i64 k /\ zdT l k = some e.val := by
  intro e he
  obtain ⟨i, hi⟩ := List.mem_iff_getElem?.1 he
  have := congrArg (fun L => L[i]?) h2
  simp only [znh, hi, Option.map_some] at this
  obtain ⟨p, hp, hp2⟩ := Option.map_eq_some_iff.1 this.symm
  simp only [Prod.mk.injEq] at hp2
  refine ⟨p.1, hp2.1.symm, ?_⟩
  rw [<- hp2.2]
  exact je h5 (zn1 hp)
 rcases run_next_at (P := P) w ty it m since c0 sb es c h6 h1 h7 h8 with ⟨h0, hrun⟩ | ⟨e, he, w1, hal, hrun⟩
 ·
  refine ⟨_, _, fun n a ha => ?_, .inl ⟨rfl, rfl, fun p hp => ?_⟩⟩
  . simp [execOp, ha.eval hx, hrun]
  ·
   obtain ⟨i, hi⟩ := List.mem_iff_getElem?.1 hp
   have h13 := congrArg (fun L => L[i]?) h2
   simp only [znh, hi, Option.map_some] at h13
   obtain ⟨e, he, he2⟩ := Option.map_eq_some_iff.1 h13
   simp only [Prod.mk.injEq] at he2
   rw [<- h9 e (zn1 he) p.1 he2.1]
   have h14 : e ∉ leftOf es sb := by
    have : leftOf es sb = #[] := Array.eq_empty_of_size_eq_zero h0
    rw [this]; simp
   unfold leftOf at h14
   have h15 := zn1 he
   simp at h14 h15
   exact h14 h15
 ·
  have he' : e ∈ es.toList /\ e.born ∉ sb := by
   unfold leftOf at he
   simp at he
   exact ⟨by simpa using he.1, he.2⟩
  obtain ⟨k, hk1, hk2⟩ := hkey e he'.1
  have hr1 : w1.heap[it]? = some (.mapIter (some m) since sb c0) := by rcases hal with rfl | rfl <;> exact h6
  have hb1 : w1.heap[m]? = some (.map es c) := by rcases hal with rfl | rfl <;> exact h1
  have hset := MapKept.heap_set (o' := .mapIter (some m) since (sb.push e.born) c) hr1
  have hks : k ∉ seen := fun hh => he'.2 ((h9 e he'.1 k hk1).2 hh)
  have hinj : ∀ e' ∈ es.toList, e'.born = e.born -> e' = e := by
   intro e' h' hb
   obtain ⟨i, hi⟩ := List.mem_iff_getElem?.1 h'
   obtain ⟨j, hj⟩ := List.mem_iff_getElem?.1 he'.1
   have hil := (zne.1 hi).1
   have hjl := (zne.1 hj).1
   have hp := List.nodup_iff_pairwise_ne.1 h4
   rw [List.pairwise_iff_getElem] at hp
   by_cases hij : i = j
   . subst hij; rw [hi] at hj; exact Option.some.inj hj
   ·
    exfalso
    rcases Nat.lt_or_ge i j with h3 | h3
    ·
     have := hp i j (by rw [znk]; omega) (by rw [znk]; omega) h3
     rw [List.getElem_map, List.getElem_map, (zne.1 hi).2, (zne.1 hj).2] at this
     exact this hb
    ·
     have := hp j i (by rw [znk]; omega) (by rw [znk]; omega) (by omega)
     rw [List.getElem_map, List.getElem_map, (zne.1 hi).2, (zne.1 hj).2] at this
     exact this hb.symm
  have hKeep : Keep (fun q => q = it) w (setBlock w1 it (.mapIter (some m) since (sb.push e.born) c)) := by
   rcases hal with rfl | rfl
   . exact xo h6
   . exact (Keep.mono (Keep.drew w) (fun _ _ h => h.elim)).trans (xo hr1) (fun _ _ h => h)
  refine ⟨_, _, fun n a ha => ?_, .inr ⟨k, e.val, by rw [<- hk1], hk2, hks, ⟨es, c, since, sb.push e.born, c, ?_, h2, h3, h4, h5, hset.1, h7, hsc, ?_, ?_, ?_, hsc, ?_⟩, hKeep, ?_⟩⟩
  . simp [execOp, ha.eval hx, hrun]
  . exact (hset.2 m (fun h => hne h.symm)).trans hb1
  ·
   intro e' h' k' hk'
   rw [Array.mem_push, h9 e' h' k' hk', znj, zni]
   constructor
   ·
    rintro (h13 | h13)
    . exact .inl h13
    ·
     have := hinj e' h' h13
     subst this
     rw [hk1] at hk'; cases hk'
     exact .inr O
   ·
    rintro (h13 | h13)
    . exact .inl h13
    ·
     subst h13
     right
     obtain ⟨i, hi⟩ := List.mem_iff_getElem?.1 h'
     obtain ⟨j, hj⟩ := List.mem_iff_getElem?.1 he'.1
     have g1 := congrArg (fun L => L[i]?) h2
     have g2 := congrArg (fun L => L[j]?) h2
     simp only [znh, hi, hj, Option.map_some] at g1 g2
     obtain ⟨p1, hp1, hp1'⟩ := Option.map_eq_some_iff.1 g1.symm
     obtain ⟨p2, hp2, hp2'⟩ := Option.map_eq_some_iff.1 g2.symm
     simp only [Prod.mk.injEq] at hp1' hp2'
     have e1 : p1.1 = k' := by have := hp1'.1.trans hk'; cases this; rfl
     have e2 : p2.1 = k' := by have := hp2'.1.trans hk1; cases this; rfl
     have hil := (zne.1 hp1).1
     have hjl := (zne.1 hp2).1
     have hp := List.nodup_iff_pairwise_ne.1 h5
     rw [List.pairwise_iff_getElem] at hp
     by_cases hij : i = j
     . subst hij; rw [hi] at hj; rw [Option.some.inj hj]
     ·
      exfalso
      rcases Nat.lt_or_ge i j with h3' | h3'
      ·
       have := hp i j (by rw [znk]; omega) (by rw [znk]; omega) h3'
       rw [List.getElem_map, List.getElem_map, (zne.1 hp1).2, (zne.1 hp2).2, e1, e2] at this
       exact this O
      ·
       have := hp j i (by rw [znk]; omega) (by rw [znk]; omega) (by omega)
       rw [List.getElem_map, List.getElem_map, (zne.1 hp1).2, (zne.1 hp2).2, e1, e2] at this
       exact this O
  ·
   rw [List.nodup_append]
   exact ⟨h10, by simp, fun a ha b hb => by rw [zni] at hb; subst hb; exact fun h => hks (h ▸ ha)⟩
  ·
   intro k' hk'
   rcases znj.1 hk' with hk' | hk'
   . exact h11 k' hk'
   . rw [zni] at hk'; subst hk'; exact ⟨_, hk2⟩
  ·
   intro q hq
   cases hq
   exact ⟨rfl, e, sb, he'.1, rfl, hk1, rfl⟩
  . rcases hal with rfl | rfl <;> simp [setBlock]
end
end Go.GL
namespace Go.Proofs.YtbkhagigkglgoaaGreatDoor
open Go.GL
def yy (b : Bool) : Int := if b then 1 else 0
def lki (l : List Int) (i : Nat) : Int := l[i]?.getD 0
theorem zfa {l : List Int} {i : Nat} {x : Int} (h : l[i]? = some x) : lki l i = x := by simp [lki, h]
theorem zfb {l : List Int} {i : Nat} (h : i < l.length) : l[i]? = some (lki l i) := by simp [lki, zn0 h]
def xp (op a b : Int) : Int :=
 if op = 8 then a + b else if op = 9 then a - b else if op = 10 then a * b else if op = 11 then a.fdiv b
 else if op = 12 then (if b = 0 then 0 else a - b * a.fdiv b) else if op = 13 then yy (decide (a = b)) else if op = 14 then yy (decide (a ≠ b))
 else if op = 15 then yy (decide (a < b)) else if op = 16 then yy (decide (a <= b)) else if op = 17 then yy (decide (b < a)) else if op = 18 then yy (decide (b <= a))
 else if op = 19 then yy (decide (a ≠ 0) && decide (b ≠ 0)) else if op = 20 then yy (decide (a ≠ 0) || decide (b ≠ 0)) else if op = 21 then min a b else max a b
def xM (vals : List Int) (op n : Int) (ks : List Int) : Int :=
 if op = 0 then n else if op = 24 then lki vals n.toNat else if op = 6 then -(lki ks 0) else if op = 7 then yy (decide (lki ks 0 = 0))
 else if op = 23 then (if lki ks 0 ≠ 0 then lki ks 1 else lki ks 2)
 else if op = 25 then lki ks (1 + yU (lki ks 0) 0 ((ks.length : Int) - 2)).toNat
 else xp op (lki ks 0) (lki ks 1)
mutual
def xg (vals : List Int) : Tm -> Int
 | .mk op n ks => xM vals op n (zgb vals ks)
def zgb (vals : List Int) : List Tm -> List Int
 | [] => []
 | k :: r => xg vals k :: zgb vals r
end
theorem zdg (vals : List Int) (t : Tm) : xg vals t = xM vals t.op t.n (zgb vals t.kids) := by cases t; rw [xg]; rfl
theorem zdV (vals : List Int) (l : List Tm) : zgb vals l = l.map (xg vals) := by
 induction l with
 | nil => rfl
 | cons x r ih => rw [zgb, ih]; rfl
theorem zbA (vals : List Int) (l : List Tm) : (zgb vals l).length = l.length := by rw [zdV, znk]
theorem zbB {vals : List Int} {l : List Tm} {i : Nat} {k : Tm} (h : l[i]? = some k) : lki (zgb vals l) i = xg vals k := by
 apply zfa; rw [zdV, znh, h]; rfl
structure InV (vs : List Vr) (vals : List Int) : Prop where
 len : vals.length = vs.length
 at_ : ∀ (i : Nat) (v : Vr), vs[i]? = some v -> v.low <= lki vals i /\ lki vals i <= v.high
theorem zgx (a b : Int) (ha : -1048576 <= a /\ a <= 1048576) : (0 <= a -> -a <= a.fdiv b /\ a.fdiv b <= a) /\ (a <= 0 -> a <= a.fdiv b /\ a.fdiv b <= -a) /\ (0 <= a -> 0 <= b -> 0 <= a.fdiv b) := by
 rcases Int.lt_trichotomy b 0 with hb | hb | hb
 ·
  have h1 : a.fdiv b = (-a).ediv (-b) := by
   rw [<- Int.neg_fdiv_neg, Int.fdiv_eq_ediv_of_nonneg _ (by omega)]; rfl
  rw [h1]
  have h2 := Int.mul_ediv_add_emod (-a) (-b)
  have h3 := Int.emod_nonneg (-a) (show -b ≠ 0 by omega)
  have h4 := Int.emod_lt_of_pos (-a) (show 0 < -b by omega)
  change -b * ((-a).ediv (-b)) + (-a).emod (-b) = -a at h2
  change 0 <= (-a).emod (-b) at h3
  change (-a).emod (-b) < -b at h4
  generalize (-a).ediv (-b) = q at *
  generalize (-a).emod (-b) = r at *
  obtain ⟨c, rfl⟩ : ∃ c, b = -c := ⟨-b, by omega⟩
  simp only [Int.neg_neg] at *
  have hc : 0 < c := by omega
  refine ⟨fun h => ⟨?_, ?_⟩, fun h => ⟨?_, ?_⟩, fun h h' => by omega⟩
  ·
   rcases Int.lt_or_le q (-a) with h5 | h5
   ·
    have : c * q <= c * (-a - 1) := Int.mul_le_mul_of_nonneg_left (by omega) (by omega)
    have : c * (-a - 1) <= 1 * (-a - 1) := Int.mul_le_mul_of_nonpos_right (by omega) (by omega)
    have e : c * (-a - 1) = c * (-a) - c := by rw [Int.mul_sub, Int.mul_one]
    have : c * (-a) <= 1 * (-a) := Int.mul_le_mul_of_nonpos_right (by omega) (by omega)
    omega
   . exact h5
  ·
   rcases Int.lt_or_le 0 q with h5 | h5
   ·
    have : c * 1 <= c * q := Int.mul_le_mul_of_nonneg_left (by omega) (by omega)
    omega
   . omega
  ·
   rcases Int.lt_or_le q 0 with h5 | h5
   ·
    have : c * q <= c * (-1) := Int.mul_le_mul_of_nonneg_left (by omega) (by omega)
    omega
   . omega
  ·
   rcases Int.lt_or_le (-a) q with h5 | h5
   ·
    have : c * (-a + 1) <= c * q := Int.mul_le_mul_of_nonneg_left (by omega) (by omega)
    have : 1 * (-a + 1) <= c * (-a + 1) := Int.mul_le_mul_of_nonneg_right (by omega) (by omega)
    omega
   . exact h5
 ·
  subst hb
  simp only [Int.fdiv_zero]
  omega
 ·
  have h1 : a.fdiv b = a.ediv b := Int.fdiv_eq_ediv_of_nonneg _ (by omega)
  rw [h1]
  have h2 := Int.mul_ediv_add_emod a b
  have h3 := Int.emod_nonneg a (show b ≠ 0 by omega)
  have h4 := Int.emod_lt_of_pos a hb
  change b * (a.ediv b) + a.emod b = a at h2
  change 0 <= a.emod b at h3
  change a.emod b < b at h4
  generalize a.ediv b = q at *
  generalize a.emod b = r at *
  have hq : 0 <= a -> 0 <= q := fun h => by
   rcases Int.lt_or_le q 0 with h5 | h5
   ·
    have : b * q <= b * (-1) := Int.mul_le_mul_of_nonneg_left (by omega) (by omega)
    omega
   . exact h5
  refine ⟨fun h => ⟨by have := hq h; omega, ?_⟩, fun h => ⟨?_, ?_⟩, fun h _ => hq h⟩
  ·
   rcases Int.lt_or_le a q with h5 | h5
   ·
    have : b * (a + 1) <= b * q := Int.mul_le_mul_of_nonneg_left (by omega) (by omega)
    have : 1 * (a + 1) <= b * (a + 1) := Int.mul_le_mul_of_nonneg_right (by omega) (by omega)
    omega
   . exact h5
  ·
   rcases Int.lt_or_le q a with h5 | h5
   ·
    have : b * q <= b * (a - 1) := Int.mul_le_mul_of_nonneg_left (by omega) (by omega)
    have : b * (a - 1) <= 1 * (a - 1) := Int.mul_le_mul_of_nonpos_right (by omega) (by omega)
    have e : b * (a - 1) = b * a - b := by rw [Int.mul_sub, Int.mul_one]
    have : b * a <= 1 * a := Int.mul_le_mul_of_nonpos_right (by omega) (by omega)
    omega
   . exact h5
  ·
   rcases Int.lt_or_le 0 q with h5 | h5
   ·
    have : b * 1 <= b * q := Int.mul_le_mul_of_nonneg_left (by omega) (by omega)
    omega
   . omega
theorem zb6 (a b : Int) : (b < 0 -> b < a - b * a.fdiv b /\ a - b * a.fdiv b <= 0) /\ (0 < b -> 0 <= a - b * a.fdiv b /\ a - b * a.fdiv b < b) := by
 have h2 := Int.mul_fdiv_add_fmod a b
 refine ⟨fun hb => ?_, fun hb => ?_⟩
 ·
  have h3 : a.fmod b = -((-a).emod (-b)) := by
   have := Int.neg_fmod_neg (-a) (-b)
   simp only [Int.neg_neg] at this
   rw [this, Int.fmod_eq_emod_of_nonneg _ (by omega)]; rfl
  have h4 := Int.emod_nonneg (-a) (show -b ≠ 0 by omega)
  have h5 := Int.emod_lt_of_pos (-a) (show 0 < -b by omega)
  change 0 <= (-a).emod (-b) at h4
  change (-a).emod (-b) < -b at h5
  omega
 ·
  have h3 : a.fmod b = a.emod b := Int.fmod_eq_emod_of_nonneg _ (by omega)
  have h4 := Int.emod_nonneg a (show b ≠ 0 by omega)
  have h5 := Int.emod_lt_of_pos a hb
  change 0 <= a.emod b at h4
  change a.emod b < b at h5
  omega
theorem zfc {x y a b c d : Int} (hx : a <= x /\ x <= b) (hy : c <= y /\ y <= d) : min (min (a * c) (a * d)) (min (b * c) (b * d)) <= x * y /\ x * y <= max (max (a * c) (a * d)) (max (b * c) (b * d)) := by
 have key : ∀ (u v p q : Int), p <= v -> v <= q -> min (u * p) (u * q) <= u * v /\ u * v <= max (u * p) (u * q) := by
  intro u v p q h1 h2
  rcases Int.le_total 0 u with hu | hu
  ·
   have := Int.mul_le_mul_of_nonneg_left h1 hu
   have := Int.mul_le_mul_of_nonneg_left h2 hu
   omega
  ·
   have := Int.mul_le_mul_of_nonpos_left (a := u) hu h1
   have := Int.mul_le_mul_of_nonpos_left (a := u) hu h2
   omega
 have h1 := key y x a b hx.1 hx.2
 have h2 := key a y c d hy.1 hy.2
 have h3 := key b y c d hy.1 hy.2
 rw [Int.mul_comm y a, Int.mul_comm y b, Int.mul_comm y x] at h1
 omega
theorem zco (x : Rg) : ∀ l : List Rg, ((yP x l).1 <= x.1 /\ x.2 <= (yP x l).2) /\ ∀ r ∈ l, (yP x l).1 <= r.1 /\ r.2 <= (yP x l).2 := by
 intro l
 induction l generalizing x with
 | nil => simp [yP]
 | cons y r ih =>
  have h := ih (min x.1 y.1, max x.2 y.2)
  rw [show yP x (y :: r) = yP (min x.1 y.1, max x.2 y.2) r from rfl]
  refine ⟨by have := h.1; dsimp only at this; omega, fun z hz => ?_⟩
  rcases zng.1 hz with rfl | hz
  . have := h.1; dsimp only at this; omega
  . exact h.2 z hz
theorem zfd {op a b : Int} (h1 : op ≠ 8) (h2 : op ≠ 9) (h3 : op ≠ 10) (h4 : op ≠ 11) (h5 : op ≠ 12) (h6 : op ≠ 21) (h7 : op <= 20) (h8 : 8 <= op) : xp op a b = 0 \/ xp op a b = 1 := by
 have hf : ∀ b, yy b = 0 \/ yy b = 1 := fun b => by cases b <;> simp [yy]
 unfold xp
 rw [zna h1, zna h2, zna h3, zna h4, zna h5]
 (repeat' split); all_goals first | exact hf _ | omega
theorem xL (n : Int) {lo hi : Int} (h : lo <= hi) : lo <= yU n lo hi /\ yU n lo hi <= hi := by
 unfold yU
 (repeat' split); all_goals omega
theorem zgy {vs : List Vr} {vals : List Int} {op n : Int} {ks : List Int} {l : List Rg} (hV : InV vs vals) (hn : NodeOk vs op n l) (hlen : ks.length = l.length) (h23 : op = 23 -> l.length = 3) (hop : op = 0 \/ op = 24 \/ op = 6 \/ op = 7 \/ 8 <= op /\ op <= 22 \/ op = 23 \/ op = 25)
  (hk : ∀ i, i < l.length -> (at2 l i).1 <= lki ks i /\ lki ks i <= (at2 l i).2) : (zi vs op n l).1 <= xM vals op n ks /\ xM vals op n ks <= (zi vs op n l).2 := by
 have hg : ∀ i, i < l.length -> yg (at2 l i) := fun i hi => hn.good _ (zf0 hi)
 have hf : ∀ b, 0 <= yy b /\ yy b <= 1 := fun b => by cases b <;> simp [yy]
 unfold yg at hg
 unfold zi xM
 by_cases c0 : op = 0
 . rw [znb c0, znb c0]; exact ⟨Int.le_refl _, Int.le_refl _⟩
 rw [zna c0, zna c0]
 by_cases c24 : op = 24
 ·
  rw [znb c24, znb c24]
  have h1 := hn.var c24
  obtain ⟨v, hv⟩ : ∃ v, vs[n.toNat]? = some v := ⟨_, zn0 (by omega)⟩
  rw [zeZ hv]
  exact hV.at_ _ _ hv
 rw [zna c24, zna c24]
 by_cases c6 : op = 6
 ·
  have := hn.k1 (.inl c6); have := hk 0 (by omega)
  rw [znb c6, znb c6]; dsimp only; omega
 rw [zna c6, zna c6]
 by_cases c7 : op = 7
 ·
  rw [znb c7]
  repeat rw [zna (by omega)]
  exact hf _
 rw [zna c7]
 by_cases c23 : op = 23
 ·
  have h3 := hn.k3 (.inl c23)
  rw [znb c23]
  repeat rw [zna (show ¬ op = _ by omega)]
  rw [znb (.inl c23)]
  have hm := zco (at2 l 1) (l.drop 2)
  split
  . have := hk 1 (by omega); omega
  ·
   have h2 : 2 < l.length := by have := h23 c23; omega
   have := hk 2 (by omega)
   have := hm.2 (at2 l 2) (by
    unfold at2
    rw [zn0 h2]
    exact List.mem_iff_getElem?.2 ⟨0, by rw [List.getElem?_drop]; exact zn0 h2⟩)
   omega
 rw [zna c23]
 by_cases c25 : op = 25
 ·
  have h3 := hn.k3 (.inr c25)
  rw [znb c25]
  repeat rw [zna (show ¬ op = _ by omega)]
  rw [znb (.inr c25)]
  have hm := zco (at2 l 1) (l.drop 2)
  have hcl := xL (lki ks 0) (show (0 : Int) <= (ks.length : Int) - 2 by omega)
  obtain ⟨j, hj⟩ : ∃ j : Nat, yU (lki ks 0) 0 ((ks.length : Int) - 2) = j := Int.eq_ofNat_of_zero_le hcl.1
  have hj2 : j + 2 <= l.length := by omega
  rw [hj, show (1 + (j : Int)).toNat = j + 1 by omega]
  have := hk (j + 1) (by omega)
  by_cases h2 : j = 0
  . subst h2; have := hm.1; rw [Nat.zero_add] at *; omega
  ·
   have := hm.2 (at2 l (j + 1)) (by
    unfold at2
    rw [zn0 (show j + 1 < l.length by omega)]
    exact List.mem_iff_getElem?.2 ⟨j - 1, by rw [List.getElem?_drop, show 2 + (j - 1) = j + 1 by omega]; exact zn0 (by omega)⟩)
   omega
 rw [zna c25]
 have hb : 8 <= op /\ op <= 22 := by omega
 have hl2 := hn.k2 hb
 have h0 := hk 0 (by omega)
 have h1 := hk 1 (by omega)
 have g0 := hg 0 (by omega)
 have g1 := hg 1 (by omega)
 generalize lki ks 0 = x at *
 generalize lki ks 1 = y at *
 generalize at2 l 0 = r0 at *
 generalize at2 l 1 = r1 at *
 by_cases c8 : op = 8
 . rw [znb c8, xp, znb c8]; dsimp only; omega
 rw [zna c8]
 by_cases c9 : op = 9
 . rw [znb c9, xp, zna c8, znb c9]; dsimp only; omega
 rw [zna c9]
 by_cases c10 : op = 10
 ·
  rw [znb c10, xp, zna c8, zna c9, znb c10]
  have := zfc h0 h1
  unfold xm yP
  simp only [List.foldl_cons, List.foldl_nil]
  omega
 rw [zna c10]
 by_cases c11 : op = 11
 ·
  rw [znb c11, xp, zna c8, zna c9, zna c10, znb c11]
  have := zgx x y (by omega)
  dsimp only
  split <;> omega
 rw [zna c11]
 by_cases c12 : op = 12
 ·
  rw [znb c12, xp, zna c8, zna c9, zna c10, zna c11, znb c12]
  have := zb6 x y
  dsimp only
  generalize x - y * x.fdiv y = m at *
  split <;> split <;> split <;> omega
 rw [zna c12]
 by_cases c21 : op = 21
 ·
  rw [znb c21]
  have e : xp op x y = min x y := by
   unfold xp
   repeat rw [zna (show ¬ op = _ by omega)]
   rw [znb c21]
  rw [e]; dsimp only; omega
 rw [zna c21]
 by_cases c22 : op = 22
 ·
  rw [znb c22]
  have e : xp op x y = max x y := by
   unfold xp
   repeat rw [zna (show ¬ op = _ by omega)]
  rw [e]; dsimp only; omega
 rw [zna c22, zna (by omega)]
 have := zfd (a := x) (b := y) c8 c9 c10 c11 c12 c21 (by omega) (by omega)
 dsimp only; omega
theorem zfe {vs : List Vr} {inp : Bool} (hv : ∀ v ∈ vs, yg (v.low, v.high)) {vals : List Int} (hV : InV vs vals) (t : Tm) : zx vs inp t = true -> ∀ r, rng vs t = some r -> r.1 <= xg vals t /\ xg vals t <= r.2 := by
 induction t using zkQ with
 | h t ih =>
  intro hf r hr
  rw [yN, Bool.and_eq_true, Bool.and_eq_true] at hf
  rw [zas, Option.bind_eq_some_iff] at hr
  obtain ⟨l, h1, h2⟩ := hr
  have hlen := xJ _ _ h1
  have hn : NodeOk vs t.op t.n l := qB hlen hf.1.1 hf.1.2 (fun x hx => by
   obtain ⟨k, hk, hkx⟩ := qL _ _ h1 x hx
   exact qM hv k (yd hf.2 hk) x hkx) hv
  have hfit := hf.1.1
  have zo : ∀ (ks : List Tm) (m : List Rg), jT vs ks = some m -> ∀ (i : Nat) k, ks[i]? = some k -> rng vs k = some (at2 m i) := by
   intro ks
   induction ks with
   | nil => intro m _ i k h; simp at h
   | cons y ys ihy =>
    intro m hm i k hk
    simp only [jT, Option.bind_eq_some_iff, Option.map_eq_some_iff] at hm
    obtain ⟨z, g1, u, g2, rfl⟩ := hm
    cases i with
    | zero => simp at hk; subst hk; simpa [at2] using g1
    | succ i => simp at hk; have := ihy u g2 i k hk; simpa [at2] using this
  have H := zgy (n := t.n) (op := t.op) (ks := zgb vals t.kids) (l := l) hV hn (by rw [zbA, hlen]) (fun h => by
    unfold yE at hfit
    rw [show zp t.op = 3 by unfold zp; rw [h]; rfl] at hfit
    simp at hfit; omega) (by
    by_cases h : 0 <= zp t.op \/ zp t.op = -2
    ·
     unfold zp at h
     repeat' split at h
     all_goals omega
    ·
     exfalso
     have := qK t.op
     rw [yl (.inl (by omega))] at hfit
     cases hfit) (fun i hi => by
    obtain ⟨k, hk⟩ : ∃ k, t.kids[i]? = some k := ⟨_, zn0 (by omega)⟩
    rw [zbB hk]
    exact ih k (zn1 hk) (yd hf.2 (zn1 hk)) _ (zo _ _ h1 i k hk))
  rw [zdg]
  split at h2
  . cases h2; exact H
  . cases h2
end Go.Proofs.YtbkhagigkglgoaaGreatDoor
namespace Go.GL
section
variable {P : Program} {env : Env} {w : World} {dst : Option Tmp} {ty : TypeId} {pos : String} {aft : Array Edge} {g : Option (Nat × Bool)} {t t' : TypeId} {x y : Operand} {m j : Int}
theorem R.quo (hx : ev env x = some (.int .i64 m)) (hy : ev env y = some (.int .i64 j)) (hj : j ≠ 0) (hr : -9223372036854775808 < m /\ m <= 9223372036854775807) : yo P ⟨dst, .binOp .quo t x y t', ty, pos, aft, g⟩ env w (.int .i64 (m.tdiv j)) w := by
 intro n a ha
 have h1 : (m.tdiv j).natAbs <= m.natAbs := Int.natAbs_tdiv_le_natAbs m j
 have h2 : IntKind.i64.wrap (m.tdiv j) = m.tdiv j := xw (by omega)
 simp [execOp, ha.eval hx, ha.eval hy, eqGuard_quo, binOp_quo, Op.intDiv, hj, h2]
theorem R.rem (hx : ev env x = some (.int .i64 m)) (hy : ev env y = some (.int .i64 j)) (hj : j ≠ 0) (_ : -9223372036854775808 < m /\ m <= 9223372036854775807) : yo P ⟨dst, .binOp .rem t x y t', ty, pos, aft, g⟩ env w (.int .i64 (m.tmod j)) w := by
 intro n a ha
 simp [execOp, ha.eval hx, ha.eval hy, eqGuard_rem, binOp_rem, Op.intDiv, hj]
end
theorem zcp (a b : Int) (hb : b ≠ 0) : a.fdiv b = if a.tmod b ≠ 0 /\ (decide (a < 0) ≠ decide (b < 0)) then a.tdiv b - 1 else a.tdiv b := by
 rw [Int.fdiv_eq_tdiv]
 have hd : b ∣ a ↔ a.tmod b = 0 := ⟨Int.tmod_eq_zero_of_dvd, Int.dvd_of_tmod_eq_zero⟩
 by_cases h : b ∣ a
 . rw [znb h, zna (fun h2 => h2.1 (hd.1 h))]; omega
 ·
  have hm : a.tmod b ≠ 0 := fun h2 => h (hd.2 h2)
  rw [zna h]
  by_cases ha : 0 <= a
  ·
   rw [znb ha]
   by_cases hb2 : 0 <= b
   . rw [znb hb2, zna (fun h2 => h2.2 (by rw [znd (by omega), znd (by omega)]))]; omega
   . rw [zna hb2, znb ⟨hm, by rw [znd (by omega), znc (by omega)]; decide⟩]
  ·
   rw [zna ha]
   by_cases hb2 : 0 <= b
   . rw [znb hb2, znb ⟨hm, by rw [znc (by omega), znd (by omega)]; decide⟩, Int.sign_eq_one_of_pos (by omega)]
   . rw [zna hb2, zna (fun h2 => h2.2 (by rw [znc (by omega), znc (by omega)])), Int.sign_eq_neg_one_of_neg (by omega)]; omega
end Go.GL
namespace Go.Proofs.YtbkhagigkglgoaaGreatDoor
open Go.GL
abbrev zcq (a : Int) : Prop := -1048576 <= a /\ a <= 1048576
theorem jF (a b : Int) (w : World) (ha : zcq a) (hb : zcq b) : Calls Tryz.prog 191 #[.int .i64 a, .int .i64 b] w (Ret fun r w' => r = .int .i64 (a.fdiv b) /\ Ext w w') := by
 have hE := Keep.refl (fun _ => False) w
 refine zlr Tryz.func191 O Tryz.ntmps191 O (Gs 12 O (zjn O (fun h0 => ?_) (fun h0 => ?_)))
 ·
  subst h0
  refine Gs 7 O (zjH tr191 O ⟨_, rfl, by rw [Int.fdiv_zero], hE⟩)
 ·
  have hd := zcp a b h0
  have hq : (a.tdiv b).natAbs <= a.natAbs := Int.natAbs_tdiv_le_natAbs a b
  refine Gs 6 O (zlg O O (R.quo O O h0 (by omega)) (Gs 8 O (zlg O O (R.rem O O h0 (by omega)) (Gs 2 O (zlb 15 O (fun h1 => ?_) (fun h1 => ?_))))))
  ·
   refine Gs 8 O (zjn O (fun h2 => ?_) (fun h2 => ?_))
   . refine Ga 13 O (by omega) (zjH tr191 O ⟨_, rfl, by rw [hd, znb ⟨h1, h2⟩], hE⟩)
   . refine Gs 9 O (zjH tr191 O ⟨_, rfl, by rw [hd, zna (fun h => h2 h.2)], hE⟩)
  . refine Gs 18 O (zjH tr191 O ⟨_, rfl, by rw [hd, zna (fun h => h1 h.1)], hE⟩)
theorem kK (a b : Int) (w : World) (ha : zcq a) (hb : zcq b) : Calls Tryz.prog 205 #[.int .i64 a, .int .i64 b] w (Ret fun r w' => r = .int .i64 (a.fdiv b) /\ Ext w w') := by
 have hE := Keep.refl (fun _ => False) w
 refine zlr Tryz.func205 O Tryz.ntmps205 O (Gs 12 O (zjn O (fun h0 => ?_) (fun h0 => ?_)))
 ·
  subst h0
  refine Gs 7 O (zjH tr205 O ⟨_, rfl, by rw [Int.fdiv_zero], hE⟩)
 ·
  have hd := zcp a b h0
  have hq : (a.tdiv b).natAbs <= a.natAbs := Int.natAbs_tdiv_le_natAbs a b
  refine Gs 6 O (zlg O O (R.quo O O h0 (by omega)) (Gs 8 O (zlg O O (R.rem O O h0 (by omega)) (Gs 2 O (zlb 15 O (fun h1 => ?_) (fun h1 => ?_))))))
  ·
   refine Gs 8 O (zjn O (fun h2 => ?_) (fun h2 => ?_))
   . refine Ga 13 O (by omega) (zjH tr205 O ⟨_, rfl, by rw [hd, znb ⟨h1, h2⟩], hE⟩)
   . refine Gs 9 O (zjH tr205 O ⟨_, rfl, by rw [hd, zna (fun h => h2 h.2)], hE⟩)
  . refine Gs 18 O (zjH tr205 O ⟨_, rfl, by rw [hd, zna (fun h => h1 h.1)], hE⟩)
theorem zb7 (a b : Int) (hb : b ≠ 0) : -(a.natAbs : Int) - b.natAbs <= b * a.fdiv b /\ b * a.fdiv b <= (a.natAbs : Int) + b.natAbs := by
 have h := zb6 a b
 generalize b * a.fdiv b = q at *
 omega
theorem zbC (a b : Int) (w : World) (ha : zcq a) (hb : zcq b) : Calls Tryz.prog 192 #[.int .i64 a, .int .i64 b] w (Ret fun r w' => r = .int .i64 (if b = 0 then 0 else a - b * a.fdiv b) /\ Ext w w') := by
 have hE := Keep.refl (fun _ => False) w
 refine zlr Tryz.func192 O Tryz.ntmps192 O (Gs 12 O (zjn O (fun h0 => ?_) (fun h0 => ?_)))
 . refine Gs 7 O (zjH Tryz.results192 O ⟨_, rfl, by rw [znb h0], hE⟩)
 ·
  have hm := zb7 a b h0
  refine Gs 8 O (G.call O Tryz.call191 (jF a b _ ha hb) ?_)
  rintro _ wz1 ⟨rfl, hz1⟩
  replace hE := Tr1 hz1 hE
  refine Ga 6 O (by omega) (zjH Tryz.results192 O ⟨_, rfl, by rw [zna h0], hE⟩)
theorem zcr (a b : Int) (w : World) (ha : zcq a) (hb : zcq b) : Calls Tryz.prog 206 #[.int .i64 a, .int .i64 b] w (Ret fun r w' => r = .int .i64 (if b = 0 then 0 else a - b * a.fdiv b) /\ Ext w w') := by
 have hE := Keep.refl (fun _ => False) w
 refine zlr Tryz.func206 O Tryz.ntmps206 O (Gs 12 O (zjn O (fun h0 => ?_) (fun h0 => ?_)))
 . refine Gs 7 O (zjH Tryz.results206 O ⟨_, rfl, by rw [znb h0], hE⟩)
 ·
  have hm := zb7 a b h0
  refine Gs 8 O (G.call O Tryz.call205 (kK a b _ ha hb) ?_)
  rintro _ wz1 ⟨rfl, hz1⟩
  replace hE := Tr1 hz1 hE
  refine Ga 6 O (by omega) (zjH Tryz.results206 O ⟨_, rfl, by rw [zna h0], hE⟩)
theorem zbD (op a b : Int) (w : World) (ha : zcq a) (hb : zcq b) : Calls Tryz.prog 178 #[.int .i64 op, .int .i64 a, .int .i64 b] w (Ret fun r w' => r = .int .i64 (xp op a b) /\ Ext w w') := by
 have hE := Keep.refl (fun _ => False) w
 have hml := kE ha hb
 refine zls Tryz.func178 O Tryz.ntmps178 O (Gs 18 O (zjn O (fun hh1 => ?_) (fun hh1 => ?_)))
 . refine Ga 11 O (by omega) (zjH tr178 O ⟨_, rfl, by simp [xp, hh1], hE⟩)
 ·
  refine Gs 6 O (zjn O (fun hh2 => ?_) (fun hh2 => ?_))
  . refine Ga 11 O (by omega) (zjH tr178 O ⟨_, rfl, by simp [xp, hh2], hE⟩)
  ·
   refine Gs 6 O (zjn O (fun hh3 => ?_) (fun hh3 => ?_))
   . refine Ga 11 O (by omega) (zjH tr178 O ⟨_, rfl, by simp [xp, hh3], hE⟩)
   ·
    refine Gs 6 O (zjn O (fun hh4 => ?_) (fun hh4 => ?_))
    ·
     refine Gs 4 O (G.call O Tryz.call191 (jF a b _ ha hb) ?_)
     rintro _ wz5 ⟨rfl, hz5⟩
     replace hE := Tr1 hz5 hE
     refine Gs 6 O (zjH tr178 O ⟨_, rfl, by simp [xp, hh4], hE⟩)
    ·
     refine Gs 6 O (zjn O (fun hh6 => ?_) (fun hh6 => ?_))
     ·
      refine Gs 4 O (G.call O Tryz.call192 (zbC a b _ ha hb) ?_)
      rintro _ wz7 ⟨rfl, hz7⟩
      replace hE := Tr1 hz7 hE
      refine Gs 6 O (zjH tr178 O ⟨_, rfl, by simp [xp, hh6], hE⟩)
     ·
      refine Gs 6 O (zjn O (fun hh8 => ?_) (fun hh8 => ?_))
      ·
       refine Gs 5 O (G.call O tc177 (zU _ _) ?_)
       rintro _ wz9 ⟨rfl, hz9⟩
       replace hE := Tr1 hz9 hE
       refine Gs 6 O (zjH tr178 O ⟨_, rfl, by simp [xp, yy, hh8], hE⟩)
      ·
       refine Gs 6 O (zjn O (fun hh10 => ?_) (fun hh10 => ?_))
       ·
        refine Gs 5 O (G.call O tc177 (zU _ _) ?_)
        rintro _ wz11 ⟨rfl, hz11⟩
        replace hE := Tr1 hz11 hE
        refine Gs 6 O (zjH tr178 O ⟨_, rfl, by simp [xp, yy, hh10], hE⟩)
       ·
        refine Gs 6 O (zjn O (fun hh12 => ?_) (fun hh12 => ?_))
        ·
         refine Gs 5 O (G.call O tc177 (zU _ _) ?_)
         rintro _ wz13 ⟨rfl, hz13⟩
         replace hE := Tr1 hz13 hE
         refine Gs 6 O (zjH tr178 O ⟨_, rfl, by simp [xp, yy, hh12], hE⟩)
        ·
         refine Gs 6 O (zjn O (fun hh14 => ?_) (fun hh14 => ?_))
         ·
          refine Gs 5 O (G.call O tc177 (zU _ _) ?_)
          rintro _ wz15 ⟨rfl, hz15⟩
          replace hE := Tr1 hz15 hE
          refine Gs 6 O (zjH tr178 O ⟨_, rfl, by simp [xp, yy, hh14], hE⟩)
         ·
          refine Gs 6 O (zjn O (fun hh16 => ?_) (fun hh16 => ?_))
          ·
           refine Gs 5 O (G.call O tc177 (zU _ _) ?_)
           rintro _ wz17 ⟨rfl, hz17⟩
           replace hE := Tr1 hz17 hE
           refine Gs 6 O (zjH tr178 O ⟨_, rfl, by simp [xp, yy, hh16], hE⟩)
          ·
           refine Gs 6 O (zjn O (fun hh18 => ?_) (fun hh18 => ?_))
           ·
            refine Gs 5 O (G.call O tc177 (zU _ _) ?_)
            rintro _ wz19 ⟨rfl, hz19⟩
            replace hE := Tr1 hz19 hE
            refine Gs 6 O (zjH tr178 O ⟨_, rfl, by simp [xp, yy, hh18], hE⟩)
           ·
            refine Gs 6 O (zjn O (fun hh20 => ?_) (fun hh20 => ?_))
            ·
             refine Gs 5 O (zlb 73 O (fun hh21 => ?_) (fun hh21 => ?_))
             ·
              refine Gs 3 O (G.call O tc177 (zU _ _) ?_)
              rintro _ wz22 ⟨rfl, hz22⟩
              replace hE := Tr1 hz22 hE
              refine Gs 6 O (zjH tr178 O ⟨_, rfl, by simp [xp, yy, hh20, hh21], hE⟩)
             ·
              refine Gs 3 O (G.call O tc177 (zU _ _) ?_)
              rintro _ wz23 ⟨rfl, hz23⟩
              replace hE := Tr1 hz23 hE
              refine Gs 6 O (zjH tr178 O ⟨_, rfl, by simp [xp, yy, hh20, hh21], hE⟩)
            ·
             refine Gs 6 O (zjn O (fun hh24 => ?_) (fun hh24 => ?_))
             ·
              refine Gs 5 O (zlb 82 O (fun hh25 => ?_) (fun hh25 => ?_))
              ·
               refine Gs 3 O (G.call O tc177 (zU _ _) ?_)
               rintro _ wz26 ⟨rfl, hz26⟩
               replace hE := Tr1 hz26 hE
               refine Gs 6 O (zjH tr178 O ⟨_, rfl, by simp [xp, yy, hh24, hh25], hE⟩)
              ·
               refine Gs 3 O (G.call O tc177 (zU _ _) ?_)
               rintro _ wz27 ⟨rfl, hz27⟩
               replace hE := Tr1 hz27 hE
               refine Gs 6 O (zjH tr178 O ⟨_, rfl, by simp [xp, yy, hh24, hh25], hE⟩)
             ·
              refine Gs 6 O (zjn O (fun hh28 => ?_) (fun hh28 => ?_))
              . refine Gs 11 O (zjH tr178 O ⟨_, rfl, by simp [xp, hh28], hE⟩)
              . refine Gs 12 O (zjH tr178 O ⟨_, rfl, by simp [xp, hh1, hh2, hh3, hh4, hh6, hh8, hh10, hh12, hh14, hh16, hh18, hh20, hh24, hh28], hE⟩)
theorem zcs (op a b : Int) (w : World) (ha : zcq a) (hb : zcq b) : Calls Tryz.prog 190 #[.int .i64 op, .int .i64 a, .int .i64 b] w (Ret fun r w' => r = .int .i64 (xp op a b) /\ Ext w w') := by
 have hE := Keep.refl (fun _ => False) w
 have hml := kE ha hb
 refine zls Tryz.func190 O Tryz.ntmps190 O (Gs 18 O (zjn O (fun hh1 => ?_) (fun hh1 => ?_)))
 . refine Ga 11 O (by omega) (zjH tr190 O ⟨_, rfl, by simp [xp, hh1], hE⟩)
 ·
  refine Gs 6 O (zjn O (fun hh2 => ?_) (fun hh2 => ?_))
  . refine Ga 11 O (by omega) (zjH tr190 O ⟨_, rfl, by simp [xp, hh2], hE⟩)
  ·
   refine Gs 6 O (zjn O (fun hh3 => ?_) (fun hh3 => ?_))
   . refine Ga 11 O (by omega) (zjH tr190 O ⟨_, rfl, by simp [xp, hh3], hE⟩)
   ·
    refine Gs 6 O (zjn O (fun hh4 => ?_) (fun hh4 => ?_))
    ·
     refine Gs 4 O (G.call O Tryz.call205 (kK a b _ ha hb) ?_)
     rintro _ wz5 ⟨rfl, hz5⟩
     replace hE := Tr1 hz5 hE
     refine Gs 6 O (zjH tr190 O ⟨_, rfl, by simp [xp, hh4], hE⟩)
    ·
     refine Gs 6 O (zjn O (fun hh6 => ?_) (fun hh6 => ?_))
     ·
      refine Gs 4 O (G.call O Tryz.call206 (zcr a b _ ha hb) ?_)
      rintro _ wz7 ⟨rfl, hz7⟩
      replace hE := Tr1 hz7 hE
      refine Gs 6 O (zjH tr190 O ⟨_, rfl, by simp [xp, hh6], hE⟩)
     ·
      refine Gs 6 O (zjn O (fun hh8 => ?_) (fun hh8 => ?_))
      ·
       refine Gs 5 O (G.call O tc101 (yk _ _) ?_)
       rintro _ wz9 ⟨rfl, hz9⟩
       replace hE := Tr1 hz9 hE
       refine Gs 6 O (zjH tr190 O ⟨_, rfl, by simp [xp, yy, hh8], hE⟩)
      ·
       refine Gs 6 O (zjn O (fun hh10 => ?_) (fun hh10 => ?_))
       ·
        refine Gs 5 O (G.call O tc101 (yk _ _) ?_)
        rintro _ wz11 ⟨rfl, hz11⟩
        replace hE := Tr1 hz11 hE
        refine Gs 6 O (zjH tr190 O ⟨_, rfl, by simp [xp, yy, hh10], hE⟩)
       ·
        refine Gs 6 O (zjn O (fun hh12 => ?_) (fun hh12 => ?_))
        ·
         refine Gs 5 O (G.call O tc101 (yk _ _) ?_)
         rintro _ wz13 ⟨rfl, hz13⟩
         replace hE := Tr1 hz13 hE
         refine Gs 6 O (zjH tr190 O ⟨_, rfl, by simp [xp, yy, hh12], hE⟩)
        ·
         refine Gs 6 O (zjn O (fun hh14 => ?_) (fun hh14 => ?_))
         ·
          refine Gs 5 O (G.call O tc101 (yk _ _) ?_)
          rintro _ wz15 ⟨rfl, hz15⟩
          replace hE := Tr1 hz15 hE
          refine Gs 6 O (zjH tr190 O ⟨_, rfl, by simp [xp, yy, hh14], hE⟩)
         ·
          refine Gs 6 O (zjn O (fun hh16 => ?_) (fun hh16 => ?_))
          ·
           refine Gs 5 O (G.call O tc101 (yk _ _) ?_)
           rintro _ wz17 ⟨rfl, hz17⟩
           replace hE := Tr1 hz17 hE
           refine Gs 6 O (zjH tr190 O ⟨_, rfl, by simp [xp, yy, hh16], hE⟩)
          ·
           refine Gs 6 O (zjn O (fun hh18 => ?_) (fun hh18 => ?_))
           ·
            refine Gs 5 O (G.call O tc101 (yk _ _) ?_)
            rintro _ wz19 ⟨rfl, hz19⟩
            replace hE := Tr1 hz19 hE
            refine Gs 6 O (zjH tr190 O ⟨_, rfl, by simp [xp, yy, hh18], hE⟩)
           ·
            refine Gs 6 O (zjn O (fun hh20 => ?_) (fun hh20 => ?_))
            ·
             refine Gs 5 O (zlb 73 O (fun hh21 => ?_) (fun hh21 => ?_))
             ·
              refine Gs 3 O (G.call O tc101 (yk _ _) ?_)
              rintro _ wz22 ⟨rfl, hz22⟩
              replace hE := Tr1 hz22 hE
              refine Gs 6 O (zjH tr190 O ⟨_, rfl, by simp [xp, yy, hh20, hh21], hE⟩)
             ·
              refine Gs 3 O (G.call O tc101 (yk _ _) ?_)
              rintro _ wz23 ⟨rfl, hz23⟩
              replace hE := Tr1 hz23 hE
              refine Gs 6 O (zjH tr190 O ⟨_, rfl, by simp [xp, yy, hh20, hh21], hE⟩)
            ·
             refine Gs 6 O (zjn O (fun hh24 => ?_) (fun hh24 => ?_))
             ·
              refine Gs 5 O (zlb 82 O (fun hh25 => ?_) (fun hh25 => ?_))
              ·
               refine Gs 3 O (G.call O tc101 (yk _ _) ?_)
               rintro _ wz26 ⟨rfl, hz26⟩
               replace hE := Tr1 hz26 hE
               refine Gs 6 O (zjH tr190 O ⟨_, rfl, by simp [xp, yy, hh24, hh25], hE⟩)
              ·
               refine Gs 3 O (G.call O tc101 (yk _ _) ?_)
               rintro _ wz27 ⟨rfl, hz27⟩
               replace hE := Tr1 hz27 hE
               refine Gs 6 O (zjH tr190 O ⟨_, rfl, by simp [xp, yy, hh24, hh25], hE⟩)
             ·
              refine Gs 6 O (zjn O (fun hh28 => ?_) (fun hh28 => ?_))
              ·
               refine Gs 4 O (G.call O tc113 (zu a b _) ?_)
               rintro _ wz29 ⟨rfl, hz29⟩
               replace hE := Tr1 hz29 hE
               refine Gs 6 O (zjH tr190 O ⟨_, rfl, by simp [xp, hh28], hE⟩)
              ·
               refine Gs 7 O (G.call O tc112 (zT a b _) ?_)
               rintro _ wz30 ⟨rfl, hz30⟩
               replace hE := Tr1 hz30 hE
               refine Gs 4 O (zjH tr190 O ⟨_, rfl, by simp [xp, hh1, hh2, hh3, hh4, hh6, hh8, hh10, hh12, hh14, hh16, hh18, hh20, hh24, hh28], hE⟩)
structure TmOk (vs : List Vr) (vals : List Int) (t : Tm) : Prop where
 ops : t.op = 0 \/ t.op = 24 \/ t.op = 6 \/ t.op = 7 \/ 8 <= t.op /\ t.op <= 22 \/ t.op = 23 \/ t.op = 25
 k1 : t.op = 6 \/ t.op = 7 -> t.kids.length = 1
 k2 : 8 <= t.op /\ t.op <= 22 -> t.kids.length = 2
 k3 : t.op = 23 -> t.kids.length = 3
 k25 : t.op = 25 -> 2 <= t.kids.length /\ t.kids.length <= 33
 var : t.op = 24 -> 0 <= t.n /\ t.n < vs.length
 self : zcq (xg vals t)
 kid : ∀ k ∈ t.kids, zcq (xg vals k)
theorem zjc {vs : List Vr} {inp : Bool} (hv : ∀ v ∈ vs, yg (v.low, v.high)) {vals : List Int} (hV : InV vs vals) {t : Tm} (hf : zx vs inp t = true) (hr : (rng vs t).isSome = true) : TmOk vs vals t /\ ∀ k ∈ t.kids, zx vs inp k = true /\ (rng vs k).isSome = true := by
 obtain ⟨r, hr⟩ := Option.isSome_iff_exists.1 hr
 have hin : ∀ k, zx vs inp k = true -> ∀ r, rng vs k = some r -> zcq (xg vals k) := fun k h1 r h2 => by
  have h3 := zfe hv hV k h1 r h2
  have h4 := qM hv k h1 r h2
  unfold yg at h4
  exact ⟨by omega, by omega⟩
 have hself := hin t hf r hr
 rw [yN, Bool.and_eq_true, Bool.and_eq_true] at hf
 rw [zas, Option.bind_eq_some_iff] at hr
 obtain ⟨l, h1, h2⟩ := hr
 have hlen := xJ _ _ h1
 have hgr : ∀ (ks : List Tm) (m : List Rg), jT vs ks = some m -> ∀ k ∈ ks, (rng vs k).isSome = true := by
  intro ks
  induction ks with
  | nil => intro m _ k h; simp at h
  | cons y ys ihy =>
   intro m hm k hk
   simp only [jT, Option.bind_eq_some_iff, Option.map_eq_some_iff] at hm
   obtain ⟨z, g1, u, g2, rfl⟩ := hm
   rcases zng.1 hk with rfl | hk
   . rw [g1]; rfl
   . exact ihy u g2 k hk
 have hkid : ∀ k ∈ t.kids, zx vs inp k = true /\ (rng vs k).isSome = true := fun k hk => ⟨yd hf.2 hk, hgr _ _ h1 k hk⟩
 have hn : NodeOk vs t.op t.n l := qB hlen hf.1.1 hf.1.2 (fun x hx => by
  obtain ⟨k, hk, hkx⟩ := qL _ _ h1 x hx
  exact qM hv k (yd hf.2 hk) x hkx) hv
 refine ⟨⟨?_, fun h => by rw [<- hlen]; exact hn.k1 h, fun h => by rw [<- hlen]; exact hn.k2 h, fun h => ?_, fun h => by rw [<- hlen]; exact hn.k3 (.inr h), hn.var, hself, fun k hk => ?_⟩, hkid⟩
 ·
  by_cases h : 0 <= zp t.op \/ zp t.op = -2
  ·
   unfold zp at h
   repeat' split at h
   all_goals omega
  ·
   exfalso
   have := qK t.op
   have h3 := hf.1.1
   rw [yl (.inl (by omega))] at h3
   cases h3
 ·
  have h3 := hf.1.1
  unfold yE at h3
  rw [show zp t.op = 3 by unfold zp; rw [h]; rfl] at h3
  simp at h3; omega
 ·
  obtain ⟨h3, h4⟩ := hkid k hk
  obtain ⟨r', h5⟩ := Option.isSome_iff_exists.1 h4
  exact hin k h3 r' h5
def zhH (vals : List Int) (k : Tm) : Prop := ∀ (cs : List Value) (D Dv : Nat -> Prop) (w : World) (vv : Value), SlR 1 zz Dv w vv vals -> RTm D w k cs -> Calls Tryz.prog 148 #[vv, .agg cs.toArray] w (Ret fun r w' => r = .int .i64 (xg vals k) /\ Ext w w')
theorem zir (vals : List Int) (t : Tm) (i : Nat) (k : Tm) (hk : t.kids[i]? = some k) (b2 b3 : Nat) (vv kv : Value) (D Dv : Nat -> Prop) (w : World) (hB2 : Blk w b2 [vv] 31) (hB3 : Blk w b3 [.int .i64 t.op, .int .i64 t.n, kv] 132) (hks : SlR 3 RTm D w kv t.kids) (hvv : SlR 1 zz Dv w vv vals) (ih : zhH vals k) :
  Calls Tryz.prog 176 #[.int .i64 i, .pointer (some ⟨b2, 0, none⟩), .pointer (some ⟨b3, 0, none⟩)] w (Ret fun r w' => r = .int .i64 (xg vals k) /\ Ext w w') := by
 have hE := Keep.refl (fun _ => False) w
 have hi := (zne.1 hk).1
 obtain ⟨a3, c3, rfl⟩ := hks.form
 obtain ⟨bk, ok, ck, hak, _, hck, hRk⟩ := hks.at hk
 obtain ⟨kv', rfl, hkk⟩ := hRk.get
 refine zls Tryz.func176 O Tryz.ntmps176 O (Gs 6 O (Dw (fun q => Ext w q) [] (fun wd1 hD _ => ?_)))
 refine WD.take 0 O (by kernel_rfl) O O O hD (fun w1 hw1 => R.load tg31 O ((hw1.blk hB2 (fun h => h)).cells 0 _ O)) (Ds [1] (by kernel_rfl) O (WD.take 2 O (by kernel_rfl) O O O hD (fun w1 hw1 => R.load tg130 O ((hw1.blk hB3 (fun h => h)).cells 2 _ O)) (Ds [3] (by kernel_rfl) O (zkt 4 O (by kernel_rfl) O O O (fun w1 => zk6 tR130 ts132 O O hak (by omega)) (WD.take 5 O (by kernel_rfl) O O O hD (fun w1 hw1 => zk8 tg132 ts132 O (by rfl) (hw1.cells hck (fun h => h))) (WD.call 6 O (by kernel_rfl) O O O (F.call (vs := [_, _]) tc148 O) (ih _ D Dv _ _ (hvv.ext zb hD) (RTm.put (hkk.ext zj hD))) ?_))))))
 rintro _ wz2 ⟨rfl, hz2⟩
 replace hD := hD.ext hz2
 refine ⟨fun _ => hD, ?_⟩
 refine Ds [7] (by kernel_rfl) O (G.done (by kernel_rfl) ?_ _)
 replace hE := Tr1 hD hE
 refine Gs 2 O (zjH Tryz.results176 O ⟨_, rfl, rfl, hE⟩)
theorem jG {vs : List Vr} {inp : Bool} (hv : ∀ v ∈ vs, yg (v.low, v.high)) {vals : List Int} (hV : InV vs vals) (t : Tm) : zx vs inp t = true -> (rng vs t).isSome = true -> zhH vals t := by
 induction t using zkQ with
 | h t ih =>
 intro hf hr cs D Dv w vv hvv ht
 obtain ⟨ok, hkf⟩ := zjc hv hV hf hr
 have ihk : ∀ k ∈ t.kids, zhH vals k := fun k hk => ih k hk (hkf k hk).1 (hkf k hk).2
 obtain ⟨kv, rfl, hks⟩ := ht.get
 obtain ⟨a3, c3, rfl⟩ := hks.form
 obtain ⟨av, cv, rfl⟩ := hvv.form
 have hve := zdg vals t
 have hops := ok.ops
 have hE := Keep.refl (fun _ => False) w
 refine zlr Tryz.func148 O Tryz.ntmps148 O (Gs 2 O (zkf O O (M.box O O) ?_))
 rintro _ w_b2 ⟨b2, rfl, hg_b2, hs_b2, hB_b2, hk_b2⟩
 have hge_b2 : _ <= b2 := zn6 hE.size (Nat.le_of_eq hg_b2.symm)
 obtain ⟨hE, hks, hvv⟩ := Tr3 hk_b2 hE hks hvv
 refine zkf O O (M.box O O) ?_
 rintro _ w_b3 ⟨b3, rfl, hg_b3, hs_b3, hB_b3, hk_b3⟩
 have hn_b2_b3 : b2 ≠ b3 := by have := hB_b2.lt; omega
 have hge_b3 : _ <= b3 := zn6 hE.size (Nat.le_of_eq hg_b3.symm)
 obtain ⟨hE, hks, hvv, hB_b2⟩ := Tr4 hk_b3 hE hks hvv hB_b2
 refine Gs 13 O (zlk O tg129 (hB_b3.cells 0 _ O) (Gs 9 O ?_))
 have hkid : ∀ (i : Int) (j : Nat) (k : Tm), i = (j : Int) -> t.kids[j]? = some k -> ∀ w', Ext w_b3 w' -> Calls Tryz.prog 176 #[.int .i64 i, .pointer (some ⟨b2, 0, none⟩), .pointer (some ⟨b3, 0, none⟩)] w' (Ret fun r w'' => r = .int .i64 (xg vals k) /\ Ext w' w'') := fun i j k hij hk w' hw' => by
  subst hij
  exact zir vals t j k hk b2 b3 _ _ D Dv w' (hw'.blk hB_b2 (fun h => h)) (hw'.blk hB_b3 (fun h => h)) (hks.ext zj hw') (hvv.ext zb hw') (ihk k (zn1 hk))
 have zo : ∀ i : Nat, i < t.kids.length -> ∃ k, t.kids[i]? = some k /\ lki (zgb vals t.kids) i = xg vals k /\ zcq (xg vals k) := fun i hi => by
  obtain ⟨k, hk⟩ : ∃ k, t.kids[i]? = some k := ⟨_, zn0 hi⟩
  exact ⟨k, hk, zbB hk, ok.kid k (zn1 hk)⟩
 have hX := Keep.refl (fun _ => False) w_b3
 refine zjn O (fun c0 => ?_) (fun c0 => ?_)
 . refine Gs 3 O (zlk O tg3 (hB_b3.cells 1 _ O) (Gs 6 O (zjH tr148 O ⟨_, rfl, by rw [hve, xM, znb c0], hE⟩)))
 ·
  refine Gs 6 O (zjn O (fun c24 => ?_) (fun c24 => ?_))
  ·
   have hn := ok.var c24
   have hln := hV.len
   obtain ⟨bx, ox, cx, hax, _, hcx, rfl⟩ := hvv.at (zfb (l := vals) (i := t.n.toNat) (by omega))
   refine Gs 2 O (zlk O tg31 (hB_b2.cells 0 _ O) (Gs 1 O (zlk O tg3 (hB_b3.cells 1 _ O) (zlg O O (zk6 tR31 ts3 O O hax (by omega)) (zlk O tg3 (hcx 0 _ O) (Gs 6 O (zjH tr148 O ⟨_, rfl, by rw [hve, xM, zna c0, znb c24], hE⟩)))))))
  ·
   refine Gs 6 O (zjn O (fun c6 => ?_) (fun c6 => ?_))
   ·
    have h1 := ok.k1 (.inl c6)
    obtain ⟨k0, hk0, hl0, hi0⟩ := zo 0 (by omega)
    refine Gs 3 O (zkc O tc176 (hkid 0 0 k0 O hk0 _ hX) ?_)
    rintro _ wz1 ⟨rfl, hz1⟩
    obtain ⟨hE, hks, hvv, hB_b2, hB_b3, hX⟩ := Tr6 hz1 hE hks hvv hB_b2 hB_b3 hX
    refine Ga 7 O (by omega) (zjH tr148 O ⟨_, rfl, by rw [hve, xM, zna c0, zna c24, znb c6, hl0], hE⟩)
   ·
    refine Gs 6 O (zjn O (fun c7 => ?_) (fun c7 => ?_))
    ·
     have h1 := ok.k1 (.inr c7)
     obtain ⟨k0, hk0, hl0, hi0⟩ := zo 0 (by omega)
     refine Gs 3 O (zkc O tc176 (hkid 0 0 k0 O hk0 _ hX) ?_)
     rintro _ wz2 ⟨rfl, hz2⟩
     obtain ⟨hE, hks, hvv, hB_b2, hB_b3, hX⟩ := Tr6 hz2 hE hks hvv hB_b2 hB_b3 hX
     refine Gs 1 O (G.call O tc177 (zU _ _) ?_)
     rintro _ wz3 ⟨rfl, hz3⟩
     obtain ⟨hE, hks, hvv, hB_b2, hB_b3, hX⟩ := Tr6 hz3 hE hks hvv hB_b2 hB_b3 hX
     refine Gs 6 O (zjH tr148 O ⟨_, rfl, by rw [hve, xM, zna c0, zna c24, zna c6, znb c7, hl0]; rfl, hE⟩)
    ·
     refine Gs 6 O (zjn O (fun c23 => ?_) (fun c23 => ?_))
     ·
      have h1 := ok.k3 c23
      obtain ⟨k0, hk0, hl0, hi0⟩ := zo 0 (by omega)
      obtain ⟨k1, hk1, hl1, hi1⟩ := zo 1 (by omega)
      obtain ⟨k2, hk2, hl2, hi2⟩ := zo 2 (by omega)
      refine Gs 4 O (zkc O tc176 (hkid 0 0 k0 O hk0 _ hX) ?_)
      rintro _ wz4 ⟨rfl, hz4⟩
      obtain ⟨hE, hks, hvv, hB_b2, hB_b3, hX⟩ := Tr6 hz4 hE hks hvv hB_b2 hB_b3 hX
      refine Gs 3 O (zjn O (fun z => ?_) (fun z => ?_))
      ·
       refine Gs 3 O (zkc O tc176 (hkid 1 1 k1 O hk1 _ hX) ?_)
       rintro _ wz5 ⟨rfl, hz5⟩
       obtain ⟨hE, hks, hvv, hB_b2, hB_b3, hX⟩ := Tr6 hz5 hE hks hvv hB_b2 hB_b3 hX
       refine Gs 7 O (zjH tr148 O ⟨_, rfl, by rw [hve, xM, zna c0, zna c24, zna c6, zna c7, znb c23, hl0, znb z, hl1], hE⟩)
      ·
       refine Gs 5 O (zkc O tc176 (hkid 2 2 k2 O hk2 _ hX) ?_)
       rintro _ wz6 ⟨rfl, hz6⟩
       obtain ⟨hE, hks, hvv, hB_b2, hB_b3, hX⟩ := Tr6 hz6 hE hks hvv hB_b2 hB_b3 hX
       refine Gs 6 O (zjH tr148 O ⟨_, rfl, by rw [hve, xM, zna c0, zna c24, zna c6, zna c7, znb c23, hl0, zna z, hl2], hE⟩)
     ·
      refine Gs 6 O (zjn O (fun c25 => ?_) (fun c25 => ?_))
      ·
       have h1 := ok.k25 c25
       obtain ⟨k0, hk0, hl0, hi0⟩ := zo 0 (by omega)
       have hcl := xL (xg vals k0) (show (0 : Int) <= (t.kids.length : Int) - 2 by omega)
       obtain ⟨kj, hkj, hlj, hij⟩ := zo (1 + yU (xg vals k0) 0 ((t.kids.length : Int) - 2)).toNat (by omega)
       refine Gs 1 O (Dw (fun q => Ext w_b3 q) [] (fun wd7 hD _ => ?_))
       refine Ds [0, 1, 3] (by kernel_rfl) O (WD.take 4 O (by kernel_rfl) O O O hD (fun w1 hw1 => R.load tg130 O ((hw1.blk hB_b3 (fun h => h)).cells 2 _ O)) (Da [5, 6] (by kernel_rfl) O (by omega) (WD.call 2 O (by kernel_rfl) O O O (zkb (vs := [_]) tc176 O O) (hkid 0 0 k0 O hk0 _ (hX.ext hD)) ?_)))
       rintro _ wz8 ⟨rfl, hz8⟩
       replace hD := hD.ext hz8
       refine ⟨fun _ => hD, ?_⟩
       refine WD.call 7 O (by kernel_rfl) O O O (F.call (vs := [_, _, _]) Tryz.call147 O) (qz _ _ _ _ (by omega)) ?_
       rintro _ wz9 ⟨rfl, hz9⟩
       replace hD := hD.ext hz9
       refine ⟨fun _ => hD, ?_⟩
       refine Da [8] (by kernel_rfl) O (by omega) (WD.call 9 O (by kernel_rfl) O O O (zkb (vs := [_]) tc176 O O) (hkid _ _ kj (by omega) hkj _ (hX.ext hD)) ?_)
       rintro _ wz10 ⟨rfl, hz10⟩
       replace hD := hD.ext hz10
       refine ⟨fun _ => hD, ?_⟩
       refine Ds [10] (by kernel_rfl) O (G.done (by kernel_rfl) ?_ _)
       obtain ⟨hE, hks, hvv, hB_b2, hB_b3, hX⟩ := Tr6 hD hE hks hvv hB_b2 hB_b3 hX
       refine Gs 4 O (zjH tr148 O ⟨_, rfl, by rw [hve, xM, zna c0, zna c24, zna c6, zna c7, zna c23, znb c25, hl0, zbA, hlj], hE⟩)
      ·
       have h1 := ok.k2 (by omega)
       obtain ⟨k0, hk0, hl0, hi0⟩ := zo 0 (by omega)
       obtain ⟨k1, hk1, hl1, hi1⟩ := zo 1 (by omega)
       refine Gs 4 O (Dw (fun q => Ext w_b3 q) [] (fun wd11 hD _ => ?_))
       refine Ds [0] (by kernel_rfl) O (WD.take 1 O (by kernel_rfl) O O O hD (fun w1 hw1 => R.load tg129 O ((hw1.blk hB_b3 (fun h => h)).cells 0 _ O)) (Ds [2, 4] (by kernel_rfl) O (WD.call 3 O (by kernel_rfl) O O O (zkb (vs := [_]) tc176 O O) (hkid 0 0 k0 O hk0 _ (hX.ext hD)) ?_)))
       rintro _ wz12 ⟨rfl, hz12⟩
       replace hD := hD.ext hz12
       refine ⟨fun _ => hD, ?_⟩
       refine WD.call 5 O (by kernel_rfl) O O O (zkb (vs := [_]) tc176 O O) (hkid 1 1 k1 O hk1 _ (hX.ext hD)) ?_
       rintro _ wz13 ⟨rfl, hz13⟩
       replace hD := hD.ext hz13
       refine ⟨fun _ => hD, ?_⟩
       refine WD.call 6 O (by kernel_rfl) O O O (F.call (vs := [_, _, _]) Tryz.call178 O) (zbD _ _ _ _ hi0 hi1) ?_
       rintro _ wz14 ⟨rfl, hz14⟩
       replace hD := hD.ext hz14
       refine ⟨fun _ => hD, ?_⟩
       refine Ds [7] (by kernel_rfl) O (G.done (by kernel_rfl) ?_ _)
       obtain ⟨hE, hks, hvv, hB_b2, hB_b3, hX⟩ := Tr6 hD hE hks hvv hB_b2 hB_b3 hX
       refine Gs 2 O (zjH tr148 O ⟨_, rfl, by rw [hve, xM, zna c0, zna c24, zna c6, zna c7, zna c23, zna c25, hl0, hl1], hE⟩)
def ya (time : Int) (s : Int × Bool) (b : Int) : Int × Bool := if time <= b /\ (s.2 = false \/ b < s.1) then (b, true) else s
def xh (bounds : List Int) (time : Int) : Int := (bounds.foldl (ya time) (time, false)).1
theorem zb8 {α β : Type} (f : β -> α -> β) (b : β) {l : List α} {i : Nat} {x : α} (h : l[i]? = some x) : (l.take (i + 1)).foldl f b = f ((l.take i).foldl f b) x := by rw [zg h, List.foldl_append]; rfl
theorem zaY (l : List Int) (time : Int) (v : Value) (D : Nat -> Prop) (w : World) (hl : SlR 1 zz D w v l) : Calls Tryz.prog 151 #[v, .int .i64 time] w (Ret fun r w' => r = .int .i64 (xh l time) /\ Ext w w') := by
 have hmx := hl.max
 obtain ⟨al, cl, rfl⟩ := hl.form
 refine zlr Tryz.func151 O Tryz.ntmps151 O (Gs 21 O (G.loop (σ := Nat × Int × Bool) (fun ⟨i, b, fd⟩ => [(1, .int .i64 time), (5, .int .i64 b), (6, .bool fd), (10, .slice al l.length cl), (11, .int .i64 l.length), (12, .int .i64 i)]) (fun ⟨i, b, fd⟩ => fun w' => i <= l.length /\ (b, fd) = (l.take i).foldl (ya time) (time, false) /\ Ext w w') (fun ⟨i, b, fd⟩ => l.length - i) ((0, time, false)) (zkZ O) (⟨znf _, rfl, Keep.refl _ _⟩) ?_))
 rintro ⟨i, b, fd⟩ w1 ⟨hi, hs, hL1⟩
 show G _ _ _ _ _ [(1, .int .i64 time), (5, .int .i64 b), (6, .bool fd), (10, .slice al l.length cl), (11, .int .i64 l.length), (12, .int .i64 i)] _
 replace hl := Tr1 hL1 hl
 refine Gs 6 O (zjn O (fun hlt => ?_) (fun hge => ?_))
 ·
  obtain ⟨x, he_x⟩ : ∃ x, l[i]? = some x := ⟨_, zn0 (by omega)⟩
  obtain ⟨bx, ox, cx, hax, _, hcx, rfl⟩ := hl.at he_x
  have hst := zb8 (ya time) (time, false) he_x
  rw [<- hs, show ya time (b, fd) x = if time <= x /\ (fd = false \/ x < b) then (x, true) else (b, fd) from rfl] at hst
  refine Gs 6 O (zlg O O (zk6 tR31 ts3 O O hax (by omega)) (zlk O tg3 (hcx 0 _ O) (Gs 9 O (zlb 19 O (fun h1 => ?_) (fun h1 => ?_)))))
  ·
   refine Gs 1 O (zlg O O (zkJ O (by first | exact za | rfl)) (Gs 1 O (zle 22 O (fun h2 => ?_) (fun h2 => ?_))))
   ·
    have h2' : fd = false := by simpa using h2
    refine Ga 19 O (by omega) (zjy ((i + 1, x, true)) (Sub.cons O (Sub.cons O (Sub.cons (by first | rfl | (show some (Value.bool true) = some (Value.bool _); simp [*])) (zkZ O)))) (⟨by omega, by rw [hst, znb ⟨h1, .inl h2'⟩], hL1⟩) (by first | omega | (dsimp only; omega)))
   ·
    have h2' : fd = true := by simpa using h2
    refine Gs 7 O (zjn O (fun h3 => ?_) (fun h3 => ?_))
    . refine Ga 11 O (by omega) (zjy ((i + 1, x, true)) (Sub.cons O (Sub.cons O (Sub.cons (by first | rfl | (show some (Value.bool true) = some (Value.bool _); simp [*])) (zkZ O)))) (⟨by omega, by rw [hst, znb ⟨h1, .inr h3⟩], hL1⟩) (by first | omega | (dsimp only; omega)))
    . refine Ga 7 O (by omega) (zjy ((i + 1, b, fd)) (zkZ O) (⟨by omega, by rw [hst, zna (fun h => h.2.elim (fun h4 => by rw [h2'] at h4; cases h4) h3)], hL1⟩) (by first | omega | (dsimp only; omega)))
  . refine Ga 18 O (by omega) (zjy ((i + 1, b, fd)) (zkZ O) (⟨by omega, by rw [hst, zna (fun h => h1 h.1)], hL1⟩) (by first | omega | (dsimp only; omega)))
 ·
  have : i = l.length := by omega
  subst this
  rw [zn5] at hs
  refine Gs 12 O (zjH Tryz.results151 O ⟨_, rfl, by rw [xh, <- hs], hL1⟩)
theorem zbE (l : List Int) (time : Int) (v : Value) (D : Nat -> Prop) (w : World) (hl : SlR 1 zz D w v l) : Calls Tryz.prog 172 #[v, .int .i64 time] w (Ret fun r w' => r = .int .i64 (xh l time) /\ Ext w w') := by
 have hmx := hl.max
 obtain ⟨al, cl, rfl⟩ := hl.form
 refine zlr Tryz.func172 O Tryz.ntmps172 O (Gs 19 O (G.loop (σ := Nat × Int × Bool) (fun ⟨i, b, fd⟩ => [(0, .slice al l.length cl), (1, .int .i64 time), (5, .int .i64 b), (6, .bool fd), (7, .int .i64 i)]) (fun ⟨i, b, fd⟩ => fun w' => i <= l.length /\ (b, fd) = (l.take i).foldl (ya time) (time, false) /\ Ext w w') (fun ⟨i, b, fd⟩ => l.length - i) ((0, time, false)) (zkZ O) (⟨znf _, rfl, Keep.refl _ _⟩) ?_))
 rintro ⟨i, b, fd⟩ w1 ⟨hi, hs, hL1⟩
 show G _ _ _ _ _ [(0, .slice al l.length cl), (1, .int .i64 time), (5, .int .i64 b), (6, .bool fd), (7, .int .i64 i)] _
 replace hl := Tr1 hL1 hl
 refine Gs 9 O (zjn O (fun hlt => ?_) (fun hge => ?_))
 ·
  obtain ⟨x, he_x⟩ : ∃ x, l[i]? = some x := ⟨_, zn0 (by omega)⟩
  obtain ⟨bx, ox, cx, hax, _, hcx, rfl⟩ := hl.at he_x
  have hst := zb8 (ya time) (time, false) he_x
  rw [<- hs, show ya time (b, fd) x = if time <= x /\ (fd = false \/ x < b) then (x, true) else (b, fd) from rfl] at hst
  refine Gs 8 O (zlg O O (zk6 tR31 ts3 O O hax (by omega)) (zlk O tg3 (hcx 0 _ O) (Gs 3 O (zlb 21 O (fun h1 => ?_) (fun h1 => ?_)))))
  ·
   refine Gs 1 O (zlg O O (zkJ O (by first | exact za | rfl)) (Gs 1 O (zle 24 O (fun h2 => ?_) (fun h2 => ?_))))
   ·
    have h2' : fd = false := by simpa using h2
    refine Gs 14 O (zlg O O (zk6 tR31 ts3 O O hax (by omega)) (zlk O tg3 (hcx 0 _ O) (Ga 10 O (by omega) (zjy ((i + 1, x, true)) (Sub.cons O (Sub.cons O (Sub.cons O (Sub.cons (by first | rfl | (show some (Value.bool true) = some (Value.bool _); simp [*])) (zkZ O))))) (⟨by omega, by rw [hst, znb ⟨h1, .inl h2'⟩], hL1⟩) (by first | omega | (dsimp only; omega))))))
   ·
    have h2' : fd = true := by simpa using h2
    refine Gs 2 O (zlg O O (zk6 tR31 ts3 O O hax (by omega)) (zlk O tg3 (hcx 0 _ O) (Gs 6 O (zjn O (fun h3 => ?_) (fun h3 => ?_)))))
    . refine Gs 3 O (zlg O O (zk6 tR31 ts3 O O hax (by omega)) (zlk O tg3 (hcx 0 _ O) (Ga 10 O (by omega) (zjy ((i + 1, x, true)) (Sub.cons O (Sub.cons O (Sub.cons O (Sub.cons (by first | rfl | (show some (Value.bool true) = some (Value.bool _); simp [*])) (zkZ O))))) (⟨by omega, by rw [hst, znb ⟨h1, .inr h3⟩], hL1⟩) (by first | omega | (dsimp only; omega))))))
    . refine Ga 8 O (by omega) (zjy ((i + 1, b, fd)) (zkZ O) (⟨by omega, by rw [hst, zna (fun h => h.2.elim (fun h4 => by rw [h2'] at h4; cases h4) h3)], hL1⟩) (by first | omega | (dsimp only; omega)))
  . refine Ga 22 O (by omega) (zjy ((i + 1, b, fd)) (zkZ O) (⟨by omega, by rw [hst, zna (fun h => h1 h.1)], hL1⟩) (by first | omega | (dsimp only; omega)))
 ·
  have : i = l.length := by omega
  subst this
  rw [zn5] at hs
  refine Gs 12 O (zjH Tryz.results172 O ⟨_, rfl, by rw [xh, <- hs], hL1⟩)
def zhg (vals : List Int) (k : Tm) : Prop := ∀ (cs : List Value) (D Dv : Nat -> Prop) (w : World) (vv : Value), SlR 1 zz Dv w vv vals -> RTm D w k cs -> Calls Tryz.prog 171 #[vv, .agg cs.toArray] w (Ret fun r w' => r = .int .i64 (xg vals k) /\ Ext w w')
theorem xA {vs : List Vr} {inp : Bool} (hv : ∀ v ∈ vs, yg (v.low, v.high)) {vals : List Int} (hV : InV vs vals) (t : Tm) : zx vs inp t = true -> (rng vs t).isSome = true -> zhg vals t := by
 induction t using zkQ with
 | h t ih =>
 intro hf hr cs D Dv w vv hvv ht
 obtain ⟨ok, hkf⟩ := zjc hv hV hf hr
 have ihk : ∀ k ∈ t.kids, zhg vals k := fun k hk => ih k hk (hkf k hk).1 (hkf k hk).2
 obtain ⟨kv, rfl, hks⟩ := ht.get
 obtain ⟨a3, c3, rfl⟩ := hks.form
 obtain ⟨av, cv, rfl⟩ := hvv.form
 have hve := zdg vals t
 have hops := ok.ops
 have hE := Keep.refl (fun _ => False) w
 refine zlr Tryz.func171 O Tryz.ntmps171 O (Gs 2 O (zkf O O (M.box O O) ?_))
 rintro _ w_b3 ⟨b3, rfl, hg_b3, hs_b3, hB_b3, hk_b3⟩
 have hge_b3 : _ <= b3 := zn6 hE.size (Nat.le_of_eq hg_b3.symm)
 obtain ⟨hE, hks, hvv⟩ := Tr3 hk_b3 hE hks hvv
 refine Gs 7 O (zlk O tg129 (hB_b3.cells 0 _ O) (Gs 9 O ?_))
 have zo : ∀ i : Nat, i < t.kids.length -> ∃ k, t.kids[i]? = some k /\ lki (zgb vals t.kids) i = xg vals k /\ zcq (xg vals k) /\ ∃ b o c v, a3 = some ⟨b, o, none⟩ /\ Cells w_b3 b (o + i * 3) c /\ c = [.int .i64 k.op, .int .i64 k.n, v] /\ SlR 3 RTm D w_b3 v k.kids := fun i hi => by
  obtain ⟨k, hk⟩ : ∃ k, t.kids[i]? = some k := ⟨_, zn0 hi⟩
  obtain ⟨b, o, c, h1, _, h2, h3⟩ := hks.at hk
  obtain ⟨v, h4, h5⟩ := h3.get
  exact ⟨k, hk, zbB hk, ok.kid k (zn1 hk), b, o, c, v, h1, h2, h4, h5⟩
 have hX := Keep.refl (fun _ => False) w_b3
 refine zjn O (fun c0 => ?_) (fun c0 => ?_)
 . refine Gs 3 O (zlk O tg3 (hB_b3.cells 1 _ O) (Gs 6 O (zjH tr171 O ⟨_, rfl, by rw [hve, xM, znb c0], hE⟩)))
 ·
  refine Gs 6 O (zjn O (fun c24 => ?_) (fun c24 => ?_))
  ·
   have hn := ok.var c24
   have hln := hV.len
   obtain ⟨bx, ox, cx, hax, _, hcx, rfl⟩ := hvv.at (zfb (l := vals) (i := t.n.toNat) (by omega))
   refine Gs 4 O (zlk O tg3 (hB_b3.cells 1 _ O) (zlg O O (zk6 tR31 ts3 O O hax (by omega)) (zlk O tg3 (hcx 0 _ O) (Gs 6 O (zjH tr171 O ⟨_, rfl, by rw [hve, xM, zna c0, znb c24], hE⟩)))))
  ·
   refine Gs 6 O (zjn O (fun c6 => ?_) (fun c6 => ?_))
   ·
    have h1 := ok.k1 (.inl c6)
    obtain ⟨k0, hk0, hl0, hi0, b0, o0, _, v0, ha0, hc0, rfl, hs0⟩ := zo 0 (by omega)
    refine Gs 4 O (zlk O tg130 (hB_b3.cells 2 _ O) (zlg O O (zk6 tR130 ts132 O O ha0 (by omega)) (zlm O tg132 ts132 (hX.cells hc0 (fun h => h)) O (G.call O tc171 (ihk k0 (zn1 hk0) _ D Dv _ _ hvv (RTm.put (hs0.ext zj hX))) ?_))))
    rintro _ wz1 ⟨rfl, hz1⟩
    obtain ⟨hE, hks, hvv, hB_b3, hX⟩ := Tr5 hz1 hE hks hvv hB_b3 hX
    refine Ga 7 O (by omega) (zjH tr171 O ⟨_, rfl, by rw [hve, xM, zna c0, zna c24, znb c6, hl0], hE⟩)
   ·
    refine Gs 6 O (zjn O (fun c7 => ?_) (fun c7 => ?_))
    ·
     have h1 := ok.k1 (.inr c7)
     obtain ⟨k0, hk0, hl0, hi0, b0, o0, _, v0, ha0, hc0, rfl, hs0⟩ := zo 0 (by omega)
     refine Gs 4 O (zlk O tg130 (hB_b3.cells 2 _ O) (zlg O O (zk6 tR130 ts132 O O ha0 (by omega)) (zlm O tg132 ts132 (hX.cells hc0 (fun h => h)) O (G.call O tc171 (ihk k0 (zn1 hk0) _ D Dv _ _ hvv (RTm.put (hs0.ext zj hX))) ?_))))
     rintro _ wz2 ⟨rfl, hz2⟩
     obtain ⟨hE, hks, hvv, hB_b3, hX⟩ := Tr5 hz2 hE hks hvv hB_b3 hX
     refine Gs 1 O (G.call O tc101 (yk _ _) ?_)
     rintro _ wz3 ⟨rfl, hz3⟩
     obtain ⟨hE, hks, hvv, hB_b3, hX⟩ := Tr5 hz3 hE hks hvv hB_b3 hX
     refine Gs 6 O (zjH tr171 O ⟨_, rfl, by rw [hve, xM, zna c0, zna c24, zna c6, znb c7, hl0]; rfl, hE⟩)
    ·
     refine Gs 6 O (zjn O (fun c23 => ?_) (fun c23 => ?_))
     ·
      have h1 := ok.k3 c23
      obtain ⟨k0, hk0, hl0, hi0, b0, o0, _, v0, ha0, hc0, rfl, hs0⟩ := zo 0 (by omega)
      obtain ⟨k1, hk1, hl1, hi1, b1, o1, _, v1, ha1, hc1, rfl, hs1⟩ := zo 1 (by omega)
      obtain ⟨k2, hk2, hl2, hi2, b2, o2, _, v2, ha2, hc2, rfl, hs2⟩ := zo 2 (by omega)
      refine Gs 5 O (zlk O tg130 (hB_b3.cells 2 _ O) (zlg O O (zk6 tR130 ts132 O O ha0 (by omega)) (zlm O tg132 ts132 (hX.cells hc0 (fun h => h)) O (G.call O tc171 (ihk k0 (zn1 hk0) _ D Dv _ _ hvv (RTm.put (hs0.ext zj hX))) ?_))))
      rintro _ wz4 ⟨rfl, hz4⟩
      obtain ⟨hE, hks, hvv, hB_b3, hX⟩ := Tr5 hz4 hE hks hvv hB_b3 hX
      refine Gs 3 O (zjn O (fun z => ?_) (fun z => ?_))
      ·
       refine Gs 4 O (zlk O tg130 (hB_b3.cells 2 _ O) (zlg O O (zk6 tR130 ts132 O O ha1 (by omega)) (zlm O tg132 ts132 (hX.cells hc1 (fun h => h)) O (G.call O tc171 (ihk k1 (zn1 hk1) _ D Dv _ _ hvv (RTm.put (hs1.ext zj hX))) ?_))))
       rintro _ wz5 ⟨rfl, hz5⟩
       obtain ⟨hE, hks, hvv, hB_b3, hX⟩ := Tr5 hz5 hE hks hvv hB_b3 hX
       refine Gs 7 O (zjH tr171 O ⟨_, rfl, by rw [hve, xM, zna c0, zna c24, zna c6, zna c7, znb c23, hl0, znb z, hl1], hE⟩)
      ·
       refine Gs 6 O (zlk O tg130 (hB_b3.cells 2 _ O) (zlg O O (zk6 tR130 ts132 O O ha2 (by omega)) (zlm O tg132 ts132 (hX.cells hc2 (fun h => h)) O (G.call O tc171 (ihk k2 (zn1 hk2) _ D Dv _ _ hvv (RTm.put (hs2.ext zj hX))) ?_))))
       rintro _ wz6 ⟨rfl, hz6⟩
       obtain ⟨hE, hks, hvv, hB_b3, hX⟩ := Tr5 hz6 hE hks hvv hB_b3 hX
       refine Gs 6 O (zjH tr171 O ⟨_, rfl, by rw [hve, xM, zna c0, zna c24, zna c6, zna c7, znb c23, hl0, zna z, hl2], hE⟩)
     ·
      refine Gs 6 O (zjn O (fun c25 => ?_) (fun c25 => ?_))
      ·
       have h1 := ok.k25 c25
       obtain ⟨k0, hk0, hl0, hi0, b0, o0, _, v0, ha0, hc0, rfl, hs0⟩ := zo 0 (by omega)
       have hcl := xL (xg vals k0) (show (0 : Int) <= (t.kids.length : Int) - 2 by omega)
       obtain ⟨kj, hkj, hlj, hij, bj, oj, _, vj, haj, hcj, rfl, hsj⟩ := zo (1 + yU (xg vals k0) 0 ((t.kids.length : Int) - 2)).toNat (by omega)
       refine Gs 1 O (Dw (fun q => Ext w_b3 q) [] (fun wd7 hD _ => ?_))
       refine Ds [0, 1] (by kernel_rfl) O (WD.take 2 O (by kernel_rfl) O O O hD (fun w1 hw1 => R.load tg130 O ((hw1.blk hB_b3 (fun h => h)).cells 2 _ O)) (Ds [3, 4] (by kernel_rfl) O (WD.take 5 O (by kernel_rfl) O O O hD (fun w1 hw1 => R.load tg130 O ((hw1.blk hB_b3 (fun h => h)).cells 2 _ O)) (zkt 6 O (by kernel_rfl) O O O (fun w1 => zk6 tR130 ts132 O O ha0 (by omega)) (WD.take 7 O (by kernel_rfl) O O O hD (fun w1 hw1 => zk8 tg132 ts132 O (by rfl) ((hX.ext hw1).cells hc0 (fun h => h))) ?_)))))
       refine Ds [9] (by kernel_rfl) O (WD.take 10 O (by kernel_rfl) O O O hD (fun w1 hw1 => R.load tg130 O ((hw1.blk hB_b3 (fun h => h)).cells 2 _ O)) (Da [11, 12] (by kernel_rfl) O (by omega) (WD.call 8 O (by kernel_rfl) O O O (F.call (vs := [_, _]) tc171 O) (ihk k0 (zn1 hk0) _ D Dv _ _ (hvv.ext zb hD) (RTm.put (hs0.ext zj (hX.ext hD)))) ?_)))
       rintro _ wz8 ⟨rfl, hz8⟩
       replace hD := hD.ext hz8
       refine ⟨fun _ => hD, ?_⟩
       refine WD.call 13 O (by kernel_rfl) O O O (F.call (vs := [_, _, _]) Tryz.call173 O) (jW _ _ _ _) ?_
       rintro _ wz9 ⟨rfl, hz9⟩
       replace hD := hD.ext hz9
       refine ⟨fun _ => hD, ?_⟩
       refine Da [14] (by kernel_rfl) O (by omega) (zkt 15 O (by kernel_rfl) O O O (fun w1 => zk6 tR130 ts132 O O haj (by omega)) (WD.take 16 O (by kernel_rfl) O O O hD (fun w1 hw1 => zk8 tg132 ts132 O (by rfl) ((hX.ext hw1).cells hcj (fun h => h))) (WD.call 17 O (by kernel_rfl) O O O (F.call (vs := [_, _]) tc171 O) (ihk kj (zn1 hkj) _ D Dv _ _ (hvv.ext zb hD) (RTm.put (hsj.ext zj (hX.ext hD)))) ?_)))
       rintro _ wz10 ⟨rfl, hz10⟩
       replace hD := hD.ext hz10
       refine ⟨fun _ => hD, ?_⟩
       refine Ds [18] (by kernel_rfl) O (G.done (by kernel_rfl) ?_ _)
       obtain ⟨hE, hks, hvv, hB_b3, hX⟩ := Tr5 hD hE hks hvv hB_b3 hX
       refine Gs 4 O (zjH tr171 O ⟨_, rfl, by rw [hve, xM, zna c0, zna c24, zna c6, zna c7, zna c23, znb c25, hl0, zbA, hlj], hE⟩)
      ·
       have h1 := ok.k2 (by omega)
       obtain ⟨k0, hk0, hl0, hi0, b0, o0, _, v0, ha0, hc0, rfl, hs0⟩ := zo 0 (by omega)
       obtain ⟨k1, hk1, hl1, hi1, b1, o1, _, v1, ha1, hc1, rfl, hs1⟩ := zo 1 (by omega)
       refine Gs 4 O (Dw (fun q => Ext w_b3 q) [] (fun wd11 hD _ => ?_))
       refine Ds [0] (by kernel_rfl) O (WD.take 1 O (by kernel_rfl) O O O hD (fun w1 hw1 => R.load tg129 O ((hw1.blk hB_b3 (fun h => h)).cells 0 _ O)) (Ds [2, 3] (by kernel_rfl) O (WD.take 4 O (by kernel_rfl) O O O hD (fun w1 hw1 => R.load tg130 O ((hw1.blk hB_b3 (fun h => h)).cells 2 _ O)) (zkt 5 O (by kernel_rfl) O O O (fun w1 => zk6 tR130 ts132 O O ha0 (by omega)) (WD.take 6 O (by kernel_rfl) O O O hD (fun w1 hw1 => zk8 tg132 ts132 O (by rfl) ((hX.ext hw1).cells hc0 (fun h => h))) ?_)))))
       refine Ds [8, 9] (by kernel_rfl) O (WD.take 10 O (by kernel_rfl) O O O hD (fun w1 hw1 => R.load tg130 O ((hw1.blk hB_b3 (fun h => h)).cells 2 _ O)) (zkt 11 O (by kernel_rfl) O O O (fun w1 => zk6 tR130 ts132 O O ha1 (by omega)) (WD.take 12 O (by kernel_rfl) O O O hD (fun w1 hw1 => zk8 tg132 ts132 O (by rfl) ((hX.ext hw1).cells hc1 (fun h => h))) (WD.call 7 O (by kernel_rfl) O O O (F.call (vs := [_, _]) tc171 O) (ihk k0 (zn1 hk0) _ D Dv _ _ (hvv.ext zb hD) (RTm.put (hs0.ext zj (hX.ext hD)))) ?_))))
       rintro _ wz12 ⟨rfl, hz12⟩
       replace hD := hD.ext hz12
       refine ⟨fun _ => hD, ?_⟩
       refine WD.call 13 O (by kernel_rfl) O O O (F.call (vs := [_, _]) tc171 O) (ihk k1 (zn1 hk1) _ D Dv _ _ (hvv.ext zb hD) (RTm.put (hs1.ext zj (hX.ext hD)))) ?_
       rintro _ wz13 ⟨rfl, hz13⟩
       replace hD := hD.ext hz13
       refine ⟨fun _ => hD, ?_⟩
       refine WD.call 14 O (by kernel_rfl) O O O (F.call (vs := [_, _, _]) Tryz.call190 O) (zcs _ _ _ _ hi0 hi1) ?_
       rintro _ wz14 ⟨rfl, hz14⟩
       replace hD := hD.ext hz14
       refine ⟨fun _ => hD, ?_⟩
       refine Ds [15] (by kernel_rfl) O (G.done (by kernel_rfl) ?_ _)
       obtain ⟨hE, hks, hvv, hB_b3, hX⟩ := Tr5 hD hE hks hvv hB_b3 hX
       refine Gs 2 O (zjH tr171 O ⟨_, rfl, by rw [hve, xM, zna c0, zna c24, zna c6, zna c7, zna c23, zna c25, hl0, hl1], hE⟩)
end Go.Proofs.YtbkhagigkglgoaaGreatDoor
namespace Go.GL
def xq (r : Ins) (k : Int) : List Int := if k = 1 then r.secret else if k = 2 then r.pub else r.random
structure StS where
 vals : List Int
 a : Nat
 b : Nat
 c : Nat
def jH (s : StS) (k : Int) : Nat := if k = 1 then s.a else if k = 2 then s.b else s.c
def jf (s : StS) (k : Int) (n : Int) : StS := if k = 1 then ⟨s.vals ++ [n], s.a + 1, s.b, s.c⟩ else if k = 2 then ⟨s.vals ++ [n], s.a, s.b + 1, s.c⟩ else ⟨s.vals ++ [n], s.a, s.b, s.c + 1⟩
def zq (r : Ins) (o : Option StS) (v : Vr) : Option StS := o.bind fun s => if v.kind = 0 then some { s with vals := s.vals ++ [v.init] } else ((xq r v.kind)[jH s v.kind]?).map fun n => jf s v.kind n
def jI (vs : List Vr) (r : Ins) : Option StS := vs.foldl (zq r) (some ⟨[], 0, 0, 0⟩)
def inB (p : Vr × Int) : Bool := decide (p.1.low <= p.2) && decide (p.2 <= p.1.high)
def yC (vs : List Vr) (r : Ins) (s : StS) : Int := if s.a ≠ r.secret.length \/ s.b ≠ r.pub.length \/ s.c ≠ r.random.length then 1 else if (vs.zip s.vals).all inB then 0 else 3
def zt (vs : List Vr) (r : Ins) : Int := match jI vs r with
 | none => 1
 | some s => yC vs r s
def yt (vs : List Vr) (r : Ins) : List Int := match jI vs r with
 | none => []
 | some s => s.vals
theorem zeq (r : Ins) (vs : List Vr) : vs.foldl (zq r) none = none := by
 induction vs with
 | nil => rfl
 | cons x t ih => rw [List.foldl_cons]; exact ih
theorem zaC {vs : List Vr} {r : Ins} {i : Nat} (h : (vs.take i).foldl (zq r) (some ⟨[], 0, 0, 0⟩) = none) : jI vs r = none := by
 have := List.take_append_drop i vs
 rw [jI, <- this, List.foldl_append, h, zeq]
theorem jg {vs : List Vr} {r : Ins} {i : Nat} {x : Vr} (h : vs[i]? = some x) {s : StS} (hs : (vs.take i).foldl (zq r) (some ⟨[], 0, 0, 0⟩) = some s) : (vs.take (i + 1)).foldl (zq r) (some ⟨[], 0, 0, 0⟩) = if x.kind = 0 then some { s with vals := s.vals ++ [x.init] } else ((xq r x.kind)[jH s x.kind]?).map fun n => jf s x.kind n := by
 rw [zg h, List.foldl_append, hs]; rfl
theorem kh (s : StS) (k n : Int) : (jf s k n).vals = s.vals ++ [n] := by
 unfold jf
 (repeat' split); all_goals rfl
theorem ki {vs : List Vr} {r : Ins} : ∀ (i : Nat) (s : StS), i <= vs.length -> (vs.take i).foldl (zq r) (some ⟨[], 0, 0, 0⟩) = some s -> s.vals.length = i /\ s.a <= i /\ s.b <= i /\ s.c <= i := by
 intro i
 induction i with
 | zero => intro s _ h; simp at h; subst h; simp
 | succ i ih =>
  intro s hi h
  obtain ⟨x, hx⟩ : ∃ x, vs[i]? = some x := ⟨_, zn0 (by omega)⟩
  cases h1 : (vs.take i).foldl (zq r) (some ⟨[], 0, 0, 0⟩) with
  | none => rw [zg hx, List.foldl_append, h1] at h; cases h
  | some s0 =>
   obtain ⟨e1, e2, e3, e4⟩ := ih s0 (by omega) h1
   rw [jg hx h1] at h
   split at h
   . cases h; simp; omega
   ·
    obtain ⟨n, _, rfl⟩ := Option.map_eq_some_iff.1 h
    unfold jf
    (repeat' split); all_goals (simp; omega)
theorem zct (s : StS) {k k' : Int} (hk : 1 <= k /\ k <= 3) (hk' : 1 <= k' /\ k' <= 3) (n : Int) : jH (jf s k n) k' = if k' = k then jH s k' + 1 else jH s k' := by
 have h1 : k = 1 \/ k = 2 \/ k = 3 := by omega
 have h2 : k' = 1 \/ k' = 2 \/ k' = 3 := by omega
 rcases h1 with rfl | rfl | rfl <;> rcases h2 with rfl | rfl | rfl <;> simp [jf, jH]
theorem zff {vs : List Vr} {r : Ins} (hkd : ∀ v ∈ vs, 0 <= v.kind /\ v.kind <= 3) : ∀ (i : Nat) (s : StS), i <= vs.length -> (vs.take i).foldl (zq r) (some ⟨[], 0, 0, 0⟩) = some s -> ∀ k, 1 <= k -> k <= 3 -> jH s k <= (xq r k).length := by
 intro i
 induction i with
 | zero => intro s _ h k _ _; simp at h; subst h; unfold jH; (repeat' split); all_goals simp
 | succ i ih =>
  intro s hi h k hk1 hk3
  obtain ⟨x, hx⟩ : ∃ x, vs[i]? = some x := ⟨_, zn0 (by omega)⟩
  have hkx := hkd x (zn1 hx)
  cases h1 : (vs.take i).foldl (zq r) (some ⟨[], 0, 0, 0⟩) with
  | none => rw [zg hx, List.foldl_append, h1] at h; cases h
  | some s0 =>
   have e1 := ih s0 (by omega) h1 k hk1 hk3
   rw [jg hx h1] at h
   split at h
   . cases h; exact e1
   ·
    obtain ⟨n, hn, rfl⟩ := Option.map_eq_some_iff.1 h
    have := (zne.1 hn).1
    rw [zct s0 (k := x.kind) (by omega) ⟨hk1, hk3⟩]
    split
    . rename_i h2; subst h2; omega
    . exact e1
theorem zcu {α : Type} [DecidableEq α] : ∀ {l l' : List α}, l.Nodup -> (∀ x ∈ l, x ∈ l') -> l.length <= l'.length
 | [], _, _, _ => znf _
 | x :: r, l', h, hs => by
  rw [List.nodup_cons] at h
  have h1 := hs x (zn4 ..)
  have h2 := zcu (l := r) (l' := l'.erase x) h.2 (fun y hy => by
   refine (List.mem_erase_of_ne ?_).2 (hs y (zn3 _ hy))
   rintro rfl; exact h.1 hy)
  rw [List.length_erase_of_mem h1] at h2
  have := List.length_pos_of_mem h1
  simp only [zns]; omega
theorem RanI.len {w : World} {it m : Nat} {l : List (Int × Value)} {seen : List Int} {cur : Option (Int × Value)} (h : RanI w it m l seen cur) : seen.length <= l.length := by
 obtain ⟨es, c, since, sb, c0, h1, h2, h3, h4, h5, h6, h7, h8, h9, h10, h11, _⟩ := h
 have := zcu (l := seen) (l' := l.map (·.1)) h10 (fun k hk => by
  obtain ⟨v, hv⟩ := h11 k hk
  exact List.mem_map.2 ⟨(k, v), zdU hv, rfl⟩)
 simpa using this
theorem zgz {vs : List Vr} {i : Nat} {x : Vr} (hx : vs[i]? = some x) (vals : List Int) (hv : vals.length = i) (n : Int) : ((vs.take (i + 1)).zip (vals ++ [n])).all inB = (((vs.take i).zip vals).all inB && inB (x, n)) := by
 have hi := (zne.1 hx).1
 rw [zg hx, List.zip_append (by rw [znt]; omega), List.all_append]; simp
end Go.GL
namespace Go.Proofs.YtbkhagigkglgoaaGreatDoor
open Go.GL
def RestI (D : Nat -> Prop) (r : Ins) (s : StS) (w : World) (m : Nat) (l : List (Int × Value)) : Prop :=
 MapI w m l /\ (∀ k, 1 <= k -> k <= 3 -> ∃ v, zdT l k = some v /\ SlR 1 zz D w v ((xq r k).drop (jH s k))) /\ ∀ p ∈ l, 1 <= p.1 /\ p.1 <= 3
theorem RestI.ext {D : Nat -> Prop} {r : Ins} {s : StS} {w w' : World} {m : Nat} {l : List (Int × Value)} (h : RestI D r s w m l) (hk : Ext w w') : RestI D r s w' m l :=
 ⟨h.1.ext hk, fun k h1 h3 => by obtain ⟨v, h4, h5⟩ := h.2.1 k h1 h3; exact ⟨v, h4, h5.ext zb hk⟩, h.2.2⟩
theorem RestI.keep {D : Nat -> Prop} {r : Ins} {s : StS} {w w' : World} {S : Nat -> Prop} {m : Nat} {l : List (Int × Value)} (h : RestI D r s w m l) (hk : Keep S w w') (hm : ¬ S m) (hD : ∀ q, D q -> ¬ S q) : RestI D r s w' m l :=
 ⟨h.1.keep hk hm, fun k h1 h3 => by obtain ⟨v, h4, h5⟩ := h.2.1 k h1 h3; exact ⟨v, h4, h5.keep zb hk (fun q hq _ => hD q hq)⟩, h.2.2⟩
end Go.Proofs.YtbkhagigkglgoaaGreatDoor
namespace Go.GL
structure Sg where
 vals : List Int
 outs : List Int
 time : Int
end Go.GL
namespace Go.Proofs.YtbkhagigkglgoaaGreatDoor
open Go.GL
abbrev ze : Int -> Value := .int .i64
structure WkV where
 (W m : Nat) (v1 v2 v3 sv vv hv ov : Value) (rm : List (Int × Value))
def jh (vs : List Vr) (vals : List Int) (v n : Int) : List Int := match vs[v.toNat]? with
 | some x => vals.set v.toNat (yU n x.low x.high)
 | none => vals
theorem InV.set {vs : List Vr} {vals : List Int} (hg : ∀ v ∈ vs, yg (v.low, v.high)) (h : InV vs vals) (v n : Int) : InV vs (jh vs vals v n) := by
 unfold jh
 cases hx : vs[v.toNat]? with
 | none => exact h
 | some x =>
  have hgx := hg x (zn1 hx)
  unfold yg at hgx
  have hc := xL n (show x.low <= x.high from hgx.2.1)
  refine ⟨by simp [h.len], fun i y hy => ?_⟩
  simp only [lki, List.getElem?_set]
  by_cases hi : v.toNat = i
  ·
   subst hi
   rw [hx] at hy; cases hy
   have := (zne.1 hx).1
   rw [znb rfl, znb (by rw [h.len]; exact this)]
   exact hc
  ·
   rw [zna hi]
   exact h.at_ i y hy
def xR (f : Fl) (hs : List Int) (s : St) (σ : Sg) : Sg :=
 if s.act = 0 then { σ with vals := jh f.vars σ.vals s.var (xg σ.vals s.term), time := σ.time + s.cost }
 else if s.act = 1 then { σ with outs := σ.outs ++ [xg σ.vals s.term], time := σ.time + s.cost }
 else if s.act = 5 then { σ with vals := jh f.vars σ.vals s.var (lki hs s.n.toNat), time := σ.time + s.cost }
 else if s.act = 6 then { σ with time := xh s.bounds (σ.time + s.cost) }
 else { σ with time := σ.time + s.cost }
structure StepOk (f : Fl) (s : St) : Prop where
 formed : zx f.vars false s.term = true
 ranged : (rng f.vars s.term).isSome = true
 small : s.term.nodes <= 1000000
 cost : 0 <= s.cost /\ s.cost <= 67108864
 var : s.act = 0 \/ s.act = 5 -> 0 <= s.var /\ s.var < f.vars.length
 num : s.act = 5 -> 0 <= s.n /\ s.n < f.hatches.length
structure WkM (w : World) (z z' : WkV) : Prop where
 W : z'.W = z.W
 m : z'.m = z.m
 vv : z'.vv = z.vv
 v1 : z'.v1 = z.v1
 sv : z'.sv = z.sv
 hv : z'.hv = z.hv
 ov : z'.ov.ownBlock = z.ov.ownBlock \/ ∃ g, z'.ov.ownBlock = some g /\ w.heap.size <= g
theorem WkM.refl (w : World) (z : WkV) : WkM w z z := ⟨rfl, rfl, rfl, rfl, rfl, rfl, .inl rfl⟩
def zig (rd : Int -> Int) (k n : Int) : Int -> Int := fun j => if j = k then n else rd j
def zhI (f : Fl) (hs : List Int) (x : Nd) (s : St) (σ : Sg) (rd : Int -> Int) : Int × Sg × (Int -> Int) :=
 if x.kind = 0 then (x.next, σ, rd)
 else if x.kind = 2 then (x.next, xR f hs s σ, rd)
 else if x.kind = 4 then (x.next, σ, zig rd x.at_ 0)
 else if x.kind = 5 /\ rd x.at_ = s.n then (x.other, σ, rd)
 else (if xg σ.vals s.term ≠ 0 then x.next else x.other, { σ with time := σ.time + s.cost }, if x.kind = 5 then zig rd x.at_ (rd x.at_ + 1) else rd)
def RdM (rm : List (Int × Value)) (rd : Int -> Int) : Prop := ∀ k, (zdT rm k).getD (.int .i64 0) = .int .i64 (rd k)
theorem RdM.upd {rm : List (Int × Value)} {rd : Int -> Int} (h : RdM rm rd) (hn : (rm.map (·.1)).Nodup) (k n : Int) : RdM (zhG rm k (.int .i64 n)) (zig rd k n) := by
 intro j
 rw [zf9 hn]
 unfold zig
 by_cases e : j = k
 . rw [znb e, znb e]; rfl
 . rw [zna e, zna e]; exact h j
def xi (body : Sg -> Sg) (cost : Int) (t : Tm) : Nat -> Sg -> Sg
 | 0, σ => σ
 | k + 1, σ => if xg σ.vals t = 0 then { σ with time := σ.time + cost } else xi body cost t k (body { σ with time := σ.time + cost })
section
variable (f : Fl) (hs : List Int)
mutual
def exS : St -> Sg -> Sg
 | .mk a c v n t th el b, σ =>
  if a = 3 then (if xg σ.vals t ≠ 0 then exL th { σ with time := σ.time + c } else exL el { σ with time := σ.time + c })
  else if a = 4 then xi (fun σ => exL th σ) c t n.toNat σ
  else xR f hs (.mk a c v n t th el b) σ
def exL : List St -> Sg -> Sg
 | [], σ => σ
 | s :: r, σ => exL r (exS s σ)
end
theorem xl (s : St) (σ : Sg) : exS f hs s σ = if s.act = 3 then (if xg σ.vals s.term ≠ 0 then exL f hs s.thn { σ with time := σ.time + s.cost } else exL f hs s.els { σ with time := σ.time + s.cost })
  else if s.act = 4 then xi (exL f hs s.thn) s.cost s.term s.n.toNat σ else xR f hs s σ := by cases s; rw [exS]; rfl
structure Mc where
 at_ : Int
 σ : Sg
 rd : Int -> Int
def noSt : St := .mk 0 0 0 0 (.mk 0 0 []) [] [] []
def zih (g : List Nd) (k : Int) : Nd := g[k.toNat]?.getD ⟨1, -1, -1, -1⟩
def zhJ (f : Fl) (k : Int) : St := (jU f.body)[k.toNat]?.getD noSt
def zhK (g : List Nd) (m : Mc) : Mc :=
 ⟨(zhI f hs (zih g m.at_) (zhJ f (zih g m.at_).at_) m.σ m.rd).1, (zhI f hs (zih g m.at_) (zhJ f (zih g m.at_).at_) m.σ m.rd).2.1, (zhI f hs (zih g m.at_) (zhJ f (zih g m.at_).at_) m.σ m.rd).2.2⟩
def zdh (g : List Nd) : Nat -> Mc -> Mc
 | 0, m => m
 | k + 1, m => zdh g k (zhK f hs g m)
theorem zaD (g : List Nd) : ∀ (a b : Nat) (m : Mc), zdh f hs g (a + b) m = zdh f hs g b (zdh f hs g a m)
 | 0, b, m => by rw [Nat.zero_add]; rfl
 | a + 1, b, m => by rw [show a + 1 + b = (a + b) + 1 by omega]; exact zaD g a b (zhK f hs g m)
def Goes (g : List Nd) (lo hi : Int) (k : Nat) (m m' : Mc) : Prop := zdh f hs g k m = m' /\ ∀ j, j < k -> lo <= (zdh f hs g j m).at_ /\ (zdh f hs g j m).at_ < hi
end
section
variable {f : Fl} {hs : List Int} {g : List Nd} {lo hi : Int} {k k' : Nat} {m m' m'' : Mc}
theorem Goes.refl (m : Mc) : Goes f hs g lo hi 0 m m := ⟨rfl, fun _ h => absurd h (Nat.not_lt_zero _)⟩
theorem Goes.trans (h : Goes f hs g lo hi k m m') (h' : Goes f hs g lo hi k' m' m'') : Goes f hs g lo hi (k + k') m m'' := by
 refine ⟨by rw [zaD, h.1, h'.1], fun j hj => ?_⟩
 by_cases hjk : j < k
 . exact h.2 j hjk
 ·
  obtain ⟨i, rfl⟩ : ∃ i, j = k + i := ⟨j - k, by omega⟩
  rw [zaD, h.1]
  exact h'.2 i (by omega)
theorem Goes.one (h : zhK f hs g m = m') (h1 : lo <= m.at_ /\ m.at_ < hi) : Goes f hs g lo hi 1 m m' := by
 refine ⟨h, fun j hj => ?_⟩
 obtain rfl : j = 0 := by omega
 exact h1
end
mutual
def nbS : St -> Nat
 | .mk a _ _ n _ th el _ => if a = 3 then 1 + max (nbL th) (nbL el) else if a = 4 then 2 + n.toNat * (1 + nbL th) else 1
def nbL : List St -> Nat
 | [] => 0
 | s :: r => nbS s + nbL r
end
theorem zcv (s : St) : nbS s = if s.act = 3 then 1 + max (nbL s.thn) (nbL s.els) else if s.act = 4 then 2 + s.n.toNat * (1 + nbL s.thn) else 1 := by cases s; rw [nbS]; rfl
theorem zis {vs : List Vr} {nh : Nat} (l : List St) : ∀ top, zc vs nh l top = 0 -> (nbL l : Int) <= 2 * (bds l).1 := by
 induction l using zkS with
 | h l ih =>
 intro top h
 have hm := xz l top h
 have key : ∀ r : List St, (∀ x ∈ r, x ∈ l) -> (nbL r : Int) <= 2 * (bds r).1 := by
  intro r
  induction r with
  | nil => intro _; simp [nbL, bds]
  | cons x r ihr =>
   intro hx
   have h1 := ihr (fun y hy => hx y (zn3 _ hy))
   obtain ⟨last, h2⟩ := hm x (hx x (zn4 ..))
   obtain ⟨h3, _, _, h4, h5⟩ := qd h2
   have h6 := (ih x (hx x (zn4 ..))).1 _ h4
   have h7 := (ih x (hx x (zn4 ..))).2 _ h5
   have b4 := yO x.thn _ h4
   have b5 := yO x.els _ h5
   rw [nbL, bds]
   have : (nbS x : Int) <= 2 * (yq x).1 := by
    rw [zcv, yb]
    by_cases a4 : x.act = 4
    ·
     rw [zna (show ¬ x.act = 3 by omega), znb a4, znb a4]
     obtain ⟨n, hn⟩ := Int.eq_ofNat_of_zero_le (h3.rep a4).1
     rw [hn, znl]
     have : ((n * (1 + nbL x.thn) : Nat) : Int) <= (n : Int) * (2 * (1 + (bds x.thn).1)) := by
      rw [Int.natCast_mul]
      exact Int.mul_le_mul_of_nonneg_left (by omega) (by omega)
     have e : (n : Int) * (2 * (1 + (bds x.thn).1)) = 2 * ((n : Int) * (1 + (bds x.thn).1)) := by rw [Int.mul_left_comm]
     simp only
     omega
    ·
     rw [zna a4, zna a4]
     by_cases a3 : x.act = 3
     . rw [znb a3]; simp only; omega
     . rw [zna a3]; simp only; omega
   simp only
   omega
 exact key l (fun x h => h)
def CtxG (g : List Nd) (n : Nat) (ns : List Nd) : Prop := ∀ (i : Nat) x, ns[i]? = some x -> g[n + i]? = some x
def CtxP (P : List St) (a : Nat) (ps : List St) : Prop := ∀ (i : Nat) x, ps[i]? = some x -> P[a + i]? = some x
theorem CtxG.left {g : List Nd} {n : Nat} {a b : List Nd} (h : CtxG g n (a ++ b)) : CtxG g n a := fun i x hx => h i x (by rw [znp (zne.1 hx).1]; exact hx)
theorem zmC {g : List Nd} {n m : Nat} {a b : List Nd} (h : CtxG g n (a ++ b)) (hm : m = n + a.length) : CtxG g m b := fun i x hx => by
 rw [hm, Nat.add_assoc]; exact h _ x (by rw [znq (by omega)]; simpa using hx)
theorem CtxG.head {g : List Nd} {n : Nat} {x : Nd} {b : List Nd} (h : CtxG g n (x :: b)) : g[n]? = some x := h 0 x rfl
theorem CtxP.left {P : List St} {n : Nat} {a b : List St} (h : CtxP P n (a ++ b)) : CtxP P n a := fun i x hx => h i x (by rw [znp (zne.1 hx).1]; exact hx)
theorem zmD {P : List St} {n m : Nat} {a b : List St} (h : CtxP P n (a ++ b)) (hm : m = n + a.length) : CtxP P m b := fun i x hx => by
 rw [hm, Nat.add_assoc]; exact h _ x (by rw [znq (by omega)]; simpa using hx)
theorem CtxP.head {P : List St} {n : Nat} {x : St} {b : List St} (h : CtxP P n (x :: b)) : P[n]? = some x := h 0 x rfl
def SameR (a n : Nat) (rd rd' : Int -> Int) : Prop := ∀ k : Int, ¬ ((a : Int) <= k /\ k < (a + n : Nat)) -> rd' k = rd k
theorem SameR.refl (a n : Nat) (rd : Int -> Int) : SameR a n rd rd := fun _ _ => rfl
theorem SameR.trans {a n : Nat} {r1 r2 r3 : Int -> Int} (h : SameR a n r1 r2) (h' : SameR a n r2 r3) : SameR a n r1 r3 := fun k hk => (h' k hk).trans (h k hk)
theorem zmu {a n : Nat} {rd : Int -> Int} {k v : Int} (h : (a : Int) <= k /\ k < (a + n : Nat)) : SameR a n rd (zig rd k v) := fun j hj => by
 unfold zig; rw [zna (fun e => hj (by rw [e]; exact h))]
open Go.GL
theorem zfg {vs : List Vr} {nh : Nat} (l : List St) : ∀ top, zc vs nh l top = 0 -> ∀ s ∈ jU l, ∃ last, zF vs nh s last = 0 := by
 induction l using zkS with
 | h l ih =>
 intro top h
 have hm := xz l top h
 have key : ∀ r : List St, (∀ x ∈ r, x ∈ l) -> ∀ s ∈ jU r, ∃ last, zF vs nh s last = 0 := by
  intro r
  induction r with
  | nil => intro _ s hs; simp [jU] at hs
  | cons x r ihr =>
   intro hx s hs
   obtain ⟨last, h2⟩ := hm x (hx x (zn4 ..))
   obtain ⟨_, _, _, h4, h5⟩ := qd h2
   rw [jU, x.pre_eq, znj, zng, znj] at hs
   rcases hs with (rfl | hs | hs) | hs
   . exact ⟨last, h2⟩
   . exact (ih x (hx x (zn4 ..))).1 _ h4 s hs
   . exact (ih x (hx x (zn4 ..))).2 _ h5 s hs
   . exact ihr (fun y hy => hx y (zn3 _ hy)) s hs
 exact key l (fun x h => h)
theorem zfh (l : List St) : ∀ s ∈ jU l, s.nodes <= zn l := by
 induction l using zkS with
 | h l ih =>
 have key : ∀ r : List St, (∀ x ∈ r, x ∈ l) -> ∀ s ∈ jU r, s.nodes <= zn r := by
  intro r
  induction r with
  | nil => intro _ s hs; simp [jU] at hs
  | cons x r ihr =>
   intro hx s hs
   have h1 := (ih x (hx x (zn4 ..))).1
   have h2 := (ih x (hx x (zn4 ..))).2
   have h3 := x.nodes_eq
   rw [jU, x.pre_eq, znj, zng, znj] at hs
   rw [zn]
   rcases hs with (rfl | hs | hs) | hs
   . omega
   . have := h1 s hs; omega
   . have := h2 s hs; omega
   . have := ihr (fun y hy => hx y (zn3 _ hy)) s hs; omega
 exact key l (fun x h => h)
theorem zfi {f : Fl} {s : St} {last : Bool} (h : zF f.vars f.hatches.length s last = 0) (hn : s.nodes <= 100000) : StepOk f s := by
 obtain ⟨h1, h2, h3, _, _⟩ := qd h
 have hse := s.nodes_eq
 unfold zI at h2
 split at h2
 ·
  rename_i hf
  split at h2
  ·
   rename_i hr
   refine ⟨hf, hr, by omega, h1.cost, fun ha => ?_, fun ha => ?_⟩
   ·
    unfold zh at h3
    rcases ha with ha | ha
    ·
     simp [ha, yT] at h3
     omega
    ·
     simp [ha, yT] at h3
     omega
   ·
    unfold zh at h3
    simp [ha, yT] at h3
    omega
  . cases h2
 . cases h2
def jJ (s : St) : Prop := s.act = 6 -> ∀ b ∈ s.bounds, b <= 67108864
theorem zfj {l : List Int} (h : yS l = true) : ∀ (d i : Nat) x y, l[i]? = some x -> l[i + d]? = some y -> x <= y := by
 intro d
 induction d with
 | zero => intro i x y hx hy; rw [Nat.add_zero, hx] at hy; cases hy; exact Int.le_refl _
 | succ d ih =>
  intro i x y hx hy
  have hlt := (zne.1 hy).1
  obtain ⟨z, hz⟩ : ∃ z, l[i + d]? = some z := ⟨_, zn0 (by omega)⟩
  have h1 := ih i x z hx hz
  have h2 := (yV l).1 h (i + d) z y hz hy
  omega
theorem zdi {vs : List Vr} {nh : Nat} {s : St} {last : Bool} (h : zF vs nh s last = 0) : jJ s := by
 intro a6 b hb
 obtain ⟨h1, h2, h3, _, _⟩ := qd h
 have h4 : zV s = true := by
  rw [zC] at h
  split at h
  . cases h
  split at h
  . cases h
  . rename_i h5; simpa using h5
 unfold zh at h3
 simp [a6, yn] at h3
 unfold zV at h4
 simp [a6] at h4
 have hr := h3.2.2
 obtain ⟨i, hi⟩ := List.mem_iff_getElem?.1 hb
 have hlt := (zne.1 hi).1
 obtain ⟨y, hy⟩ : ∃ y, s.bounds[s.bounds.length - 1]? = some y := ⟨_, zn0 (by omega)⟩
 have h5 := zfj hr (s.bounds.length - 1 - i) i b y hi (by rw [show i + (s.bounds.length - 1 - i) = s.bounds.length - 1 by omega]; exact hy)
 rw [hy] at h4
 simp at h4
 omega
theorem zcw (l : List Int) (t : Int) : xh l t = t \/ (xh l t ∈ l /\ t <= xh l t) := by
 have key : ∀ (l : List Int) (s : Int × Bool), (l.foldl (ya t) s).1 = s.1 \/ ((l.foldl (ya t) s).1 ∈ l /\ t <= (l.foldl (ya t) s).1) := by
  intro l
  induction l with
  | nil => intro s; exact .inl rfl
  | cons b r ih =>
   intro s
   rw [List.foldl_cons]
   rcases ih (ya t s b) with h | h
   ·
    rw [h]
    unfold ya
    split
    . rename_i h1; exact .inr ⟨zn4 .., h1.1⟩
    . exact .inl O
   . exact .inr ⟨zn3 _ h.1, h.2⟩
 exact key l (t, false)
structure Valid (f : Fl) : Prop where
 ok : zS f = 0
 size : zn f.body + zG f.hatches <= 1024
 bulk : zw f.body <= 1000000
section
variable {f : Fl} (V : Valid f)
include V
theorem Valid.good : ∀ v ∈ f.vars, yg (v.low, v.high) := zaB (yr V.ok).2.1
theorem Valid.kinds : ∀ v ∈ f.vars, 0 <= v.kind /\ v.kind <= 3 := by
 have h := (yr V.ok).2.1
 have h1 : ∀ j, j < f.vars.length -> jC f.vars j = 0 := by
  unfold zv at h
  split at h
  . rename_i h2; exact absurd h h2
  ·
   rename_i h2
   intro j hj
   exact xd f.vars.length 0 (by simpa using h2) j (znf _) (by omega)
 exact fun v hv => (xK h1 v hv).2
theorem Valid.lens : f.vars.length <= 64 /\ f.hatches.length <= 8 := by
 have h := (yr V.ok).1
 unfold xk at h
 simp at h
 omega
theorem Valid.ssize : ssize f.body <= 1024 := zdf V.size
theorem Valid.step : ∀ s ∈ jU f.body, StepOk f s /\ jJ s /\ (s.act = 4 -> 0 <= s.n /\ s.n <= 4096) := by
 intro s hs
 obtain ⟨last, h⟩ := zfg f.body true (yr V.ok).2.2.2.1 s hs
 have hn := zfh f.body s hs
 have := V.size
 exact ⟨zfi h (by omega), zdi h, fun a4 => ⟨((qd h).1.rep a4).1, ((qd h).1.rep a4).2.1⟩⟩
theorem Valid.nb : nbL f.body <= 8192 := by
 have h1 := zis f.body true (yr V.ok).2.2.2.1
 have h2 := (yr V.ok).2.2.2.2
 unfold zbx at h2
 simp at h2
 omega
end
theorem zfk {f : Fl} {hs : List Int} {s : St} {σ : Sg} {j : Nat} (hg : ∀ v ∈ f.vars, yg (v.low, v.high)) (ho : StepOk f s) (hset : jJ s) (hV : InV f.vars σ.vals) (ht : 0 <= σ.time /\ σ.time <= (j : Int) * 67108864) (hol : σ.outs.length <= j) :
  InV f.vars (xR f hs s σ).vals /\ (0 <= (xR f hs s σ).time /\ (xR f hs s σ).time <= ((j + 1 : Nat) : Int) * 67108864) /\ (xR f hs s σ).outs.length <= j + 1 := by
 have hc := ho.cost
 unfold xR
 split
 . exact ⟨hV.set hg _ _, by dsimp only; omega, by dsimp only; omega⟩
 split
 . exact ⟨hV, by dsimp only; omega, by simp; omega⟩
 split
 . exact ⟨hV.set hg _ _, by dsimp only; omega, by dsimp only; omega⟩
 split
 ·
  rename_i a6
  refine ⟨hV, ?_, by dsimp only; omega⟩
  dsimp only
  rcases zcw s.bounds (σ.time + s.cost) with h | h
  . rw [h]; omega
  ·
   have := hset a6 _ h.1
   omega
 . exact ⟨hV, by dsimp only; omega, by dsimp only; omega⟩
open Go.GL
def zjd (f : Fl) (x : Nd) : Bool := decide (x.kind = 2) && (decide ((zhJ f x.at_).act = 0) || decide ((zhJ f x.at_).act = 5))
def varD (f : Fl) (d : Int) : Int := if ((jU f.body).length : Int) <= d then d - (jU f.body).length else (zhJ f d).var
def zje (f : Fl) (x : Nd) (d : Int) : Prop := (x.kind = 0 /\ ((jU f.body).length : Int) <= d /\ d < (jU f.body).length + f.vars.length) \/ (x.kind ≠ 0 /\ zjd f x = true /\ d = x.at_)
def zit (f : Fl) (x : Nd) (d : Int) : Prop := x.kind ≠ 0 /\ (zjd f x = true -> varD f d ≠ (zhJ f x.at_).var)
inductive Rch (f : Fl) (g : List Nd) : Int -> Int -> Prop
 | gen {i : Nat} {x : Nd} {to d : Int} : g[i]? = some x -> (to = x.next \/ to = x.other) -> 0 <= to -> zje f x d -> Rch f g to d
 | thru {i : Nat} {x : Nd} {to d : Int} : g[i]? = some x -> (to = x.next \/ to = x.other) -> 0 <= to -> Rch f g i d -> zit f x d -> Rch f g to d
theorem Rch.step {f : Fl} {g : List Nd} {i : Nat} {x : Nd} {to d : Int} (hx : g[i]? = some x) (ht : to = x.next \/ to = x.other) (h0 : 0 <= to) (h : zje f x d \/ (Rch f g i d /\ zit f x d)) : Rch f g to d :=
 h.elim (Rch.gen hx ht h0) (fun h => Rch.thru hx ht h0 h.1 h.2)
theorem zhL (l : List Int) (v : Value) (D : Nat -> Prop) (w : World) (i : Nat) (h : SlR 1 zz D w v l) :
  Calls Tryz.prog 168 #[v, .int .i64 i] w (Ret fun r w' => r = .tuple #[.int .i64 (l[i]?.getD 0), .bool (decide (i < l.length))] /\ Ext w w') := by
 obtain ⟨av, cv, rfl⟩ := h.form
 refine zlr Tryz.func168 O Tryz.ntmps168 O (zlC ?_)
 refine Vs 15 O ?_
 refine zjo O (fun hge => ?_) (fun hge => ?_)
 ·
  refine Vs 8 O ?_
  refine zjL Tryz.results168 O O (fun w hI => ⟨_, rfl, by rw [znd (by omega), znn (by omega)]; rfl, hI.k0⟩)
 ·
  refine Vs 6 O ?_
  obtain ⟨x, he_x, hm_x⟩ := gE_ l (i) (by omega)
  obtain ⟨b_x, o_x, c_x, ha_x, _, hc_x, hR_x⟩ := h.at he_x
  obtain rfl := hR_x
  refine zm1 1000 0 O O hc_x ?_
  refine zlK 1000 tR31 ts3 O ha_x (by omega) (_) (rfl) O ?_
  refine Vs 6 O ?_
  refine zjL Tryz.results168 O O (fun w hI => ⟨_, rfl, by rw [znc (by omega), he_x]; rfl, hI.k0⟩)
theorem zdj (vs : List Vr) (r : Ins) (vv s1 s2 s3 : Value) (Dv D1 D2 D3 : Nat -> Prop) (w : World) (hvs : SlR 5 RVr Dv w vv vs) (hlen : vs.length <= 1000000) (hkv : ∀ v ∈ vs, 0 <= v.kind /\ v.kind <= 3) (hi1 : SlR 1 zz D1 w s1 r.secret) (hi2 : SlR 1 zz D2 w s2 r.pub) (hi3 : SlR 1 zz D3 w s3 r.random) :
  Calls Tryz.prog 140 #[vv, .agg #[s1, s2, s3]] w (Ret fun rr w' => (∃ u, rr = .tuple #[u, .int .i64 (zt vs r)] /\ (zt vs r ≠ 0 -> u = .slice none 0 0) /\ (zt vs r = 0 -> w'.ownsRow 0 3 1 u (yt vs r).length ((yt vs r).map ze) /\ ∀ g, u.ownBlock = some g -> w.heap.size <= g)) /\ Ext w w') := by
 obtain ⟨av, cv, rfl⟩ := hvs.form
 obtain ⟨a1, c1, rfl⟩ := hi1.form
 obtain ⟨a2, c2, rfl⟩ := hi2.form
 obtain ⟨a3, c3, rfl⟩ := hi3.form
 refine zlr Tryz.func140 O Tryz.ntmps140 O (zlC ?_)
 refine Vs 2 O ?_
 refine V.box 3 O O (fun b3 => ?_)
 refine Vs 13 O ?_
 refine zmc 15 tR31 ts3 O (fun b15 => ?_)
 refine Vs 15 O ?_
 refine zm5 (σ := Nat × StS × Value × Bool) [0, 3] [3] [3] O (fun e ⟨i, s, u, b⟩ => (6, .int .i64 s.a) :: (7, .int .i64 s.b) :: (8, .int .i64 s.c) :: (9, u) :: (10, .bool b) :: (11, .int .i64 i) :: e) (fun e ⟨i, s, u, b⟩ => (15, .row 3 1 u s.vals.length (s.vals.map ze)) :: e) (fun ⟨i, s, u, b⟩ => i <= vs.length /\ (vs.take i).foldl (zq r) (some ⟨[], 0, 0, 0⟩) = some s /\ b = ((vs.take i).zip s.vals).all inB) (fun ⟨i, s, u, b⟩ => vs.length - i) ((0, ⟨[], 0, 0, 0⟩, .slice (some ⟨b15, 0, none⟩) 0 0, true)) (zkZ O) (zl0 O) (fun _ => rfl) (fun _ => rfl) (fun _ => rfl) (⟨znf _, rfl, rfl⟩) ?_
 rintro ⟨i, s, u, b⟩ ⟨hi, hs, hb⟩
 show V _ _ _ _ _ ((6, .int .i64 s.a) :: (7, .int .i64 s.b) :: (8, .int .i64 s.c) :: (9, u) :: (10, .bool b) :: (11, .int .i64 i) :: _) _ ((15, .row 3 1 u s.vals.length (s.vals.map ze)) :: _) _
 obtain ⟨hv1, ha, hb1, hc⟩ := ki i s hi hs
 refine Vs 9 O ?_
 refine zjo O (fun hlt => ?_) (fun hlt => ?_)
 ·
  refine Vs 8 O ?_
  obtain ⟨x, he_x, hm_x⟩ := gE_ vs (i) (by omega)
  obtain ⟨b_x, o_x, c_x, ha_x, _, hc_x, hR_x⟩ := hvs.at he_x
  obtain rfl := hR_x
  refine zm1 1000 0 O O hc_x ?_
  refine zlK 1000 tR52 ts120 O ha_x (by omega) (_) (rfl) O ?_
  have hst := jg he_x hs
  refine Vs 1 O ?_
  refine V.alloc 12 tz120 O O (fun b12 => ?_)
  refine Vs 18 O ?_
  have hkx := hkv x hm_x
  refine zm6 (σ := Bool × Int × Nat × Nat × Nat) [0, 3, 9, 10, 11, 12] [3, 12, 15] [3, 12] O (fun e ⟨ok, n, a', b', c'⟩ => (13, .int .i64 n) :: (14, .bool ok) :: (6, .int .i64 a') :: (7, .int .i64 b') :: (8, .int .i64 c') :: e) (fun e ⟨ok, n, a', b', c'⟩ => e) (fun ⟨ok, n, a', b', c'⟩ => (vs.take (i + 1)).foldl (zq r) (some ⟨[], 0, 0, 0⟩) = if ok then some ⟨s.vals ++ [n], a', b', c'⟩ else none) (fun _ => rfl) (fun _ => rfl) ?_ ?_
  ·
   refine Vs 7 O ?_
   refine zjo O (fun k1 => ?_) (fun k1 => ?_)
   ·
    refine Vs 5 O ?_
    refine zlT Tryz.call168 O (fun w hI => zhL r.secret _ D1 w s.a (Tr1 hI.k0 hi1)) ?_
    rw [zna (by omega), show xq r x.kind = r.secret by unfold xq; rw [znb k1], show jH s x.kind = s.a by unfold jH; rw [znb k1]] at hst
    have hq : (vs.take (i + 1)).foldl (zq r) (some ⟨[], 0, 0, 0⟩) = if decide (s.a < r.secret.length) then some ⟨s.vals ++ [r.secret[s.a]?.getD 0], s.a + 1, s.b, s.c⟩ else none := by
     rw [hst]
     by_cases hl : s.a < r.secret.length
     . rw [znb (znc hl), zn0 hl]; simp [jf, k1]
     . rw [zna (by simp [hl]), znn (by omega)]; rfl
    refine Va 13 O (by omega) ?_
    refine zjE (⟨_, _, s.a + 1, s.b, s.c⟩) (zkZ O) (zl0 O) (hq) 0 O O
   ·
    refine Vs 6 O ?_
    refine zjo O (fun k2 => ?_) (fun k2 => ?_)
    ·
     refine Vs 5 O ?_
     refine zlT Tryz.call168 O (fun w hI => zhL r.pub _ D2 w s.b (Tr1 hI.k0 hi2)) ?_
     rw [zna (by omega), show xq r x.kind = r.pub by unfold xq; rw [zna k1, znb k2], show jH s x.kind = s.b by unfold jH; rw [zna k1, znb k2]] at hst
     have hq : (vs.take (i + 1)).foldl (zq r) (some ⟨[], 0, 0, 0⟩) = if decide (s.b < r.pub.length) then some ⟨s.vals ++ [r.pub[s.b]?.getD 0], s.a, s.b + 1, s.c⟩ else none := by
      rw [hst]
      by_cases hl : s.b < r.pub.length
      . rw [znb (znc hl), zn0 hl]; simp [jf, k2]
      . rw [zna (by simp [hl]), znn (by omega)]; rfl
     refine Va 13 O (by omega) ?_
     refine zjE (⟨_, _, s.a, s.b + 1, s.c⟩) (zkZ O) (zl0 O) (hq) 0 O O
    ·
     refine Vs 6 O ?_
     refine zjo O (fun k3 => ?_) (fun k3 => ?_)
     ·
      refine Vs 5 O ?_
      refine zlT Tryz.call168 O (fun w hI => zhL r.random _ D3 w s.c (Tr1 hI.k0 hi3)) ?_
      rw [zna (by omega), show xq r x.kind = r.random by unfold xq; rw [zna k1, zna k2], show jH s x.kind = s.c by unfold jH; rw [zna k1, zna k2]] at hst
      have hq : (vs.take (i + 1)).foldl (zq r) (some ⟨[], 0, 0, 0⟩) = if decide (s.c < r.random.length) then some ⟨s.vals ++ [r.random[s.c]?.getD 0], s.a, s.b, s.c + 1⟩ else none := by
       rw [hst]
       by_cases hl : s.c < r.random.length
       . rw [znb (znc hl), zn0 hl]; simp [jf, k1, k2]
       . rw [zna (by simp [hl]), znn (by omega)]; rfl
      refine Va 13 O (by omega) ?_
      refine zjE (⟨_, _, s.a, s.b, s.c + 1⟩) (zkZ O) (zl0 O) (hq) 0 O O
     ·
      rw [znb (by omega)] at hst
      refine Vs 2 O ?_
      refine zjE (⟨true, x.init, s.a, s.b, s.c⟩) (zkZ O) (zl0 O) (by rw [hst]; rfl) 0 O O
  rintro ⟨ok, n, a', b', c'⟩ hq
  show V _ _ _ _ _ ((13, .int .i64 n) :: (14, .bool ok) :: (6, .int .i64 a') :: (7, .int .i64 b') :: (8, .int .i64 c') :: _) _ (_) _
  dsimp only at hq
  refine Vs 5 O ?_
  refine zlh O (fun w hI => zkJ O (by first | exact za | rfl)) ?_
  refine Vs 2 O ?_
  refine V.bool O (fun hok => ?_) (fun hok => ?_)
  ·
   have hok' : ok = false := by simpa using hok
   have hN : zt vs r = 1 := by unfold zt; rw [zaC (by rw [hq, hok']; rfl)]
   refine Vs 13 O ?_
   refine zjL tr140 O O (fun w hI => ⟨_, rfl, ⟨_, by rw [hN], fun _ => rfl, fun h => by omega⟩, hI.k0⟩)
  ·
   have hok' : ok = true := by simpa using hok
   rw [hok', znb rfl] at hq
   have hz : ∀ c, c = inB (x, n) -> (b && c) = ((vs.take (i + 1)).zip (s.vals ++ [n])).all inB := by
    intro c hc
    rw [zg he_x, List.zip_append (by rw [hv1, znt]; omega), List.all_append, <- hb, hc]
    simp
   refine Vs 10 O ?_
   refine zld 69 O (fun g1 => ?_) (fun g1 => ?_)
   ·
    refine Vs 15 O ?_
    refine zm8 77 [(0, _)] tR31 ts3 tz3 (by decide) O O (by kernel_rfl) (fun b77 => ?_)
    refine zlO 15 77 tu31 Tryz.el3 O (by decide) O O (by omega) (by omega) (fun u15 => ?_)
    refine Va 9 O (by omega) ?_
    refine zm4 15 O (e' := .row 3 1 u15 (s.vals ++ [n]).length ((s.vals ++ [n]).map ze)) (by simp [ze]) ?_
    refine zjz (⟨i + 1, ⟨s.vals ++ [n], a', b', c'⟩, u15, false⟩) (zkZ O) (zl0 O) (⟨by omega, hq, by rw [<- hz false (by unfold inB; rw [znd (p := x.low <= n) (by omega)]; rfl), Bool.and_false]⟩) (by first | omega | (dsimp only; omega)) 0 O O
   ·
    refine Vs 7 O ?_
    refine zjo O (fun t1 => ?_) (fun t1 => ?_)
    ·
     refine Vs 7 O ?_
     refine zm8 1077 [(0, _)] tR31 ts3 tz3 (by decide) O O (by kernel_rfl) (fun b1077 => ?_)
     refine zlO 15 1077 tu31 Tryz.el3 O (by decide) O O (by omega) (by omega) (fun u15 => ?_)
     refine Va 9 O (by omega) ?_
     refine zm4 15 O (e' := .row 3 1 u15 (s.vals ++ [n]).length ((s.vals ++ [n]).map ze)) (by simp [ze]) ?_
     refine zjz (⟨i + 1, ⟨s.vals ++ [n], a', b', c'⟩, u15, false⟩) (zkZ O) (zl0 O) (⟨by omega, hq, by rw [<- hz false (by unfold inB; rw [znd (p := n <= x.high) (by omega), Bool.and_false]), Bool.and_false]⟩) (by first | omega | (dsimp only; omega)) 0 O O
    ·
     refine Vs 5 O ?_
     refine zm8 2077 [(0, _)] tR31 ts3 tz3 (by decide) O O (by kernel_rfl) (fun b2077 => ?_)
     refine zlO 15 2077 tu31 Tryz.el3 O (by decide) O O (by omega) (by omega) (fun u15 => ?_)
     refine Va 9 O (by omega) ?_
     refine zm4 15 O (e' := .row 3 1 u15 (s.vals ++ [n]).length ((s.vals ++ [n]).map ze)) (by simp [ze]) ?_
     refine zjz (⟨i + 1, ⟨s.vals ++ [n], a', b', c'⟩, u15, b⟩) (zkZ O) (zl0 O) (⟨by omega, hq, by rw [<- hz true (by unfold inB; rw [znc (p := x.low <= n) (by omega), znc (p := n <= x.high) (by omega)]; rfl), Bool.and_true]⟩) (by first | omega | (dsimp only; omega)) 0 O O
 ·
  have hii : i = vs.length := by omega
  rw [hii, zn5] at hs hb
  have hS : jI vs r = some s := hs
  have hC : zt vs r = yC vs r s := by unfold zt; rw [hS]
  have hV : yt vs r = s.vals := by unfold yt; rw [hS]
  rw [hC, hV]
  refine Vs 14 O ?_
  refine zld 84 O (fun e1 => ?_) (fun e1 => ?_)
  ·
   have hF : yC vs r s = 1 := by unfold yC; rw [znb (.inl (by omega))]
   rw [hF]
   refine Vs 24 O ?_
   refine zjL tr140 O O (fun w hI => ⟨_, rfl, ⟨_, rfl, fun _ => rfl, fun h => by omega⟩, hI.k0⟩)
  ·
   refine Vs 7 O ?_
   refine zld 91 O (fun e2 => ?_) (fun e2 => ?_)
   ·
    have hF : yC vs r s = 1 := by unfold yC; rw [znb (.inr (.inl (by omega)))]
    rw [hF]
    refine Vs 17 O ?_
    refine zjL tr140 O O (fun w hI => ⟨_, rfl, ⟨_, rfl, fun _ => rfl, fun h => by omega⟩, hI.k0⟩)
   ·
    refine Vs 8 O ?_
    refine zjo O (fun e3 => ?_) (fun e3 => ?_)
    ·
     have hF : yC vs r s = 1 := by unfold yC; rw [znb (.inr (.inr (by omega)))]
     rw [hF]
     refine Vs 8 O ?_
     refine zjL tr140 O O (fun w hI => ⟨_, rfl, ⟨_, rfl, fun _ => rfl, fun h => by omega⟩, hI.k0⟩)
    ·
     have hF : yC vs r s = if b = true then 0 else 3 := by unfold yC; rw [zna (by omega), hb]
     rw [hF]
     refine Vs 6 O ?_
     refine zlh O (fun w hI => zkJ O (by first | exact za | rfl)) ?_
     refine Vs 2 O ?_
     refine V.bool O (fun hb3 => ?_) (fun hb3 => ?_)
     ·
      have hb' : b = false := by simpa using hb3
      rw [hb', zna (by decide)]
      refine Vs 8 O ?_
      refine zjL tr140 O O (fun w hI => ⟨_, rfl, ⟨_, rfl, fun _ => rfl, fun h => by omega⟩, hI.k0⟩)
     ·
      have hb' : b = true := by simpa using hb3
      rw [hb', znb rfl]
      refine Vs 10 O ?_
      refine zjL tr140 O O (fun w hI => ⟨_, rfl, ⟨_, rfl, fun h => absurd O h, fun _ => ⟨hI.at 15 rfl, hI.own 15 0 O rfl⟩⟩, hI.k0⟩)
theorem zdk {vs : List Vr} (t : Tm) : zx vs true t = true -> zx vs false t = true := by
 induction t using zkQ with
 | h t ih =>
  intro h
  rw [yN, Bool.and_eq_true, Bool.and_eq_true] at h ⊢
  refine ⟨⟨h.1.1, ?_⟩, ?_⟩
  ·
   have h2 := h.1.2
   unfold xP at h2 ⊢
   split
   ·
    rename_i e
    rw [znb e, Bool.and_eq_true] at h2
    rw [h2.1]; rfl
   ·
    rename_i e
    rw [zna e] at h2
    exact h2
  ·
   have key : ∀ l : List Tm, (∀ k ∈ l, k ∈ t.kids) -> zZ vs true l = true -> zZ vs false l = true := by
    intro l
    induction l with
    | nil => intro _ _; rfl
    | cons x r ihr =>
     intro hm hf
     rw [zZ, Bool.and_eq_true] at hf ⊢
     exact ⟨ih x (hm x (zn4 ..)) hf.1, ihr (fun k hk => hm k (zn3 _ hk)) hf.2⟩
   exact key t.kids (fun k h => h) h.2
theorem Valid.hatch {f : Fl} (V : Valid f) : ∀ h ∈ f.hatches, zx f.vars false h.term = true /\ (rng f.vars h.term).isSome = true /\ h.term.nodes <= 1000000 /\ h.low <= h.high := by
 intro h hm
 obtain ⟨i, hi⟩ := List.mem_iff_getElem?.1 hm
 have hlt := (zne.1 hi).1
 have h0 := (yr V.ok).2.2.1
 have h1 := xd f.hatches.length 0 h0 i (znf _) (by omega)
 rw [kg hi] at h1
 have hn := xa hi
 have := V.size
 unfold zN at h1
 split at h1
 . cases h1
 split at h1
 . cases h1
 split at h1
 . cases h1
 ·
  rename_i hb
  unfold zI at h1
  split at h1
  ·
   rename_i hf
   split at h1
   ·
    rename_i hr
    refine ⟨zdk _ hf, hr, by omega, ?_⟩
    have hb' : zaV h.low h.high = true := by simpa using hb
    unfold zaV at hb'
    exact (of_decide_eq_true hb').1
   . cases h1
  . cases h1
def zdW (vals : List Int) (hs : List Ht) : List Int := hs.map fun h => yU (xg vals h.term) h.low h.high
theorem zcx {vals : List Int} {hs : List Ht} {i : Nat} {x : Ht} (h : hs[i]? = some x) : zdW vals (hs.take (i + 1)) = zdW vals (hs.take i) ++ [yU (xg vals x.term) x.low x.high] := by
 unfold zdW; rw [zg h, List.map_append]; rfl
theorem zaE {vs : List Vr} {r : Ins} (h : zt vs r = 0) : InV vs (yt vs r) := by
 unfold zt at h
 cases hs : jI vs r with
 | none => rw [hs] at h; cases h
 | some s =>
  rw [hs] at h
  have hv : yt vs r = s.vals := by unfold yt; rw [hs]
  have hl := ki (vs := vs) (r := r) vs.length s (zno _) (by rw [zn5]; exact hs)
  simp only at h
  unfold yC at h
  split at h
  . cases h
  split at h
  ·
   rename_i ha
   rw [hv]
   refine ⟨hl.1, fun i v hi => ?_⟩
   have hlt := (zne.1 hi).1
   rw [List.all_eq_true] at ha
   have := ha (v, lki s.vals i) (List.mem_iff_getElem?.2 ⟨i, by
    rw [List.getElem?_zip_eq_some]
    exact ⟨hi, zfb (by omega)⟩⟩)
   unfold inB at this
   simp at this
   exact this
  . cases h
abbrev qX (f : Fl) (r : Ins) : List Int := zdW (yt f.vars r) f.hatches
abbrev ji (f : Fl) (r : Ins) : Sg := ⟨yt f.vars r, [], 0⟩
def xF (f : Fl) (r : Ins) : Sg := exL f (qX f r) f.body (ji f r)
theorem zb9 (l : List Int) : l.flatMap (fun x => [ze x]) = l.map ze := (zgi l).symm
theorem zbF : ∀ (D : Nat -> Prop) (w : World) (x : Int) (cs : List Value), zz D w x cs -> cs = [ze x] := fun _ _ _ _ h => h
theorem zcy (vs : List Vr) (vals : List Int) (n i : Int) (v1 v2 v3 sv : Value) (Dv D : Nat -> Prop) (w : World) (hvs : SlR 5 RVr Dv w v1 vs) (hs : SlR 1 zz D w sv vals) (hlen : vals.length = vs.length) (hmx : vs.length <= 1000000) (hi : 0 <= i /\ i < vs.length) :
  Calls Tryz.prog 170 #[.agg #[v1, v2, v3], sv, .int .i64 i, .int .i64 n] w (Ret fun rr w' => (w'.ownsRow 0 3 1 rr vals.length ((jh vs vals i n).map ze) /\ ∀ g, rr.ownBlock = some g -> w.heap.size <= g) /\ Ext w w') := by
 obtain ⟨av, cv, rfl⟩ := hvs.form
 obtain ⟨asl, csl, rfl⟩ := hs.form
 obtain ⟨i, rfl⟩ : ∃ j : Nat, i = j := ⟨i.toNat, by omega⟩
 refine zlt Tryz.func170 O Tryz.ntmps170 O (zlC ?_)
 refine Vs 2 O ?_
 refine V.box 4 O O (fun b4 => ?_)
 refine Vs 5 O ?_
 refine zmc 10 tR31 ts3 O (fun b10 => ?_)
 refine Vs 1 O ?_
 refine zma 10 (fun x => [ze x]) (fun _ => rfl) (by simp [Value.oneCell']) zbF tu31 Tryz.el3 O (by decide) O (fun w hI => ⟨_, Tr1 hI.k0 hs⟩) (by omega) (by omega) (fun u10 => ?_)
 refine zm4 10 O (e' := .row 3 1 u10 vals.length (vals.map ze)) (by rw [zb9, Nat.zero_add]; rfl) ?_
 refine zlQ 10 O (by omega) ?_
 rintro b c rfl hcap_10
 refine Vs 4 O ?_
 obtain ⟨x, he_x, hm_x⟩ := gE_ vs (i) (by omega)
 obtain ⟨b_x, o_x, c_x, ha_x, _, hc_x, hR_x⟩ := hvs.at he_x
 obtain rfl := hR_x
 refine zm1 1000 0 O O hc_x ?_
 refine Vw [4, 1000] [] O ?_
 refine Vd [0, 1, 2, 3, 4, 5, 9, 10, 11] 0 (by kernel_rfl) O O O ?_
 refine zlL 6 1000 tR52 ts120 O (by kernel_rfl) O ha_x (by omega) (_) (rfl) O ?_
 refine Vd [7, 8] 0 (by kernel_rfl) O O O ?_
 refine zlL 12 1000 tR52 ts120 O (by kernel_rfl) O ha_x (by omega) (_) (rfl) O ?_
 refine Vd [13, 14] 0 (by kernel_rfl) O O O ?_
 refine zlU 15 0 Tryz.call173 O (by kernel_rfl) O O (fun w hI => jW n x.low x.high w) ?_
 refine Vb [16] 0 (by kernel_rfl) O O O (by omega) ?_
 refine zlS 17 10 0 (i) ts3 O (by kernel_rfl) O O (by omega) (by simp; omega) ?_
 refine VD.done (by kernel_rfl) ?_
 refine Vs 8 O ?_
 have hx : jh vs vals i n = vals.set i (yU n x.low x.high) := by unfold jh; rw [znl, he_x]
 refine zm4 10 O (e' := .row 3 1 (.slice (some ⟨b, 0, none⟩) vals.length c) vals.length ((jh vs vals i n).map ze)) (by rw [hx, List.map_set]) ?_
 refine zjI Tryz.results170 O (fun w hI => ⟨_, rfl, ⟨hI.at 10 rfl, hI.own 10 0 O rfl⟩, hI.k0⟩)
theorem zbG (f : Fl) (vals : List Int) (v1 v2 v3 sv : Value) (D Ds : Nat -> Prop) (w : World) (hf : RFl D w f v1 v2 v3) (hs : SlR 1 zz Ds w sv vals) (hg : ∀ v ∈ f.vars, yg (v.low, v.high)) (hV : InV f.vars vals) (hh : ∀ h ∈ f.hatches, zx f.vars false h.term = true /\ (rng f.vars h.term).isSome = true) (hmx : f.hatches.length <= 1000000) :
  Calls Tryz.prog 142 #[.agg #[v1, v2, v3], sv] w (Ret fun rr w' => (w'.ownsRow 0 3 1 rr f.hatches.length ((zdW vals f.hatches).map ze) /\ ∀ g, rr.ownBlock = some g -> w.heap.size <= g) /\ Ext w w') := by
 obtain ⟨hf1, hf2, hf3⟩ := hf
 obtain ⟨ah, ch, rfl⟩ := hf2.form
 refine zlr Tryz.func142 O Tryz.ntmps142 O (zlC ?_)
 refine Vs 2 O ?_
 refine V.box 2 O O (fun b2 => ?_)
 refine Vs 5 O ?_
 refine zmc 8 tR31 ts3 O (fun b8 => ?_)
 refine Vs 10 O ?_
 refine zm5 (σ := Nat × Value) [1, 2] [2] [2] O (fun e ⟨i, u⟩ => (5, u) :: (6, .int .i64 i) :: e) (fun e ⟨i, u⟩ => (8, .row 3 1 u i ((zdW vals (f.hatches.take i)).map ze)) :: e) (fun ⟨i, u⟩ => i <= f.hatches.length) (fun ⟨i, u⟩ => f.hatches.length - i) ((0, .slice (some ⟨b8, 0, none⟩) 0 0)) (zkZ O) (zl0 O) (fun _ => rfl) (fun _ => rfl) (fun _ => rfl) (znf _) ?_
 rintro ⟨i, u⟩ hi
 show V _ _ _ _ _ ((5, u) :: (6, .int .i64 i) :: _) _ ((8, .row 3 1 u i ((zdW vals (f.hatches.take i)).map ze)) :: _) _
 refine Vs 10 O ?_
 refine zjo O (fun hlt => ?_) (fun hlt => ?_)
 ·
  refine Vs 9 O ?_
  obtain ⟨x, he_x, hm_x⟩ := gE_ f.hatches (i) (by omega)
  obtain ⟨b_x, o_x, c_x, ha_x, _, hc_x, hR_x⟩ := hf2.at he_x
  obtain ⟨v1_x, rfl, hk_x⟩ := hR_x
  obtain ⟨a1_x, n1_x, rfl⟩ := hk_x.form
  refine zm1 1000 0 O O hc_x ?_
  refine zlK 1000 tR53 ts137 O ha_x (by omega) (_) (rfl) O ?_
  obtain ⟨t1, t2⟩ := hh x hm_x
  refine Vs 1 O ?_
  refine V.alloc 7 tz137 O O (fun b7 => ?_)
  refine Vs 3 O ?_
  refine Vw [2, 1000, 7] [] O ?_
  refine Vd [0, 1, 2, 3, 5, 6, 7, 8] 0 (by kernel_rfl) O O O ?_
  refine zlU 4 0 tc171 O (by kernel_rfl) O O (fun w hI => xA hg hV x.term t1 t2 _ D Ds w _ (Tr1 hI.k0 hs) (RTm.put (Tr1 hI.k0 hk_x))) ?_
  refine zlU 9 0 Tryz.call173 O (by kernel_rfl) O O (fun w hI => jW _ x.low x.high w) ?_
  refine zm9 10 31 0 [(0, _)] tR31 ts3 tz3 (by decide) O (by kernel_rfl) O O (by kernel_rfl) (fun b31 => ?_)
  refine zlP 11 8 31 0 tu31 Tryz.el3 O (by decide) O (by kernel_rfl) O O O (by omega) (by omega) (fun u8 => ?_)
  refine Vd [12] 0 (by kernel_rfl) O O O ?_
  refine VD.done (by kernel_rfl) ?_
  refine Va 7 O (by omega) ?_
  refine zm4 8 O (e' := .row 3 1 u8 (i + 1) ((zdW vals (f.hatches.take (i + 1))).map ze)) (by rw [zcx he_x, List.map_append]; rfl) ?_
  refine zjz ((i + 1, u8)) (zkZ O) (zl0 O) (Nat.succ_le_of_lt (by omega)) (by first | omega | (dsimp only; omega)) 0 O O
 ·
  have hii : i = f.hatches.length := by omega
  subst hii
  refine Vs 12 O ?_
  refine zjI Tryz.results142 O (fun w hI => ⟨_, rfl, ⟨by have h := hI.at 8 rfl; rwa [zn5] at h, hI.own 8 0 O rfl⟩, hI.k0⟩)
theorem zdX (vs : List Vr) (vals : List Int) (i n : Int) : (jh vs vals i n).length = vals.length := by
 unfold jh; split
 . rw [List.length_set]
 . rfl
structure SgB (f : Fl) (N : Nat) (σ : Sg) : Prop where
 inv : InV f.vars σ.vals
 t0 : 0 <= σ.time
 t1 : σ.time <= (N : Int) * 67108864
 ol : σ.outs.length <= N
theorem SgB.mono {f : Fl} {N M : Nat} {σ : Sg} (h : SgB f N σ) (hm : N <= M) : SgB f M σ := ⟨h.inv, h.t0, by have := h.t1; omega, by have := h.ol; omega⟩
theorem SgB.cost {f : Fl} {N : Nat} {σ : Sg} {s : St} (h : SgB f N σ) (ho : StepOk f s) : SgB f (N + 1) { σ with time := σ.time + s.cost } := by
 have := ho.cost
 exact ⟨h.inv, by have := h.t0; dsimp only; omega, by have := h.t1; dsimp only; omega, by have := h.ol; dsimp only; omega⟩
abbrev PreOk (f : Fl) (l : List St) : Prop := ∀ s ∈ jU l, StepOk f s /\ jJ s /\ (s.act = 4 -> 0 <= s.n)
theorem PreOk.kids {f : Fl} {l : List St} (h : PreOk f l) {x : St} (hx : x ∈ l) : (StepOk f x /\ jJ x /\ (x.act = 4 -> 0 <= x.n)) /\ PreOk f x.thn /\ PreOk f x.els := by
 have hm : ∀ s ∈ x.pre, s ∈ jU l := by
  intro s hs
  induction l with
  | nil => cases hx
  | cons y r ih =>
   rw [jU, znj]
   rcases zng.1 hx with rfl | hx
   . exact .inl hs
   ·
    refine .inr (ih (fun s hs => h s ?_) hx)
    rw [jU, znj]; exact .inr hs
 rw [x.pre_eq] at hm
 exact ⟨h x (hm x (by simp)), fun s hs => h s (hm s (by simp [hs])), fun s hs => h s (hm s (by simp [hs]))⟩
theorem zcz {f : Fl} {body : Sg -> Sg} {s : St} (ho : StepOk f s) {b : Nat} (hb : ∀ N σ, SgB f N σ -> SgB f (N + b) (body σ)) : ∀ (k N : Nat) (σ : Sg), SgB f N σ -> SgB f (N + k * (1 + b)) (xi body s.cost s.term k σ)
 | 0, N, σ, h => by simpa [xi] using h
 | k + 1, N, σ, h => by
  unfold xi
  have h1 := h.cost ho
  rw [Nat.succ_mul]
  split
  . exact h1.mono (by omega)
  . exact (zcz ho hb k _ _ (hb _ _ h1)).mono (by omega)
theorem jj {f : Fl} {hs : List Int} (hg : ∀ v ∈ f.vars, yg (v.low, v.high)) (l : List St) : PreOk f l -> ∀ N σ, SgB f N σ -> SgB f (N + nbL l) (exL f hs l σ) := by
 induction l using zkS with
 | h l ih =>
 intro hp
 have key : ∀ r : List St, (∀ x ∈ r, x ∈ l) -> ∀ N σ, SgB f N σ -> SgB f (N + nbL r) (exL f hs r σ) := by
  intro r
  induction r with
  | nil => intro _ N σ h; exact h
  | cons x r ihr =>
   intro hm N σ h
   obtain ⟨⟨ho, hse, hn4⟩, hp1, hp2⟩ := hp.kids (hm x (zn4 ..))
   obtain ⟨i1, i2⟩ := ih x (hm x (zn4 ..))
   rw [exL, nbL, <- Nat.add_assoc]
   refine ihr (fun y hy => hm y (zn3 _ hy)) _ _ ?_
   rw [xl, zcv]
   split
   ·
    split
    . exact (i1 hp1 _ _ (h.cost ho)).mono (by omega)
    . exact (i2 hp2 _ _ (h.cost ho)).mono (by omega)
   ·
    split
    . exact (zcz ho (i1 hp1) _ _ _ h).mono (by omega)
    ·
     obtain ⟨h1, h2, h3⟩ := zfk (hs := hs) hg ho hse h.inv ⟨h.t0, h.t1⟩ h.ol
     exact ⟨h1, h2.1, h2.2, h3⟩
 exact key l (fun x h => h)
theorem km (f : Fl) (hs : List Int) : ∀ (a b : List St) (σ : Sg), exL f hs (a ++ b) σ = exL f hs b (exL f hs a σ)
 | [], _, _ => rfl
 | x :: r, b, σ => by rw [List.cons_append, exL, exL, km f hs r b]
theorem qN : ∀ (a b : List St), nbL (a ++ b) = nbL a + nbL b
 | [], b => by rw [List.nil_append]; simp [nbL]
 | x :: r, b => by rw [List.cons_append, nbL, nbL, qN r b, Nat.add_assoc]
theorem zdY (l : List St) (i : Nat) : nbL (l.take i) <= nbL l := by
 have := qN (l.take i) (l.drop i)
 rw [List.take_append_drop] at this
 omega
theorem zfl (s : St) : 1 <= nbS s := by
 rw [zcv]
 split
 . omega
 . split <;> omega
abbrev sgV (σ : Sg) (a1 : Option Addr) (c1 : Nat) (a2 : Option Addr) (c2 : Nat) : Value := .agg #[.slice a1 σ.vals.length c1, .slice a2 σ.outs.length c2, .int .i64 σ.time]
abbrev SlI (D : Nat -> Prop) (w : World) (a : Option Addr) (c : Nat) (l : List Int) : Prop := SlR 1 zz D w (.slice a l.length c) l
def ziu (D : Nat -> Prop) (w w' : World) (σ : Sg) (r : Value) : Prop := ∃ a1 c1 a2 c2, r = sgV σ a1 c1 a2 c2 /\ SlI (fun b => D b \/ w.heap.size <= b) w' a1 c1 σ.vals /\ SlI (fun b => D b \/ w.heap.size <= b) w' a2 c2 σ.outs
def zfm (f : Fl) (hs : List Int) (l : List St) : Prop := ∀ (N : Nat) (σ : Sg), SgB f N σ -> N + nbL l <= 100000 -> ∀ (D Df Dh : Nat -> Prop) (w : World) (v1 v2 v3 hv lv : Value) (a1 : Option Addr) (c1 : Nat) (a2 : Option Addr) (c2 : Nat), (∀ b, D b -> b < w.heap.size) -> RFl Df w f v1 v2 v3 -> SlR 1 zz Dh w hv hs -> SlR 10 RSt Df w lv l -> SlI D w a1 c1 σ.vals -> SlI D w a2 c2 σ.outs ->
 Calls Tryz.prog 141 #[.agg #[v1, v2, v3], hv, lv, sgV σ a1 c1 a2 c2] w (Ret fun r w' => ziu D w w' (exL f hs l σ) r /\ Ext w w')
theorem zfn (f : Fl) (hs : List Int) (hg : ∀ v ∈ f.vars, yg (v.low, v.high)) (x : St) (ho : StepOk f x) (hn : 0 <= x.n) (hp : PreOk f x.thn) (ih : zfm f hs x.thn) (N : Nat) (σ : Sg) (hB : SgB f N σ) (hN : N + x.n.toNat * (1 + nbL x.thn) <= 100000) (D Df Dh : Nat -> Prop) (w : World) (v1 v2 v3 hv : Value) (a1 : Option Addr) (c1 : Nat) (a2 : Option Addr) (c2 : Nat) (_ : ∀ b, D b -> b < w.heap.size) (hf : RFl Df w f v1 v2 v3) (hh : SlR 1 zz Dh w hv hs) (ax : Option Addr) (nx : Nat) (bx : Option Addr) (mx : Nat) (ex : Option Addr) (ox : Nat) (fx : Option Addr) (px : Nat)
  (hk : SlR 3 RTm Df w (.slice ax x.term.kids.length nx) x.term.kids) (ht : SlR 10 RSt Df w (.slice bx x.thn.length mx) x.thn) (hs1 : SlI D w a1 c1 σ.vals) (hs2 : SlI D w a2 c2 σ.outs) :
  Calls Tryz.prog 169 #[.agg #[v1, v2, v3], hv, .agg #[.int .i64 x.act, .int .i64 x.cost, .int .i64 x.var, .int .i64 x.n, .int .i64 x.term.op, .int .i64 x.term.n, .slice ax x.term.kids.length nx, .slice bx x.thn.length mx, .slice ex x.els.length ox, .slice fx x.bounds.length px], sgV σ a1 c1 a2 c2] w
   (Ret fun r w' => ziu D w w' (xi (exL f hs x.thn) x.cost x.term x.n.toNat σ) r /\ Ext w w') := by
 refine zlt Tryz.func169 O Tryz.ntmps169 O (zlC ?_)
 refine Vs 2 O ?_
 refine V.box 4 O O (fun b4 => ?_)
 refine V.box 6 O O (fun b6 => ?_)
 refine V.box 7 O O (fun b7 => ?_)
 refine V.alloc 8 tz160 O O (fun b8 => ?_)
 refine Vs 9 O ?_
 refine V.dat 900 0 O O O (hs1) (fun _ _ _ h => h) ?_
 refine V.dat 901 0 O O O (hs2) (fun _ _ _ h => h) ?_
 refine zm5 (σ := Nat × Sg × Option Addr × Nat × Option Addr × Nat × (Nat -> Prop) × (Nat -> Prop)) [1, 4, 6, 7, 8] [4, 6, 8] [4, 6, 7, 8] O (fun e ⟨k, s, p1, q1, p2, q2, F1, F2⟩ => (9, .int .i64 k) :: e) (fun e ⟨k, s, p1, q1, p2, q2, F1, F2⟩ => (7, .own b7 [.slice p1 s.vals.length q1, .slice p2 s.outs.length q2, .int .i64 s.time] 160) :: (900, .dat F1 (fun w => SlI F1 w p1 q1 s.vals)) :: (901, .dat F2 (fun w => SlI F2 w p2 q2 s.outs)) :: e) (fun ⟨k, s, p1, q1, p2, q2, F1, F2⟩ => k <= x.n.toNat /\ xi (exL f hs x.thn) x.cost x.term x.n.toNat σ = xi (exL f hs x.thn) x.cost x.term (x.n.toNat - k) s /\ SgB f (N + k * (1 + nbL x.thn)) s /\ (∀ b, F1 b -> D b \/ w.heap.size <= b) /\ (∀ b, F2 b -> D b \/ w.heap.size <= b)) (fun ⟨k, s, p1, q1, p2, q2, F1, F2⟩ => x.n.toNat - k) ((0, σ, a1, c1, a2, c2, fun b => D b /\ b < w.heap.size, fun b => D b /\ b < w.heap.size)) (zkZ O) (zl0 O) (fun _ => rfl) (fun _ => rfl) (fun _ => rfl) (⟨znf _, rfl, by simpa using hB, fun b h => .inl h.1, fun b h => .inl h.1⟩) ?_
 rintro ⟨k, s, p1, q1, p2, q2, F1, F2⟩ ⟨hk1, hall, hsB, hF1, hF2⟩
 show V _ _ _ _ _ ((9, .int .i64 k) :: _) _ ((7, .own b7 [.slice p1 s.vals.length q1, .slice p2 s.outs.length q2, .int .i64 s.time] 160) :: (900, .dat F1 (fun w => SlI F1 w p1 q1 s.vals)) :: (901, .dat F2 (fun w => SlI F2 w p2 q2 s.outs)) :: _) _
 have hcost := ho.cost
 have ht0 := hsB.t0
 have ht1 := hsB.t1
 refine Vs 9 O ?_
 refine zjo O (fun hlt => ?_) (fun hlt => ?_)
 ·
  obtain ⟨m, hm⟩ : ∃ m, x.n.toNat - k = m + 1 := ⟨x.n.toNat - k - 1, by omega⟩
  have hm' : x.n.toNat - (k + 1) = m := by omega
  have hkn : (k + 1) * (1 + nbL x.thn) <= x.n.toNat * (1 + nbL x.thn) := Nat.mul_le_mul_right _ (by omega)
  rw [Nat.succ_mul] at hkn
  have hkb : k <= k * (1 + nbL x.thn) := Nat.le_mul_of_pos_right _ (by omega)
  rw [hm, xi] at hall
  have hs1' := hsB.cost ho
  refine Va 22 O (by omega) ?_
  refine zlT tc171 O (fun w hI => xA hg hsB.inv x.term ho.formed ho.ranged _ Df F1 w _ (hI.at 900 O).1 (RTm.put (Tr1 hI.k0 hk))) ?_
  refine Vs 3 O ?_
  refine zjo O (fun z => ?_) (fun z => ?_)
  ·
   rw [znb z] at hall
   rw [hall]
   refine Vs 13 O ?_
   refine zjQ Tryz.results169 tg160 ts160 O O O (fun w hI => ⟨_, rfl, ⟨_, _, _, _, rfl, (hI.at 900 O).1.wide zb hF1, (hI.at 901 O).1.wide zb hF2⟩, hI.k0⟩)
  ·
   rw [zna z] at hall
   refine Vs 8 O ?_
   refine zlV Tryz.call141 O (fun w hI => ih _ { s with time := s.time + x.cost } hs1' (by omega) (fun b => F1 b \/ F2 b) Df Dh w v1 v2 v3 hv _ p1 q1 p2 q2 (fun b hb => hb.elim ((hI.at 900 O).2 b) ((hI.at 901 O).2 b)) (Tr1 hI.k0 hf) (Tr1 hI.k0 hh) (Tr1 hI.k0 ht) ((hI.at 900 O).1.wide zb (fun _ h => .inl h)) ((hI.at 901 O).1.wide zb (fun _ h => .inr h))) ?_
   rintro r w1 w2 hI1 hk12 ⟨p1', q1', p2', q2', rfl, hr1, hr2⟩ hlow
   have hoff : ∀ b, ((F1 b \/ F2 b) \/ w1.heap.size <= b) -> b < w2.heap.size -> ¬ HS _ b := fun b hb _ => hb.elim (fun h => h.elim (hI1.offF 900 rfl b) (hI1.offF 901 rfl b)) (fun h hs => by have := hlow b hs; omega)
   have hsz : w.heap.size <= w1.heap.size := hI1.k0.size
   refine Va 9 O (by omega) ?_
   refine V.del 900 O ?_
   refine V.dat 900 0 O O O (hr1) (hoff) ?_
   refine V.del 901 O ?_
   refine V.dat 901 0 O O O (hr2) (hoff) ?_
   have hFF : ∀ b, ((F1 b \/ F2 b) \/ w1.heap.size <= b) /\ b < w2.heap.size -> D b \/ w.heap.size <= b := fun b hb => hb.1.elim (fun h => h.elim (hF1 b) (hF2 b)) (fun h => .inr (by omega))
   refine zjz (⟨k + 1, _, p1', q1', p2', q2', _, _⟩) (zkZ O) (zl0 O) (⟨by omega, by rw [hm']; exact hall, (jj hg x.thn hp _ _ hs1').mono (by rw [Nat.succ_mul]; omega), hFF, hFF⟩) (by first | omega | (dsimp only; omega)) 1 O O
 ·
  have hkk : k = x.n.toNat := by omega
  rw [hkk, Nat.sub_self, xi] at hall
  rw [hall]
  refine Vs 12 O ?_
  refine zjQ Tryz.results169 tg160 ts160 O O O (fun w hI => ⟨_, rfl, ⟨_, _, _, _, rfl, (hI.at 900 O).1.wide zb hF1, (hI.at 901 O).1.wide zb hF2⟩, hI.k0⟩)
theorem zgA (f : Fl) (hs : List Int) (hg : ∀ v ∈ f.vars, yg (v.low, v.high)) (hlen : hs.length = f.hatches.length) (hvl : f.vars.length <= 1000) (l : List St) : PreOk f l -> zfm f hs l := by
 induction l using zkS with
 | h l ih =>
 intro hp N σ hB hN D Df Dh w v1 v2 v3 hv lv a1 c1 a2 c2 hD hf hh hl hs1 hs2
 obtain ⟨al, cl, rfl⟩ := hl.form
 obtain ⟨ahv, chv, rfl⟩ := hh.form
 have hlm := hl.max
 refine zlt Tryz.func141 O Tryz.ntmps141 O (zlC ?_)
 refine Vs 2 O ?_
 refine V.box 4 O O (fun b4 => ?_)
 refine V.box 7 O O (fun b7 => ?_)
 refine V.alloc 8 tz160 O O (fun b8 => ?_)
 refine Vs 9 O ?_
 refine V.dat 900 0 O O O (hs1) (fun _ _ _ h => h) ?_
 refine V.dat 901 0 O O O (hs2) (fun _ _ _ h => h) ?_
 refine zm5 (σ := Nat × Sg × Option Addr × Nat × Option Addr × Nat × (Nat -> Prop) × (Nat -> Prop)) [1, 2, 4, 7, 8] [4, 8] [4, 7, 8] O (fun e ⟨i, s, p1, q1, p2, q2, F1, F2⟩ => (9, .int .i64 i) :: e) (fun e ⟨i, s, p1, q1, p2, q2, F1, F2⟩ => (7, .own b7 [.slice p1 s.vals.length q1, .slice p2 s.outs.length q2, .int .i64 s.time] 160) :: (900, .dat F1 (fun w => SlI F1 w p1 q1 s.vals)) :: (901, .dat F2 (fun w => SlI F2 w p2 q2 s.outs)) :: e) (fun ⟨i, s, p1, q1, p2, q2, F1, F2⟩ => i <= l.length /\ s = exL f hs (l.take i) σ /\ SgB f (N + nbL (l.take i)) s /\ (∀ b, F1 b -> D b \/ w.heap.size <= b) /\ (∀ b, F2 b -> D b \/ w.heap.size <= b)) (fun ⟨i, s, p1, q1, p2, q2, F1, F2⟩ => l.length - i) ((0, σ, a1, c1, a2, c2, fun b => D b /\ b < w.heap.size, fun b => D b /\ b < w.heap.size)) (zkZ O) (zl0 O) (fun _ => rfl) (fun _ => rfl) (fun _ => rfl) (⟨znf _, rfl, by simpa [nbL] using hB, fun b h => .inl h.1, fun b h => .inl h.1⟩) ?_
 rintro ⟨i, s, p1, q1, p2, q2, F1, F2⟩ ⟨hi, hall, hsB, hF1, hF2⟩
 show V _ _ _ _ _ ((9, .int .i64 i) :: _) _ ((7, .own b7 [.slice p1 s.vals.length q1, .slice p2 s.outs.length q2, .int .i64 s.time] 160) :: (900, .dat F1 (fun w => SlI F1 w p1 q1 s.vals)) :: (901, .dat F2 (fun w => SlI F2 w p2 q2 s.outs)) :: _) _
 have ht0 := hsB.t0
 have ht1 := hsB.t1
 have hol := hsB.ol
 refine Vs 9 O ?_
 refine zjo O (fun hlt => ?_) (fun hlt => ?_)
 ·
  refine Vs 8 O ?_
  obtain ⟨x, he_x, hm_x⟩ := gE_ l (i) (by omega)
  obtain ⟨b_x, o_x, c_x, ha_x, _, hc_x, hR_x⟩ := hl.at he_x
  obtain ⟨v1_x, v2_x, v3_x, v4_x, rfl, hk_x, ht_x, hs_x, hb_x⟩ := hR_x.get
  obtain ⟨a1_x, n1_x, rfl⟩ := hk_x.form
  obtain ⟨a2_x, n2_x, rfl⟩ := ht_x.form
  obtain ⟨a3_x, n3_x, rfl⟩ := hs_x.form
  obtain ⟨a4_x, n4_x, rfl⟩ := hb_x.form
  refine zm1 1000 0 O O hc_x ?_
  refine zlK 1000 tR54 ts134 O ha_x (by omega) (_) (rfl) O ?_
  obtain ⟨⟨ho, hse, hn4⟩, hp1, hp2⟩ := hp.kids hm_x
  obtain ⟨i1, i2⟩ := ih x hm_x
  have hcost := ho.cost
  have hnx : nbL (l.take (i + 1)) = nbL (l.take i) + nbS x := by rw [zg he_x, qN]; rfl
  have hnl : nbL (l.take (i + 1)) <= nbL l := zdY l (i + 1)
  have hnx1 := zfl x
  have hex : exL f hs (l.take (i + 1)) σ = exS f hs x s := by rw [zg he_x, km, <- hall]; rfl
  have hnS := zcv x
  have hinv : SgB f (N + nbL (l.take (i + 1))) (exS f hs x s) := by
   rw [<- hex]
   exact jj hg _ (fun s hs => hp s (by rw [<- List.take_append_drop (i + 1) l, qf]; simp [hs])) N σ hB
  have hs1' := hsB.cost ho
  have hi1 : i + 1 <= l.length := by omega
  refine Vs 1 O ?_
  refine V.alloc 10 tz134 O O (fun b10 => ?_)
  refine Vs 11 O ?_
  refine zjo O (fun a4 => ?_) (fun a4 => ?_)
  ·
   rw [zna (by omega), znb a4] at hnS
   have hx : exS f hs x s = xi (exL f hs x.thn) x.cost x.term x.n.toNat s := by rw [xl, zna (by omega), znb a4]
   refine Vs 6 O ?_
   refine zlV Tryz.call169 O (fun w hI => zfn f hs hg x ho (hn4 a4) hp1 (i1 hp1) _ s hsB (by omega) (fun b => F1 b \/ F2 b) Df Dh w v1 v2 v3 _ p1 q1 p2 q2 (fun b hb => hb.elim ((hI.at 900 O).2 b) ((hI.at 901 O).2 b)) (Tr1 hI.k0 hf) (Tr1 hI.k0 hh) _ _ _ _ _ _ _ _ (Tr1 hI.k0 hk_x) (Tr1 hI.k0 ht_x) ((hI.at 900 O).1.wide zb (fun _ h => .inl h)) ((hI.at 901 O).1.wide zb (fun _ h => .inr h))) ?_
   rintro r w1 w2 hI1 hk12 ⟨p1', q1', p2', q2', rfl, hr1, hr2⟩ hlow
   have hoff : ∀ b, ((F1 b \/ F2 b) \/ w1.heap.size <= b) -> b < w2.heap.size -> ¬ HS _ b := fun b hb _ => hb.elim (fun h => h.elim (hI1.offF 900 rfl b) (hI1.offF 901 rfl b)) (fun h hs => by have := hlow b hs; omega)
   have hsz : w.heap.size <= w1.heap.size := hI1.k0.size
   have hFF : ∀ b, ((F1 b \/ F2 b) \/ w1.heap.size <= b) /\ b < w2.heap.size -> D b \/ w.heap.size <= b := fun b hb => hb.1.elim (fun h => h.elim (hF1 b) (hF2 b)) (fun h => .inr (by omega))
   refine Va 12 O (by omega) ?_
   refine V.del 900 O ?_
   refine V.dat 900 0 O O O (hr1) (hoff) ?_
   refine V.del 901 O ?_
   refine V.dat 901 0 O O O (hr2) (hoff) ?_
   refine zjz (⟨i + 1, _, p1', q1', p2', q2', _, _⟩) (zkZ O) (zl0 O) (⟨hi1, by rw [hex, hx], by rw [<- hx]; exact hinv, hFF, hFF⟩) (by first | omega | (dsimp only; omega)) 1 O O
  ·
   refine Va 26 O (by omega) ?_
   refine zjo O (fun a0 => ?_) (fun a0 => ?_)
   ·
    have hx : exS f hs x s = { s with vals := jh f.vars s.vals x.var (xg s.vals x.term), time := s.time + x.cost } := by rw [xl, zna (by omega), zna a4]; unfold xR; rw [znb a0]
    have hvar := ho.var (.inl a0)
    refine Vw [4, 8, 7, 1000, 10] [12] O ?_
    refine Vd [0, 1, 2, 3, 4, 5, 6, 7, 8] 0 (by kernel_rfl) O O O ?_
    refine zlU 9 0 tc171 O (by kernel_rfl) O O (fun w hI => xA hg hsB.inv x.term ho.formed ho.ranged _ Df F1 w _ (hI.at 900 O).1 (RTm.put (Tr1 hI.k0 hk_x))) ?_
    refine zlW 10 0 Tryz.call170 O (by kernel_rfl) O O (fun w hI => zcy f.vars s.vals _ x.var v1 v2 v3 _ Df F1 w (Tr1 hI.k0 hf.vars) (hI.at 900 O).1 hsB.inv.len (by omega) hvar) ?_
    rintro r w1 w2 hI1 hk12 ⟨hr1, hr2⟩ hlow
    rw [<- zdX f.vars s.vals x.var (xg s.vals x.term)] at hr1
    obtain ⟨ar, cr, rfl⟩ := qH hr1
    have hsz : w.heap.size <= w1.heap.size := hI1.k0.size
    refine Vd [11] 1 (by kernel_rfl) O O O ?_
    refine Vl 12 O (by kernel_rfl) O ?_
    refine VDx.done (by kernel_rfl) ?_
    refine Va 8 O (by omega) ?_
    refine V.del 900 O ?_
    refine V.dat 900 0 O O O (zkx (R := zz) (D := fun b => w1.heap.size <= b) ze (fun _ _ => rfl) hr1 hr2) (fun b hb _ hs => by have := hlow b hs; omega) ?_
    refine zjz (⟨i + 1, { s with vals := jh f.vars s.vals x.var (xg s.vals x.term), time := s.time + x.cost }, ar, cr, p2, q2, _, F2⟩) (zkZ O) (zl0 O) (⟨hi1, by rw [hex, hx], by rw [<- hx]; exact hinv, fun b hb => .inr (by omega), hF2⟩) (by first | omega | (dsimp only; omega)) 1 O O
   ·
    refine Vs 6 O ?_
    refine zjo O (fun a1 => ?_) (fun a1 => ?_)
    ·
     have hx : exS f hs x s = { s with outs := s.outs ++ [xg s.vals x.term], time := s.time + x.cost } := by rw [xl, zna (by omega), zna a4]; unfold xR; rw [zna a0, znb a1]
     refine Vw [4, 8, 7, 1000, 10] [12] O ?_
     refine Vd [1, 2, 4, 5, 6, 7] 0 (by kernel_rfl) O O O ?_
     refine zmd 0 53 0 tR31 ts3 O (by kernel_rfl) O (fun b53 => ?_)
     refine zmb 3 53 0 (fun x => [ze x]) (fun _ => rfl) (by simp [Value.oneCell']) zbF tu31 Tryz.el3 O (by decide) O (by kernel_rfl) O O (fun w hI => ⟨_, (hI.at 901 O).1⟩) (by omega) (by omega) (fun u53 => ?_)
     refine zlU 8 0 tc171 O (by kernel_rfl) O O (fun w hI => xA hg hsB.inv x.term ho.formed ho.ranged _ Df F1 w _ (hI.at 900 O).1 (RTm.put (Tr1 hI.k0 hk_x))) ?_
     refine zm9 9 62 0 [(0, _)] tR31 ts3 tz3 (by decide) O (by kernel_rfl) O O (by kernel_rfl) (fun b62 => ?_)
     refine zlP 10 53 62 0 tu31 Tryz.el3 O (by decide) O (by kernel_rfl) O O O (by omega) (by omega) (fun u53 => ?_)
     refine Vd [11] 0 (by kernel_rfl) O O O ?_
     refine zlR 53 O (by omega) ?_
     rintro bo co rfl hcap_53
     refine Vl 12 O (by kernel_rfl) O ?_
     refine VDx.done (by kernel_rfl) ?_
     refine Va 8 O (by omega) ?_
     refine zm4 7 O (e' := .own b7 [.slice p1 s.vals.length q1, .slice (some ⟨bo, 0, none⟩) (s.outs ++ [xg s.vals x.term]).length co, .int .i64 (s.time + x.cost)] 160) (by rw [zn8, Nat.zero_add]; rfl) ?_
     refine zm4 53 O (e' := .row 3 1 (.slice (some ⟨bo, 0, none⟩) (s.outs ++ [xg s.vals x.term]).length co) (s.outs ++ [xg s.vals x.term]).length ((s.outs ++ [xg s.vals x.term]).map ze)) (by rw [zn8, Nat.zero_add, zb9, List.map_append]; rfl) ?_
     refine zlD (p := w.heap.size <= bo) (fun w hI => hI.own 53 0 O O bo O) (fun hbo => ?_)
     refine V.del 901 O ?_
     refine zm3 53 901 (R := zz) ze (fun _ _ _ => rfl) O O ?_
     refine zjz (⟨i + 1, { s with outs := s.outs ++ [xg s.vals x.term], time := s.time + x.cost }, p1, q1, some ⟨bo, 0, none⟩, co, F1, _⟩) (zkZ O) (zl0 O) (⟨hi1, by rw [hex, hx], by rw [<- hx]; exact hinv, hF1, fun b hb => .inr (by have hb : some bo = some b := hb; cases hb; exact hbo)⟩) (by first | omega | (dsimp only; omega)) 0 O O
    ·
     refine Vs 6 O ?_
     refine zjo O (fun a5 => ?_) (fun a5 => ?_)
     ·
      have hx : exS f hs x s = { s with vals := jh f.vars s.vals x.var (lki hs x.n.toNat), time := s.time + x.cost } := by rw [xl, zna (by omega), zna a4]; unfold xR; rw [zna a0, zna a1, znb a5]
      have hvar := ho.var (.inr a5)
      have hnum := ho.num a5
      obtain ⟨y, he_y, hm_y⟩ := gE_ hs (x.n.toNat) (by omega)
      obtain ⟨b_y, o_y, c_y, ha_y, _, hc_y, hR_y⟩ := hh.at he_y
      obtain rfl := hR_y
      refine zm1 2000 0 O O hc_y ?_
      have hy : lki hs x.n.toNat = y := zfa he_y
      rw [hy] at hx
      refine Vw [4, 8, 7, 1000, 10, 2000] [12] O ?_
      refine Vd [0, 1, 2, 3, 4, 5, 6, 7] 0 (by kernel_rfl) O O O ?_
      refine zlL 8 2000 tR31 ts3 O (by kernel_rfl) O ha_y (by omega) (x.n.toNat) (by omega) O ?_
      refine Vd [9] 0 (by kernel_rfl) O O O ?_
      refine zlW 10 0 Tryz.call170 O (by kernel_rfl) O O (fun w hI => zcy f.vars s.vals y x.var v1 v2 v3 _ Df F1 w (Tr1 hI.k0 hf.vars) (hI.at 900 O).1 hsB.inv.len (by omega) hvar) ?_
      rintro r w1 w2 hI1 hk12 ⟨hr1, hr2⟩ hlow
      rw [<- zdX f.vars s.vals x.var y] at hr1
      obtain ⟨ar, cr, rfl⟩ := qH hr1
      have hsz : w.heap.size <= w1.heap.size := hI1.k0.size
      refine Vd [11] 1 (by kernel_rfl) O O O ?_
      refine Vl 12 O (by kernel_rfl) O ?_
      refine VDx.done (by kernel_rfl) ?_
      refine Va 8 O (by omega) ?_
      refine V.del 900 O ?_
      refine V.dat 900 0 O O O (zkx (R := zz) (D := fun b => w1.heap.size <= b) ze (fun _ _ => rfl) hr1 hr2) (fun b hb _ hs => by have := hlow b hs; omega) ?_
      refine zjz (⟨i + 1, { s with vals := jh f.vars s.vals x.var y, time := s.time + x.cost }, ar, cr, p2, q2, _, F2⟩) (zkZ O) (zl0 O) (⟨hi1, by rw [hex, hx], by rw [<- hx]; exact hinv, fun b hb => .inr (by omega), hF2⟩) (by first | omega | (dsimp only; omega)) 1 O O
     ·
      refine Vs 6 O ?_
      refine zjo O (fun a3 => ?_) (fun a3 => ?_)
      ·
       have hx := xl f hs x s
       rw [znb a3] at hx
       rw [znb a3] at hnS
       refine Vs 6 O ?_
       refine zlT tc171 O (fun w hI => xA hg hsB.inv x.term ho.formed ho.ranged _ Df F1 w _ (hI.at 900 O).1 (RTm.put (Tr1 hI.k0 hk_x))) ?_
       refine Vs 3 O ?_
       refine zjo O (fun z => ?_) (fun z => ?_)
       ·
        rw [znb z] at hx
        refine Vs 6 O ?_
        refine zlV Tryz.call141 O (fun w hI => i1 hp1 _ { s with time := s.time + x.cost } hs1' (by omega) (fun b => F1 b \/ F2 b) Df Dh w v1 v2 v3 _ _ p1 q1 p2 q2 (fun b hb => hb.elim ((hI.at 900 O).2 b) ((hI.at 901 O).2 b)) (Tr1 hI.k0 hf) (Tr1 hI.k0 hh) (Tr1 hI.k0 ht_x) ((hI.at 900 O).1.wide zb (fun _ h => .inl h)) ((hI.at 901 O).1.wide zb (fun _ h => .inr h))) ?_
        rintro r w1 w2 hI1 hk12 ⟨p1', q1', p2', q2', rfl, hr1, hr2⟩ hlow
        have hoff : ∀ b, ((F1 b \/ F2 b) \/ w1.heap.size <= b) -> b < w2.heap.size -> ¬ HS _ b := fun b hb _ => hb.elim (fun h => h.elim (hI1.offF 900 rfl b) (hI1.offF 901 rfl b)) (fun h hs => by have := hlow b hs; omega)
        have hsz : w.heap.size <= w1.heap.size := hI1.k0.size
        have hFF : ∀ b, ((F1 b \/ F2 b) \/ w1.heap.size <= b) /\ b < w2.heap.size -> D b \/ w.heap.size <= b := fun b hb => hb.1.elim (fun h => h.elim (hF1 b) (hF2 b)) (fun h => .inr (by omega))
        refine Va 10 O (by omega) ?_
        refine V.del 900 O ?_
        refine V.dat 900 0 O O O (hr1) (hoff) ?_
        refine V.del 901 O ?_
        refine V.dat 901 0 O O O (hr2) (hoff) ?_
        refine zjz (⟨i + 1, _, p1', q1', p2', q2', _, _⟩) (zkZ O) (zl0 O) (⟨hi1, by rw [hex, hx], by rw [<- hx]; exact hinv, hFF, hFF⟩) (by first | omega | (dsimp only; omega)) 1 O O
       ·
        rw [zna z] at hx
        refine Vs 6 O ?_
        refine zlV Tryz.call141 O (fun w hI => i2 hp2 _ { s with time := s.time + x.cost } hs1' (by omega) (fun b => F1 b \/ F2 b) Df Dh w v1 v2 v3 _ _ p1 q1 p2 q2 (fun b hb => hb.elim ((hI.at 900 O).2 b) ((hI.at 901 O).2 b)) (Tr1 hI.k0 hf) (Tr1 hI.k0 hh) (Tr1 hI.k0 hs_x) ((hI.at 900 O).1.wide zb (fun _ h => .inl h)) ((hI.at 901 O).1.wide zb (fun _ h => .inr h))) ?_
        rintro r w1 w2 hI1 hk12 ⟨p1', q1', p2', q2', rfl, hr1, hr2⟩ hlow
        have hoff : ∀ b, ((F1 b \/ F2 b) \/ w1.heap.size <= b) -> b < w2.heap.size -> ¬ HS _ b := fun b hb _ => hb.elim (fun h => h.elim (hI1.offF 900 rfl b) (hI1.offF 901 rfl b)) (fun h hs => by have := hlow b hs; omega)
        have hsz : w.heap.size <= w1.heap.size := hI1.k0.size
        have hFF : ∀ b, ((F1 b \/ F2 b) \/ w1.heap.size <= b) /\ b < w2.heap.size -> D b \/ w.heap.size <= b := fun b hb => hb.1.elim (fun h => h.elim (hF1 b) (hF2 b)) (fun h => .inr (by omega))
        refine Va 10 O (by omega) ?_
        refine V.del 900 O ?_
        refine V.dat 900 0 O O O (hr1) (hoff) ?_
        refine V.del 901 O ?_
        refine V.dat 901 0 O O O (hr2) (hoff) ?_
        refine zjz (⟨i + 1, _, p1', q1', p2', q2', _, _⟩) (zkZ O) (zl0 O) (⟨hi1, by rw [hex, hx], by rw [<- hx]; exact hinv, hFF, hFF⟩) (by first | omega | (dsimp only; omega)) 1 O O
      ·
       refine Vs 6 O ?_
       refine zjo O (fun a6 => ?_) (fun a6 => ?_)
       ·
        have hx : exS f hs x s = { s with time := xh x.bounds (s.time + x.cost) } := by rw [xl, zna (by omega), zna a4]; unfold xR; rw [zna a0, zna a1, zna a5, znb a6]
        refine Vs 5 O ?_
        refine zlT Tryz.call172 O (fun w hI => zbE x.bounds (s.time + x.cost) _ Df w (Tr1 hI.k0 hb_x)) ?_
        refine Va 11 O (by omega) ?_
        refine zjz (⟨i + 1, { s with time := xh x.bounds (s.time + x.cost) }, p1, q1, p2, q2, F1, F2⟩) (zkZ O) (zl0 O) (⟨hi1, by rw [hex, hx], by rw [<- hx]; exact hinv, hF1, hF2⟩) (by first | omega | (dsimp only; omega)) 0 O O
       ·
        have hx : exS f hs x s = { s with time := s.time + x.cost } := by rw [xl, zna (by omega), zna a4]; unfold xR; rw [zna a0, zna a1, zna a5, zna a6]
        refine Va 9 O (by omega) ?_
        refine zjz (⟨i + 1, { s with time := s.time + x.cost }, p1, q1, p2, q2, F1, F2⟩) (zkZ O) (zl0 O) (⟨hi1, by rw [hex, hx], by rw [<- hx]; exact hinv, hF1, hF2⟩) (by first | omega | (dsimp only; omega)) 0 O O
 ·
  have hii : i = l.length := by omega
  subst hii
  rw [zn5] at hall
  subst hall
  refine Vs 12 O ?_
  refine zjQ Tryz.results141 tg160 ts160 O O O (fun w hI => ⟨_, rfl, ⟨_, _, _, _, rfl, (hI.at 900 O).1.wide zb hF1, (hI.at 901 O).1.wide zb hF2⟩, hI.k0⟩)
def zy (f : Fl) (r : Ins) : Int := if zS f ≠ 0 then zS f else zt f.vars r
theorem kY {f : Fl} (vd : Valid f) : PreOk f f.body := fun s hs => by
 obtain ⟨h1, h2, h3⟩ := vd.step s hs
 exact ⟨h1, h2, fun h => (h3 h).1⟩
theorem jK {f : Fl} {r : Ins} (h : zt f.vars r = 0) : SgB f 0 (ji f r) := ⟨zaE h, by dsimp only; omega, by dsimp only; omega, zno _⟩
theorem zhM (f : Fl) (r : Ins) (v1 v2 v3 s1 s2 s3 : Value) (D D1 D2 D3 : Nat -> Prop) (W : World) (hf : RFl D W f v1 v2 v3) (hi1 : SlR 1 zz D1 W s1 r.secret) (hi2 : SlR 1 zz D2 W s2 r.pub) (hi3 : SlR 1 zz D3 W s3 r.random) (hsz : zn f.body + zG f.hatches <= 1024) (hbk : zw f.body <= 1000000) :
  Calls Tryz.prog 102 #[.agg #[v1, v2, v3], .agg #[s1, s2, s3]] W (Ret fun rr w' => (∃ st, rr = .tuple #[st, .int .i64 (zy f r)] /\ (zy f r ≠ 0 -> st = .agg #[.slice none 0 0, .slice none 0 0, .int .i64 0]) /\ (zy f r = 0 -> ∃ a1 c1 a2 c2, st = sgV (xF f r) a1 c1 a2 c2 /\ SlI (fun b => W.heap.size <= b) w' a1 c1 (xF f r).vals /\ SlI (fun b => W.heap.size <= b) w' a2 c2 (xF f r).outs)) /\ Ext W w') := by
 refine zlr Tryz.func102 O Tryz.ntmps102 O (zlC ?_)
 refine Vs 2 O ?_
 refine V.box 2 O O (fun b2 => ?_)
 refine V.box 3 O O (fun b3 => ?_)
 refine V.alloc 4 tz160 O O (fun b4 => ?_)
 refine Vs 6 O ?_
 refine zlT Tryz.call42 O (fun w hI => jd f v1 v2 v3 D w (Tr1 hI.k0 hf) hsz hbk) ?_
 refine Vs 10 O ?_
 refine zjo O (fun c0 => ?_) (fun c0 => ?_)
 ·
  have hc : zy f r = zS f := znb c0
  refine Vs 2 O ?_
  refine zme [Value.slice none 0 0, Value.slice none 0 0, Value.int IntKind.i64 0] [(0, 1), (1, 1), (2, 1)] [] O O (fun _ => by kernel_rfl) ?_
  refine Vs 7 O ?_
  refine zjT Tryz.results102 tg160 ts160 O O O O (fun w hI => ⟨_, rfl, ⟨_, by rw [hc], fun _ => rfl, fun h => absurd (hc ▸ h) c0⟩, hI.k0⟩)
 ·
  have c0' : zS f = 0 := by omega
  have vd : Valid f := ⟨c0', hsz, hbk⟩
  have hc : zy f r = zt f.vars r := zna c0
  have hl := vd.lens
  have hnb := vd.nb
  rw [hc]
  refine Vs 7 O ?_
  refine zlV Tryz.call140 O (fun w hI => zdj f.vars r v1 s1 s2 s3 D D1 D2 D3 w (Tr1 hI.k0 hf.vars) (by omega) vd.kinds (Tr1 hI.k0 hi1) (Tr1 hI.k0 hi2) (Tr1 hI.k0 hi3)) ?_
  rintro rr w1 w2 hI1 hk12 ⟨u, rfl, hu1, hu2⟩ hlow
  refine Vs 14 O ?_
  refine zjo O (fun e0 => ?_) (fun e0 => ?_)
  ·
   refine Vs 2 O ?_
   refine zme [Value.slice none 0 0, Value.slice none 0 0, Value.int IntKind.i64 0] [(0, 1), (1, 1), (2, 1)] [] O O (fun _ => by kernel_rfl) ?_
   refine Vs 7 O ?_
   refine zjT Tryz.results102 tg160 ts160 O O O O (fun w hI => ⟨_, rfl, ⟨_, rfl, fun _ => rfl, fun h => absurd h e0⟩, hI.k1⟩)
  ·
   have e0' : zt f.vars r = 0 := by omega
   obtain ⟨hrow, hfr⟩ := hu2 e0'
   obtain ⟨au, cu, rfl⟩ := qH hrow
   have hsz1 : W.heap.size <= w1.heap.size := hI1.k0.size
   refine Vs 3 O ?_
   refine V.dat 900 0 O O O (zkx (R := zz) (D := fun b => w1.heap.size <= b) ze (fun _ _ => rfl) hrow hfr) (fun b hb _ hs => by have := hlow b hs; omega) ?_
   refine Vw [2, 3, 4] [9] O ?_
   refine Vd [0, 1, 2, 4, 5, 6] 0 (by kernel_rfl) O O O ?_
   refine zmf 7 [Value.slice none 0 0, Value.slice none 0 0, Value.int IntKind.i64 0] [(0, 1), (1, 1), (2, 1)] [(0, _)] O (by kernel_rfl) O O (fun _ => by kernel_rfl) ?_
   refine zlW 3 0 Tryz.call142 O (by kernel_rfl) O O (fun w hI => zbG f (yt f.vars r) v1 v2 v3 _ D _ w (Tr1 hI.k1 hf) (hI.at 900 O).1 vd.good (zaE e0') (fun h hh => ⟨(vd.hatch h hh).1, (vd.hatch h hh).2.1⟩) (by omega)) ?_
   rintro hv w3 w4 hI3 hk34 ⟨hh1, hh2⟩ hlow2
   refine zlW 8 1 Tryz.call141 O (by kernel_rfl) O O (fun w hI => zgA f (qX f r) vd.good (by simp [zdW]) (by omega) f.body (kY vd) 0 (ji f r) (jK e0') (by omega) (fun b => w1.heap.size <= b /\ b < w2.heap.size) D (fun b => w3.heap.size <= b) w v1 v2 v3 hv _ au cu none 0 (fun b hb => by have : w2.heap.size <= w.heap.size := hI.k1.size; omega) (Tr1 hI.k2 hf) (zkx (R := zz) ze (fun _ _ => rfl) (zR hh1 hI.k0 (fun g hg hs => by have := hlow2 g hs; have := hh2 g hg; omega)) hh2) (Tr1 hI.k2 hf.body) (hI.at 900 O).1 SlR.nil) ?_
   rintro rs w5 w6 hI5 hk56 ⟨a1, c1, a2, c2, rfl, hr1, hr2⟩ hlow3
   refine Vl 9 O (by kernel_rfl) O ?_
   refine Vx [10] (by kernel_rfl) O ?_
   refine VDx.done (by kernel_rfl) ?_
   refine Vs 2 O ?_
   have hsz5 : w1.heap.size <= w5.heap.size := by have h1 := hk12.size; have h2 : w2.heap.size <= w5.heap.size := hI5.k1.size; omega
   have hoff : ∀ b, ((w1.heap.size <= b /\ b < w2.heap.size) \/ w5.heap.size <= b) -> b < w6.heap.size -> ¬ HS _ b := fun b hb _ => hb.elim (hI5.offF 900 rfl b) (fun h hs => by have := hlow3 b hs; omega)
   refine V.dat 901 0 O O O (hr1) (hoff) ?_
   refine V.dat 902 0 O O O (hr2) (hoff) ?_
   have hFF : ∀ b, ((w1.heap.size <= b /\ b < w2.heap.size) \/ w5.heap.size <= b) /\ b < w6.heap.size -> W.heap.size <= b := fun b hb => by omega
   refine zjT Tryz.results102 tg160 ts160 O O O O (fun w hI => ⟨_, rfl, ⟨_, by rw [e0']; rfl, fun h => absurd e0' h, fun _ => ⟨_, _, _, _, rfl, (hI.at 901 O).1.wide zb hFF, (hI.at 902 O).1.wide zb hFF⟩⟩, hI.k3⟩)
theorem zfo (f : Fl) (r : Ins) (v1 v2 v3 s1 s2 s3 : Value) (D D1 D2 D3 : Nat -> Prop) (W : World) (hf : RFl D W f v1 v2 v3) (hi1 : SlR 1 zz D1 W s1 r.secret) (hi2 : SlR 1 zz D2 W s2 r.pub) (hi3 : SlR 1 zz D3 W s3 r.random) (hsz : zn f.body + zG f.hatches <= 1024) (hbk : zw f.body <= 1000000) :
  Calls Tryz.prog 75 #[.agg #[v1, v2, v3], .agg #[s1, s2, s3]] W (Ret fun rr w' => (∃ ov t, rr = .tuple #[.agg #[ov, .int .i64 t], .int .i64 (zy f r)] /\ (zy f r ≠ 0 -> ov = .slice none 0 0 /\ t = 0) /\ (zy f r = 0 -> t = (xF f r).time /\ SlR 1 zz (fun b => W.heap.size <= b) w' ov (xF f r).outs)) /\ Ext W w') := by
 refine zlr Tryz.func75 O Tryz.ntmps75 O (zlC ?_)
 refine Vs 2 O ?_
 refine V.box 2 O O (fun b2 => ?_)
 refine V.box 3 O O (fun b3 => ?_)
 refine V.alloc 4 tz60 O O (fun b4 => ?_)
 refine Vs 7 O ?_
 refine zlV Tryz.call102 O (fun w hI => zhM f r v1 v2 v3 s1 s2 s3 D D1 D2 D3 w (Tr1 hI.k0 hf) (Tr1 hI.k0 hi1) (Tr1 hI.k0 hi2) (Tr1 hI.k0 hi3) hsz hbk) ?_
 rintro rr w1 w2 hI1 hk12 ⟨st, rfl, hu1, hu2⟩ hlow
 have hsz1 : W.heap.size <= w1.heap.size := hI1.k0.size
 by_cases c0 : zy f r = 0
 ·
  obtain ⟨a1, c1, a2, c2, rfl, hr1, hr2⟩ := hu2 c0
  rw [c0] at *
  refine Vs 3 O ?_
  refine V.alloc 6 tz160 O O (fun b6 => ?_)
  refine Vs 11 O ?_
  refine zjo O (fun e => ?_) (fun e => ?_)
  . exact absurd O e
  ·
   refine V.dat 901 0 O O O (hr2) (fun b hb _ hs => by have := hlow b hs; omega) ?_
   refine Vs 8 O ?_
   refine zme [Value.slice none 0 0, Value.int IntKind.i64 0] [(0, 1), (1, 1)] [(0, _), (1, _)] O O (fun _ => by kernel_rfl) ?_
   refine Vs 5 O ?_
   refine zjT Tryz.results75 tg60 ts60 O O O O (fun w hI => ⟨_, rfl, ⟨_, _, rfl, fun h => absurd O h, fun _ => ⟨rfl, (hI.at 901 O).1.wide zb (fun b hb => by omega)⟩⟩, hI.k1⟩)
 ·
  obtain rfl := hu1 c0
  refine Vs 3 O ?_
  refine V.alloc 1006 tz160 O O (fun b1006 => ?_)
  refine Vs 11 O ?_
  refine zjo O (fun e => ?_) (fun e => ?_)
  ·
   refine Vs 2 O ?_
   refine zme [Value.slice none 0 0, Value.int IntKind.i64 0] [(0, 1), (1, 1)] [] O O (fun _ => by kernel_rfl) ?_
   refine Vs 7 O ?_
   refine zjT Tryz.results75 tg60 ts60 O O O O (fun w hI => ⟨_, rfl, ⟨_, _, rfl, fun _ => ⟨rfl, rfl⟩, fun h => absurd h c0⟩, hI.k1⟩)
  . omega
end Go.Proofs.YtbkhagigkglgoaaGreatDoor
namespace Go.GL
theorem RFl.keep {D S : Nat -> Prop} {w w' : World} {f : Fl} {v1 v2 v3 : Value} (h : RFl D w f v1 v2 v3) (hk : Keep S w w') (hD : ∀ q, D q -> q < w.heap.size -> ¬ S q) : RFl D w' f v1 v2 v3 := ⟨h.vars.keep yX hk hD, h.hatches.keep yY hk hD, h.body.keep zf hk hD⟩
end Go.GL
namespace Go.Proofs.YtbkhagigkglgoaaGreatDoor
open Go.GL
structure MachOk (w : World) (bm : Nat) (v1 v2 v3 vv hv ov : Value) (σ : Sg) : Prop where
 box : Blk w bm [v1, v2, v3, vv, hv, ov, .int .i64 σ.time] 180
 vals : w.ownsRow 0 3 1 vv σ.vals.length (σ.vals.map ze)
 outs : w.ownsRow 0 3 1 ov σ.outs.length (σ.outs.map ze)
 a1 : vv.ownBlock ≠ some bm
 a2 : ov.ownBlock ≠ some bm
 a3 : ∀ q, vv.ownBlock = some q -> ov.ownBlock ≠ some q
def qQ (bm : Nat) (vv ov : Value) (q : Nat) : Prop := q = bm \/ vv.ownBlock = some q \/ ov.ownBlock = some q
abbrev jk (bm : Nat) (v1 v2 v3 vv hv ov : Value) (σ : Sg) : Hp := [(900, .own bm [v1, v2, v3, vv, hv, ov, .int .i64 σ.time] 180), (901, .row 3 1 vv σ.vals.length (σ.vals.map ze)), (902, .row 3 1 ov σ.outs.length (σ.outs.map ze))]
def MachPost (w w' : World) (bm : Nat) (v1 v2 v3 vv hv ov : Value) (σ' : Sg) : Prop := ∃ ov', MachOk w' bm v1 v2 v3 vv hv ov' σ' /\ Keep (qQ bm vv ov) w w' /\ (ov'.ownBlock = ov.ownBlock \/ ∃ g, ov'.ownBlock = some g /\ w.heap.size <= g)
section
variable {w w' : World} {bm : Nat} {v1 v2 v3 vv hv ov : Value} {σ σ' : Sg}
theorem MachOk.lent (h : MachOk w bm v1 v2 v3 vv hv ov σ) : (∀ x ∈ jk bm v1 v2 v3 vv hv ov σ, x.2.holds w /\ x.2.loc /\ (∀ b, ¬ x.2.fz b) /\ ∀ q, x.2.S q -> q < w.heap.size) /\ (jk bm v1 v2 v3 vv hv ov σ).Pairwise (fun x y => ∀ q, x.2.S q -> ¬ y.2.S q) := by
 refine ⟨?_, ?_⟩
 ·
  intro x hx
  simp only [zng, List.not_mem_nil, or_false] at hx
  rcases hx with rfl | rfl | rfl
  . exact ⟨h.box, trivial, fun _ h => h, fun q hq => by have hq : q = bm := hq; rw [hq]; exact h.box.lt⟩
  . exact ⟨h.vals, trivial, fun _ h => h, fun q hq => xj h.vals hq⟩
  . exact ⟨h.outs, trivial, fun _ h => h, fun q hq => xj h.outs hq⟩
 ·
  refine List.pairwise_cons.2 ⟨fun x hx q hq hs => ?_, List.pairwise_cons.2 ⟨fun x hx q hq hs => ?_, List.pairwise_singleton _ _⟩⟩
  ·
   have hq : q = bm := hq
   subst hq
   simp only [zng, List.not_mem_nil, or_false] at hx
   rcases hx with rfl | rfl
   . exact h.a1 hs
   . exact h.a2 hs
  ·
   simp only [zng, List.not_mem_nil, or_false] at hx
   subst hx
   exact h.a3 q hq hs
theorem machHS {q : Nat} : HS (jk bm v1 v2 v3 vv hv ov σ) q ↔ qQ bm vv ov q := by
 unfold HS qQ
 constructor
 ·
  rintro ⟨x, hx, hq⟩
  simp only [zng, List.not_mem_nil, or_false] at hx
  rcases hx with rfl | rfl | rfl
  . exact .inl hq
  . exact .inr (.inl hq)
  . exact .inr (.inr hq)
 ·
  rintro (hq | hq | hq)
  . exact ⟨_, zn4 .., hq⟩
  . exact ⟨_, zn3 _ (zn4 ..), hq⟩
  . exact ⟨_, zn3 _ (zn3 _ (zn4 ..)), hq⟩
theorem kL {Bs : yc} {H : Hp} (hI : VI Bs H w) (h0 : zo H 900 = some (.own bm [v1, v2, v3, vv, hv, ov, .int .i64 σ.time] 180)) (h1 : zo H 901 = some (.row 3 1 vv σ.vals.length (σ.vals.map ze))) (h2 : zo H 902 = some (.row 3 1 ov σ.outs.length (σ.outs.map ze))) : MachOk w bm v1 v2 v3 vv hv ov σ :=
 ⟨hI.at 900 h0, hI.at 901 h1, hI.at 902 h2, fun h => zB hI.apart h0 h1 rfl bm rfl h, fun h => zB hI.apart h0 h2 rfl bm rfl h, fun q hq hs => zB hI.apart h1 h2 rfl q hq hs⟩
theorem kZ {H : Hp} {σ0 : Sg} {ov0 : Value} {w0 : World} (hI : VI [(w0, HS (jk bm v1 v2 v3 vv hv ov0 σ0))] H w) (h0 : zo H 900 = some (.own bm [v1, v2, v3, vv, hv, ov, .int .i64 σ.time] 180)) (h1 : zo H 901 = some (.row 3 1 vv σ.vals.length (σ.vals.map ze))) (h2 : zo H 902 = some (.row 3 1 ov σ.outs.length (σ.outs.map ze))) (ho : ov.ownBlock = ov0.ownBlock \/ ∃ g, ov.ownBlock = some g /\ w0.heap.size <= g) : MachPost w0 w bm v1 v2 v3 vv hv ov0 σ :=
 ⟨ov, kL hI h0 h1 h2, hI.k0.mono fun _ _ hq => machHS.1 hq, ho⟩
theorem MachPost.hands {H : Hp} (hp : MachOk w' bm v1 v2 v3 vv hv ov σ') {ov0 : Value} (hk : Keep (qQ bm vv ov0) w w') (ho : ov.ownBlock = ov0.ownBlock \/ ∃ g, ov.ownBlock = some g /\ w.heap.size <= g) (h0 : zo H 900 = some (.own bm [v1, v2, v3, vv, hv, ov0, .int .i64 σ.time] 180)) (h1 : zo H 901 = some (.row 3 1 vv σ.vals.length (σ.vals.map ze))) (h2 : zo H 902 = some (.row 3 1 ov0 σ.outs.length (σ.outs.map ze))) : Hands H [900, 901, 902] (jk bm v1 v2 v3 vv hv ov σ') w w' := by
 obtain ⟨g1, g2⟩ := hp.lent
 have i0 : ∀ q, q = bm -> InS H [900, 901, 902] q := fun q hq => ⟨_, zm h0, rfl, hq⟩
 have i1 : ∀ q, vv.ownBlock = some q -> InS H [900, 901, 902] q := fun q hq => ⟨_, zm h1, rfl, hq⟩
 have i2 : ∀ q, ov0.ownBlock = some q -> InS H [900, 901, 902] q := fun q hq => ⟨_, zm h2, rfl, hq⟩
 refine ⟨hk.mono fun q _ hq => hq.elim (i0 q) fun hq => hq.elim (i1 q) (i2 q), fun x hx => ?_, g2⟩
 obtain ⟨k1, k2, k3, k4⟩ := g1 x hx
 refine ⟨k1, k2, k3, fun q hq => ⟨?_, k4 q hq⟩⟩
 simp only [zng, List.not_mem_nil, or_false] at hx
 rcases hx with rfl | rfl | rfl
 . exact .inl (i0 q hq)
 . exact .inl (i1 q hq)
 ·
  rcases ho with ho | ⟨g, ho, hg⟩
  . exact .inl (i2 q (ho ▸ hq))
  ·
   have hq : ov.ownBlock = some q := hq
   rw [ho] at hq
   cases hq
   exact .inr hg
theorem jl {H : Hp} {f : FuncId} {args : Array Value} {n0 : Nat} {ov0 : Value} (hc : Calls Tryz.prog f args w (Ret fun r w' => r = .tuple #[] /\ MachPost w w' bm v1 v2 v3 vv hv ov0 σ')) (hsz : n0 <= w.heap.size) (h0 : zo H 900 = some (.own bm [v1, v2, v3, vv, hv, ov0, .int .i64 σ.time] 180)) (h1 : zo H 901 = some (.row 3 1 vv σ.vals.length (σ.vals.map ze))) (h2 : zo H 902 = some (.row 3 1 ov0 σ.outs.length (σ.outs.map ze))) : Calls Tryz.prog f args w (Ret fun r w' => ∃ ov', (r = .tuple #[] /\ (ov'.ownBlock = ov0.ownBlock \/ ∃ g, ov'.ownBlock = some g /\ n0 <= g)) /\ Hands H [900, 901, 902] (jk bm v1 v2 v3 vv hv ov' σ') w w') := by
 refine hc.mono ?_
 rintro e w' ⟨r, rfl, rfl, ov', hM, hk, ho⟩
 exact ⟨_, rfl, ov', ⟨rfl, ho.imp id fun ⟨g, h1, h2⟩ => ⟨g, h1, by omega⟩⟩, MachPost.hands hM hk ho h0 h1 h2⟩
theorem ziv {H : Hp} {σ0 : Sg} {ov0 : Value} {w0 : World} {bo : Nat} (hI : VI [(w0, HS (jk bm v1 v2 v3 vv hv ov0 σ0))] H w) (h0 : zo H 900 = some (.own bm [v1, v2, v3, vv, hv, ov, .int .i64 σ.time] 180)) (h1 : zo H 901 = some (.row 3 1 vv σ.vals.length (σ.vals.map ze))) (h2 : zo H 902 = some (.row 3 1 ov σ.outs.length (σ.outs.map ze))) (hb : ov.ownBlock = some bo) : ov.ownBlock = ov0.ownBlock \/ ∃ g, ov.ownBlock = some g /\ w0.heap.size <= g := by
 rcases (hI.base _ (zn4 ..)).2 _ (zm h2) bo hb with h | h
 ·
  rcases machHS.1 h with h | h | h
  . exact absurd h (fun e => zB hI.apart h0 h2 O bm O (e ▸ hb))
  . exact absurd hb (zB hI.apart h1 h2 O bo h)
  . exact .inl (hb.trans h.symm)
 . exact .inr ⟨bo, hb, h⟩
def ziw (f : Fl) (hs : List Int) (l : List St) : Prop := ∀ (N : Nat) (σ : Sg), SgB f N σ -> N + nbL l <= 100000 -> ∀ (Df Dh : Nat -> Prop) (w : World) (bm : Nat) (v1 v2 v3 vv hv ov lv : Value), (∀ q, Df q \/ Dh q -> q < w.heap.size) -> RFl Df w f v1 v2 v3 -> SlR 1 zz Dh w hv hs -> SlR 10 RSt Df w lv l -> MachOk w bm v1 v2 v3 vv hv ov σ -> (∀ q, qQ bm vv ov q -> ¬ Df q /\ ¬ Dh q) ->
 Calls Tryz.prog 120 #[.pointer (some ⟨bm, 0, none⟩), lv] w (Ret fun r w' => r = .tuple #[] /\ MachPost w w' bm v1 v2 v3 vv hv ov (exL f hs l σ))
end
open Go.GL
theorem zfp (f : Fl) (σ : Sg) (i0 : Int) (n : Int) (v1 v2 v3 vv hv ov : Value) (Df : Nat -> Prop) (bm : Nat) (W : World) (hf : RFl Df W f v1 v2 v3) (hM : MachOk W bm v1 v2 v3 vv hv ov σ) (hD : ∀ q, qQ bm vv ov q -> ¬ Df q) (hi0 : 0 <= i0 /\ i0 < f.vars.length) (hl : σ.vals.length = f.vars.length) (hg : ∀ v ∈ f.vars, yg (v.low, v.high)) :
  Calls Tryz.prog 150 #[.pointer (some ⟨bm, 0, none⟩), .int .i64 i0, .int .i64 n] W (Ret fun r w' => r = .tuple #[] /\ MachPost W w' bm v1 v2 v3 vv hv ov { σ with vals := jh f.vars σ.vals i0 n }) := by
 obtain ⟨i, rfl⟩ : ∃ i : Nat, i0 = (i : Int) := ⟨i0.toNat, by omega⟩
 have hi : i < f.vars.length := by omega
 have hvs := hf.vars
 obtain ⟨av, cv, rfl⟩ := hvs.form
 have hmx := hvs.max
 have hlow : ∀ q, HS (jk bm (.slice av f.vars.length cv) v2 v3 vv hv ov σ) q -> ¬ Df q := fun q h => hD q (machHS.1 h)
 refine zls Tryz.func150 O Tryz.ntmps150 O (zmm [(900, .own bm [.slice av f.vars.length cv, v2, v3, vv, hv, ov, .int .i64 σ.time] 180), (901, .row 3 1 vv σ.vals.length (σ.vals.map ze)), (902, .row 3 1 ov σ.outs.length (σ.outs.map ze))] hM.lent.1 hM.lent.2 ?_)
 refine zlJ 0 900 0 O O ?_
 obtain ⟨x, he_x, hm_x⟩ := gE_ f.vars (i) (by omega)
 obtain ⟨b_x, o_x, c_x, ha_x, hd_x, hc_x, hR_x⟩ := hvs.atD he_x
 obtain rfl := hR_x
 refine zm2 1000 0 O O (fun h_ => by have h1_ := hlow _ h_; have h2_ := hd_x; first | omega | exact h1_ h2_) hc_x ?_
 have hgx := hg x hm_x
 have hse : jh f.vars σ.vals i n = σ.vals.set i (yU n x.low x.high) := by unfold jh; rw [znl, he_x]
 refine zlQ 901 O (by omega) ?_
 rintro bv cq rfl hcap_901
 refine Vw [900, 1000] [] O ?_
 refine Vd [0, 1, 2, 3, 4, 5, 6, 7, 8, 9, 10, 11, 15, 16, 17, 18, 19, 20] 0 (by kernel_rfl) O O O ?_
 refine zlL 12 1000 tR52 ts120 O (by kernel_rfl) O ha_x (by omega) (i) (rfl) O ?_
 refine Vd [13, 14] 0 (by kernel_rfl) O O O ?_
 refine zlL 21 1000 tR52 ts120 O (by kernel_rfl) O ha_x (by omega) (i) (rfl) O ?_
 refine Vd [22, 23] 0 (by kernel_rfl) O O O ?_
 refine zlU 24 0 Tryz.call147 O (by kernel_rfl) O O (fun w hI => qz n x.low x.high w hgx.2.1) ?_
 refine Vb [25] 0 (by kernel_rfl) O O O (by omega) ?_
 refine zlS 26 901 0 (i) ts3 O (by kernel_rfl) O O (by omega) (by simp; omega) ?_
 refine VD.done (by kernel_rfl) ?_
 refine zm4 901 O (e' := .row 3 1 (.slice (some ⟨bv, 0, none⟩) σ.vals.length cq) (jh f.vars σ.vals i n).length ((jh f.vars σ.vals i n).map ze)) (by rw [hse, List.map_set, List.length_set]) ?_
 refine zjW Tryz.results150 (fun w hI => ⟨_, rfl, rfl, kZ hI O O O (.inl O)⟩)
theorem xu {a b c : Value} {n : Nat} (h : b.ownBlock = a.ownBlock \/ ∃ g, b.ownBlock = some g /\ n <= g) (h' : c.ownBlock = b.ownBlock \/ ∃ g, c.ownBlock = some g /\ n <= g) : c.ownBlock = a.ownBlock \/ ∃ g, c.ownBlock = some g /\ n <= g := by
 rcases h' with h' | h'
 . rw [h']; exact h
 . exact .inr h'
theorem yW {bm : Nat} {vv ov ov' : Value} {n : Nat} {D : Nat -> Prop} (h : ∀ q, qQ bm vv ov q -> ¬ D q) (hD : ∀ q, D q -> q < n) (ho : ov'.ownBlock = ov.ownBlock \/ ∃ g, ov'.ownBlock = some g /\ n <= g) : ∀ q, qQ bm vv ov' q -> ¬ D q := by
 rintro q (hq | hq | hq)
 . exact h q (.inl hq)
 . exact h q (.inr (.inl hq))
 ·
  rcases ho with ho | ⟨g, ho, hg⟩
  . exact h q (.inr (.inr (ho ▸ hq)))
  ·
   rw [ho] at hq
   cases hq
   exact fun hd => by have := hD q hd; omega
theorem zgB (f : Fl) (hs : List Int) (hg : ∀ v ∈ f.vars, yg (v.low, v.high)) (x : St) (ho : StepOk f x) (hn : 0 <= x.n) (hp : PreOk f x.thn) (ih : ziw f hs x.thn) (N : Nat) (σ : Sg) (hB : SgB f N σ) (hN : N + x.n.toNat * (1 + nbL x.thn) <= 100000) (Df Dh : Nat -> Prop) (W : World) (bm : Nat) (v1 v2 v3 vv hv ov : Value) (hDb : ∀ q, Df q \/ Dh q -> q < W.heap.size) (hf : RFl Df W f v1 v2 v3) (hh : SlR 1 zz Dh W hv hs) (hM : MachOk W bm v1 v2 v3 vv hv ov σ) (hD : ∀ q, qQ bm vv ov q -> ¬ Df q /\ ¬ Dh q)
  (ax : Option Addr) (nx : Nat) (bx : Option Addr) (mx : Nat) (ex : Option Addr) (ox : Nat) (fx : Option Addr) (px : Nat) (hk : SlR 3 RTm Df W (.slice ax x.term.kids.length nx) x.term.kids) (ht : SlR 10 RSt Df W (.slice bx x.thn.length mx) x.thn) :
  Calls Tryz.prog 149 #[.pointer (some ⟨bm, 0, none⟩), .agg #[.int .i64 x.act, .int .i64 x.cost, .int .i64 x.var, .int .i64 x.n, .int .i64 x.term.op, .int .i64 x.term.n, .slice ax x.term.kids.length nx, .slice bx x.thn.length mx, .slice ex x.els.length ox, .slice fx x.bounds.length px]] W (Ret fun r w' => r = .tuple #[] /\ MachPost W w' bm v1 v2 v3 vv hv ov (xi (exL f hs x.thn) x.cost x.term x.n.toNat σ)) := by
 have hDf : ∀ q, Df q -> q < W.heap.size := fun q h => hDb q (.inl h)
 have hDh : ∀ q, Dh q -> q < W.heap.size := fun q h => hDb q (.inr h)
 have hlow : ∀ q, Df q -> q < W.heap.size -> ¬ HS (jk bm v1 v2 v3 vv hv ov σ) q := fun q h _ h' => (hD q (machHS.1 h')).1 h
 have hlow2 : ∀ q, Dh q -> q < W.heap.size -> ¬ HS (jk bm v1 v2 v3 vv hv ov σ) q := fun q h _ h' => (hD q (machHS.1 h')).2 h
 refine zlr Tryz.func149 O Tryz.ntmps149 O (zmm [(900, .own bm [v1, v2, v3, vv, hv, ov, .int .i64 (σ).time] 180), (901, .row 3 1 vv (σ).vals.length ((σ).vals.map ze)), (902, .row 3 1 ov (σ).outs.length ((σ).outs.map ze))] hM.lent.1 hM.lent.2 ?_)
 refine zlJ 0 900 0 O O ?_
 refine Vs 2 O ?_
 refine V.box 3 O O (fun b3 => ?_)
 refine Vs 10 O ?_
 refine zm5 (σ := Nat × Sg × Value) [0, 3, 5] [3] [0, 3] O (fun e ⟨k, s, ov'⟩ => (6, .int .i64 k) :: e) (fun e ⟨k, s, ov'⟩ => (900, .own bm [v1, v2, v3, vv, hv, ov', .int .i64 (s).time] 180) :: (901, .row 3 1 vv (s).vals.length ((s).vals.map ze)) :: (902, .row 3 1 ov' (s).outs.length ((s).outs.map ze)) :: e) (fun ⟨k, s, ov'⟩ => k <= x.n.toNat /\ xi (exL f hs x.thn) x.cost x.term (x.n.toNat - k) s = xi (exL f hs x.thn) x.cost x.term x.n.toNat σ /\ SgB f (N + k * (1 + nbL x.thn)) s /\ (ov'.ownBlock = ov.ownBlock \/ ∃ g, ov'.ownBlock = some g /\ W.heap.size <= g)) (fun ⟨k, s, ov'⟩ => x.n.toNat - k) ((0, σ, ov)) (zkZ O) (zl0 O) (fun _ => rfl) (fun _ => rfl) (fun _ => rfl) (⟨znf _, by rw [Nat.sub_zero], by rw [Nat.zero_mul]; exact hB, .inl rfl⟩) ?_
 rintro ⟨k, s, ov'⟩ ⟨hk1, hall, hsB, hov⟩
 show V _ _ _ _ _ ((6, .int .i64 k) :: _) _ ((900, .own bm [v1, v2, v3, vv, hv, ov', .int .i64 (s).time] 180) :: (901, .row 3 1 vv (s).vals.length ((s).vals.map ze)) :: (902, .row 3 1 ov' (s).outs.length ((s).outs.map ze)) :: _) _
 have hcost := ho.cost
 have ht0 := hsB.t0
 have ht1 := hsB.t1
 refine Vs 6 O ?_
 refine zjo O (fun hlt => ?_) (fun hlt => ?_)
 ·
  obtain ⟨m, hm⟩ : ∃ m, x.n.toNat - k = m + 1 := ⟨x.n.toNat - k - 1, by omega⟩
  have hm' : x.n.toNat - (k + 1) = m := by omega
  have hkn : (k + 1) * (1 + nbL x.thn) <= x.n.toNat * (1 + nbL x.thn) := Nat.mul_le_mul_right _ (by omega)
  rw [Nat.succ_mul] at hkn
  have hkb : k <= k * (1 + nbL x.thn) := Nat.le_mul_of_pos_right _ (by omega)
  rw [hm, xi] at hall
  have hs1' := hsB.cost ho
  refine Vs 5 O ?_
  refine Vw [3, 900] [9] O ?_
  refine Vb [0, 1, 2, 3, 4, 5, 6, 7, 8] 0 (by kernel_rfl) O O O (by omega) ?_
  refine Vl 9 O (by kernel_rfl) O ?_
  refine VDx.done (by kernel_rfl) ?_
  refine Vs 3 O ?_
  refine Vw [3, 900] [] O ?_
  refine Vd [0, 1, 2, 3, 4, 5] 0 (by kernel_rfl) O O O ?_
  refine zlU 6 0 tc148 O (by kernel_rfl) O O (fun w hI => jG hg hsB.inv x.term ho.formed ho.ranged _ Df (fun _ => True) w _ (zkx ze (fun _ _ => rfl) (hI.at 901 O) (fun _ _ => trivial)) (RTm.put (hk.keep zj hI.k0 hlow))) ?_
  refine Vd [7] 0 (by kernel_rfl) O O O ?_
  refine VD.done (by kernel_rfl) ?_
  refine Vs 1 O ?_
  refine zjo O (fun z => ?_) (fun z => ?_)
  ·
   rw [znb z] at hall
   rw [<- hall]
   refine Vs 6 O ?_
   refine zjZ Tryz.results149 (fun w hI => ⟨_, rfl, rfl, kZ hI O O O hov⟩)
  ·
   rw [zna z] at hall
   refine Vs 6 O ?_
   refine zmn [900, 901, 902] (Hn := fun ov'' : Value => [(900, .own bm [v1, v2, v3, vv, hv, ov'', .int .i64 (exL f hs x.thn { s with time := s.time + x.cost }).time] 180), (901, .row 3 1 vv (exL f hs x.thn { s with time := s.time + x.cost }).vals.length ((exL f hs x.thn { s with time := s.time + x.cost }).vals.map ze)), (902, .row 3 1 ov'' (exL f hs x.thn { s with time := s.time + x.cost }).outs.length ((exL f hs x.thn { s with time := s.time + x.cost }).outs.map ze))]) [(0, some (900, 0)), (3, some (3, 0)), (8, some (900, 0)), (9, some (900, 0)), (10, some (900, 6)), (12, some (3, 1)), (15, some (900, 0)), (16, some (900, 6)), (17, some (900, 0)), (18, some (900, 0)), (19, some (900, 3)), (21, some (3, 4)), (25, some (900, 0)), (26, some (3, 7))] Tryz.call120 O (fun _ _ => rfl) (fun _ => rfl) (fun w hI => jl (σ := { s with time := s.time + x.cost }) (ih _ { s with time := s.time + x.cost } hs1' (by omega) Df Dh w bm v1 v2 v3 vv hv ov' _ (fun q hq => Nat.lt_of_lt_of_le (hDb q hq) (hI.k0).size) (hf.keep hI.k0 hlow) (hh.keep zb hI.k0 hlow2) (ht.keep zf hI.k0 hlow) (kL hI O O O) (fun q hq => ⟨yW (fun q h => (hD q h).1) hDf hov q hq, yW (fun q h => (hD q h).2) hDh hov q hq⟩)) (hI.k0).size O O O) ?_
   rintro _ ov'' ⟨rfl, hov2⟩
   refine Va 7 O (by omega) ?_
   refine zjz (⟨k + 1, _, ov''⟩) (zkZ O) (zl0 O) (⟨by omega, by rw [hm']; exact hall, (jj hg x.thn hp _ _ hs1').mono (by rw [Nat.succ_mul]; omega), xu hov hov2⟩) (by first | omega | (dsimp only; omega)) 0 O O
 ·
  have hkk : k = x.n.toNat := by omega
  rw [hkk, Nat.sub_self, xi] at hall
  rw [<- hall]
  refine Vs 4 O ?_
  refine zjW Tryz.results149 (fun w hI => ⟨_, rfl, rfl, kZ hI O O O hov⟩)
theorem zhN (f : Fl) (hs : List Int) (hg : ∀ v ∈ f.vars, yg (v.low, v.high)) (hlen : hs.length = f.hatches.length) (_ : f.vars.length <= 1000) (l : List St) : PreOk f l -> ziw f hs l := by
 induction l using zkS with
 | h l ih =>
 intro hp N σ hB hN Df Dh W bm v1 v2 v3 vv hv ov lv hDb hf hh hl hM hD
 obtain ⟨al, cl, rfl⟩ := hl.form
 obtain ⟨ahv, chv, rfl⟩ := hh.form
 have hlm := hl.max
 have hDf : ∀ q, Df q -> q < W.heap.size := fun q h => hDb q (.inl h)
 have hDh : ∀ q, Dh q -> q < W.heap.size := fun q h => hDb q (.inr h)
 have hlow : ∀ q, Df q -> q < W.heap.size -> ¬ HS (jk bm v1 v2 v3 vv (.slice ahv hs.length chv) ov σ) q := fun q h _ h' => (hD q (machHS.1 h')).1 h
 have hlow2 : ∀ q, Dh q -> q < W.heap.size -> ¬ HS (jk bm v1 v2 v3 vv (.slice ahv hs.length chv) ov σ) q := fun q h _ h' => (hD q (machHS.1 h')).2 h
 have hlow' : ∀ q, HS (jk bm v1 v2 v3 vv (.slice ahv hs.length chv) ov σ) q -> ¬ Df q := fun q h => (hD q (machHS.1 h)).1
 have hlow2' : ∀ q, HS (jk bm v1 v2 v3 vv (.slice ahv hs.length chv) ov σ) q -> ¬ Dh q := fun q h => (hD q (machHS.1 h)).2
 refine zlr Tryz.func120 O Tryz.ntmps120 O (zmm [(900, .own bm [v1, v2, v3, vv, .slice ahv hs.length chv, ov, .int .i64 (σ).time] 180), (901, .row 3 1 vv (σ).vals.length ((σ).vals.map ze)), (902, .row 3 1 ov (σ).outs.length ((σ).outs.map ze))] hM.lent.1 hM.lent.2 ?_)
 refine zlJ 0 900 0 O O ?_
 refine Vs 8 O ?_
 refine zm5 (σ := Nat × Sg × Value) [0, 6, 7] [] [0] O (fun e ⟨i, s, ov'⟩ => (8, .int .i64 i) :: e) (fun e ⟨i, s, ov'⟩ => (900, .own bm [v1, v2, v3, vv, .slice ahv hs.length chv, ov', .int .i64 (s).time] 180) :: (901, .row 3 1 vv (s).vals.length ((s).vals.map ze)) :: (902, .row 3 1 ov' (s).outs.length ((s).outs.map ze)) :: e) (fun ⟨i, s, ov'⟩ => i <= l.length /\ s = exL f hs (l.take i) σ /\ SgB f (N + nbL (l.take i)) s /\ (ov'.ownBlock = ov.ownBlock \/ ∃ g, ov'.ownBlock = some g /\ W.heap.size <= g)) (fun ⟨i, s, ov'⟩ => l.length - i) ((0, σ, ov)) (zkZ O) (zl0 O) (fun _ => rfl) (fun _ => rfl) (fun _ => rfl) (⟨znf _, rfl, hB, .inl rfl⟩) ?_
 rintro ⟨i, s, ov'⟩ ⟨hi, hall, hsB, hov⟩
 show V _ _ _ _ _ ((8, .int .i64 i) :: _) _ ((900, .own bm [v1, v2, v3, vv, .slice ahv hs.length chv, ov', .int .i64 (s).time] 180) :: (901, .row 3 1 vv (s).vals.length ((s).vals.map ze)) :: (902, .row 3 1 ov' (s).outs.length ((s).outs.map ze)) :: _) _
 have ht0 := hsB.t0
 have ht1 := hsB.t1
 have hol := hsB.ol
 refine Vs 6 O ?_
 refine zjo O (fun hlt => ?_) (fun hlt => ?_)
 ·
  refine Vs 6 O ?_
  obtain ⟨x, he_x, hm_x⟩ := gE_ l (i) (by omega)
  obtain ⟨b_x, o_x, c_x, ha_x, hd_x, hc_x, hR_x⟩ := hl.atD he_x
  obtain ⟨v1_x, v2_x, v3_x, v4_x, rfl, hk_x, ht_x, hs_x, hb_x⟩ := hR_x.get
  obtain ⟨a1_x, n1_x, rfl⟩ := hk_x.form
  obtain ⟨a2_x, n2_x, rfl⟩ := ht_x.form
  obtain ⟨a3_x, n3_x, rfl⟩ := hs_x.form
  obtain ⟨a4_x, n4_x, rfl⟩ := hb_x.form
  refine zm2 1000 0 O O (fun h_ => by have h1_ := hlow' _ h_; have h2_ := hd_x; first | omega | exact h1_ h2_) hc_x ?_
  refine zlK 1000 tR54 ts134 O ha_x (by omega) (_) (rfl) O ?_
  obtain ⟨⟨ho, hse, hn4⟩, hp1, hp2⟩ := hp.kids hm_x
  obtain ⟨i1, i2⟩ := ih x hm_x
  have hcost := ho.cost
  have hnx : nbL (l.take (i + 1)) = nbL (l.take i) + nbS x := by rw [zg he_x, qN]; rfl
  have hnl : nbL (l.take (i + 1)) <= nbL l := zdY l (i + 1)
  have hnx1 := zfl x
  have hex : exL f hs (l.take (i + 1)) σ = exS f hs x s := by rw [zg he_x, km, <- hall]; rfl
  have hnS := zcv x
  have hinv : SgB f (N + nbL (l.take (i + 1))) (exS f hs x s) := by
   rw [<- hex]
   exact jj hg _ (fun s hs => hp s (by rw [<- List.take_append_drop (i + 1) l, qf]; simp [hs])) N σ hB
  have hs1' := hsB.cost ho
  have hi1 : i + 1 <= l.length := by omega
  refine Vs 1 O ?_
  refine V.alloc 5 tz134 O O (fun b5 => ?_)
  refine Vs 11 O ?_
  refine zjo O (fun a4 => ?_) (fun a4 => ?_)
  ·
   rw [zna (by omega), znb a4] at hnS
   have hx : exS f hs x s = xi (exL f hs x.thn) x.cost x.term x.n.toNat s := by rw [xl, zna (by omega), znb a4]
   refine Vs 4 O ?_
   refine zmn [900, 901, 902] (Hn := fun ov'' : Value => [(900, .own bm [v1, v2, v3, vv, .slice ahv hs.length chv, ov'', .int .i64 (xi (exL f hs x.thn) x.cost x.term x.n.toNat s).time] 180), (901, .row 3 1 vv (xi (exL f hs x.thn) x.cost x.term x.n.toNat s).vals.length ((xi (exL f hs x.thn) x.cost x.term x.n.toNat s).vals.map ze)), (902, .row 3 1 ov'' (xi (exL f hs x.thn) x.cost x.term x.n.toNat s).outs.length ((xi (exL f hs x.thn) x.cost x.term x.n.toNat s).outs.map ze))]) [(0, some (900, 0)), (5, some (5, 0)), (10, some (1000, 0)), (12, some (5, 0)), (15, some (900, 0))] Tryz.call149 O (fun _ _ => rfl) (fun _ => rfl) (fun w hI => jl (σ := s) (zgB f hs hg x ho (hn4 a4) hp1 (i1 hp1) _ s hsB (by omega) Df Dh w bm v1 v2 v3 vv _ ov' (fun q hq => Nat.lt_of_lt_of_le (hDb q hq) (hI.k0).size) (hf.keep hI.k0 hlow) (hh.keep zb hI.k0 hlow2) (kL hI O O O) (fun q hq => ⟨yW (fun q h => (hD q h).1) hDf hov q hq, yW (fun q h => (hD q h).2) hDh hov q hq⟩) _ _ _ _ _ _ _ _ (hk_x.keep zj hI.k0 hlow) (ht_x.keep zf hI.k0 hlow)) (hI.k0).size O O O) ?_
   rintro _ ov'' ⟨rfl, hov2⟩
   refine Va 10 O (by omega) ?_
   refine zjz (⟨i + 1, _, ov''⟩) (zkZ O) (zl0 O) (⟨hi1, by rw [hex, hx], by rw [<- hx]; exact hinv, xu hov hov2⟩) (by first | omega | (dsimp only; omega)) 0 O O
  ·
   refine Vs 3 O ?_
   refine Vw [900, 1000, 5] [9] O ?_
   refine Vb [0, 1, 2, 3, 4, 5, 6, 7, 8] 0 (by kernel_rfl) O O O (by omega) ?_
   refine Vl 9 O (by kernel_rfl) O ?_
   refine VDx.done (by kernel_rfl) ?_
   refine Vs 14 O ?_
   refine zjo O (fun a0 => ?_) (fun a0 => ?_)
   ·
    have hx : exS f hs x s = { s with vals := jh f.vars s.vals x.var (xg s.vals x.term), time := s.time + x.cost } := by rw [xl, zna (by omega), zna a4]; unfold xR; rw [znb a0]
    have hvar := ho.var (.inl a0)
    refine Vw [1000, 5] [] O ?_
    refine Vd [0, 1, 2, 3, 4, 5, 7, 8] 0 (by kernel_rfl) O O O ?_
    refine Vo 6 0 O (by kernel_rfl) O O ?_
    refine zlU 9 0 tc148 O (by kernel_rfl) O O (fun w hI => jG hg hsB.inv x.term ho.formed ho.ranged _ Df (fun _ => True) w _ (zkx ze (fun _ _ => rfl) (hI.at 901 O) (fun _ _ => trivial)) (RTm.put (hk_x.keep zj hI.k0 hlow))) ?_
    refine zmo 10 0 [900, 901, 902] (Hn := fun ov'' : Value => [(900, .own bm [v1, v2, v3, vv, .slice ahv hs.length chv, ov'', .int .i64 ({ s with vals := jh f.vars s.vals x.var (xg s.vals x.term), time := s.time + x.cost }).time] 180), (901, .row 3 1 vv ({ s with vals := jh f.vars s.vals x.var (xg s.vals x.term), time := s.time + x.cost }).vals.length (({ s with vals := jh f.vars s.vals x.var (xg s.vals x.term), time := s.time + x.cost }).vals.map ze)), (902, .row 3 1 ov'' ({ s with vals := jh f.vars s.vals x.var (xg s.vals x.term), time := s.time + x.cost }).outs.length (({ s with vals := jh f.vars s.vals x.var (xg s.vals x.term), time := s.time + x.cost }).outs.map ze))]) [(0, some (900, 0)), (5, some (5, 0)), (10, some (1000, 0)), (12, some (5, 0)), (18, some (900, 0)), (19, some (900, 0)), (20, some (900, 6)), (22, some (5, 1)), (25, some (900, 0)), (26, some (900, 6)), (27, some (5, 0)), (31, some (900, 0)), (32, some (5, 2)), (34, some (900, 0)), (35, some (900, 0)), (36, some (900, 3)), (38, some (5, 4))] Tryz.call150 O (by kernel_rfl) O O (fun _ => rfl) (fun _ _ => rfl) (fun _ => rfl) (fun w hI => jl (σ := { s with time := s.time + x.cost }) (zfp f { s with time := s.time + x.cost } x.var (xg s.vals x.term) v1 v2 v3 vv _ ov' Df bm w (hf.keep hI.k0 hlow) (kL hI O O O) (yW (fun q h => (hD q h).1) hDf hov) hvar hsB.inv.len hg) (hI.k0).size O O O) ?_
    rintro _ ov'' ⟨rfl, hov2⟩
    refine VD.done (by kernel_rfl) ?_
    refine Va 7 O (by omega) ?_
    refine zjz (⟨i + 1, _, ov''⟩) (zkZ O) (zl0 O) (⟨hi1, by rw [hex, hx], by rw [<- hx]; exact hinv, xu hov hov2⟩) (by first | omega | (dsimp only; omega)) 0 O O
   ·
    refine Vs 6 O ?_
    refine zjo O (fun a1 => ?_) (fun a1 => ?_)
    ·
     have hx : exS f hs x s = { s with outs := s.outs ++ [xg s.vals x.term], time := s.time + x.cost } := by rw [xl, zna (by omega), zna a4]; unfold xR; rw [zna a0, znb a1]
     refine Vw [900, 1000, 5] [16] O ?_
     refine Vd [0, 1, 2, 3, 4, 5, 6, 7, 8, 9, 10] 0 (by kernel_rfl) O O O ?_
     refine zlU 11 0 tc148 O (by kernel_rfl) O O (fun w hI => jG hg hsB.inv x.term ho.formed ho.ranged _ Df (fun _ => True) w _ (zkx ze (fun _ _ => rfl) (hI.at 901 O) (fun _ _ => trivial)) (RTm.put (hk_x.keep zj hI.k0 hlow))) ?_
     refine zm9 12 56 0 [(0, _)] tR31 ts3 tz3 (by decide) O (by kernel_rfl) O O (by kernel_rfl) (fun b56 => ?_)
     refine zlP 13 902 56 0 tu31 Tryz.el3 O (by decide) O (by kernel_rfl) O O O (by omega) (by omega) (fun u902 => ?_)
     refine Vd [14, 15] 0 (by kernel_rfl) O O O ?_
     refine zlR 902 O (by omega) ?_
     rintro bo co rfl hcap_902
     refine Vl 16 O (by kernel_rfl) O ?_
     refine VDx.done (by kernel_rfl) ?_
     refine Va 7 O (by omega) ?_
     refine zm4 902 O (e' := .row 3 1 (.slice (some ⟨bo, 0, none⟩) (s.outs.length + 1) co) (s.outs ++ [xg s.vals x.term]).length ((s.outs ++ [xg s.vals x.term]).map ze)) (by rw [zn8, List.map_append]; rfl) ?_
     refine zlD (p := (Value.slice (some ⟨bo, 0, none⟩) (s.outs.length + 1) co).ownBlock = ov.ownBlock \/ ∃ g, (Value.slice (some ⟨bo, 0, none⟩) (s.outs.length + 1) co).ownBlock = some g /\ W.heap.size <= g) (fun w hI => ziv (σ := { s with outs := s.outs ++ [xg s.vals x.term], time := s.time + x.cost }) hI O O O O) (fun hov2 => ?_)
     refine zjz (⟨i + 1, { s with outs := s.outs ++ [xg s.vals x.term], time := s.time + x.cost }, _⟩) (zkZ O) (zl0 O) (⟨hi1, by rw [hex, hx], by rw [<- hx]; exact hinv, hov2⟩) (by first | omega | (dsimp only; omega)) 0 O O
    ·
     refine Vs 6 O ?_
     refine zjo O (fun a3 => ?_) (fun a3 => ?_)
     ·
      have hx := xl f hs x s
      rw [znb a3] at hx
      rw [znb a3] at hnS
      refine Vs 1 O ?_
      refine Vw [900, 1000, 5] [] O ?_
      refine Vd [0, 1, 2, 3, 4, 5] 0 (by kernel_rfl) O O O ?_
      refine zlU 6 0 tc148 O (by kernel_rfl) O O (fun w hI => jG hg hsB.inv x.term ho.formed ho.ranged _ Df (fun _ => True) w _ (zkx ze (fun _ _ => rfl) (hI.at 901 O) (fun _ _ => trivial)) (RTm.put (hk_x.keep zj hI.k0 hlow))) ?_
      refine Vd [7] 0 (by kernel_rfl) O O O ?_
      refine VD.done (by kernel_rfl) ?_
      refine Vs 1 O ?_
      refine zjo O (fun z => ?_) (fun z => ?_)
      ·
       rw [znb z] at hx
       refine Vs 4 O ?_
       refine zmn [900, 901, 902] (Hn := fun ov'' : Value => [(900, .own bm [v1, v2, v3, vv, .slice ahv hs.length chv, ov'', .int .i64 (exL f hs x.thn { s with time := s.time + x.cost }).time] 180), (901, .row 3 1 vv (exL f hs x.thn { s with time := s.time + x.cost }).vals.length ((exL f hs x.thn { s with time := s.time + x.cost }).vals.map ze)), (902, .row 3 1 ov'' (exL f hs x.thn { s with time := s.time + x.cost }).outs.length ((exL f hs x.thn { s with time := s.time + x.cost }).outs.map ze))]) [(0, some (900, 0)), (5, some (5, 0)), (10, some (1000, 0)), (12, some (5, 0)), (18, some (900, 0)), (19, some (900, 0)), (20, some (900, 6)), (22, some (5, 1)), (25, some (900, 0)), (26, some (900, 6)), (27, some (5, 0)), (62, some (900, 0)), (63, some (900, 0)), (64, some (900, 3)), (66, some (5, 4)), (70, some (900, 0)), (71, some (5, 7))] Tryz.call120 O (fun _ _ => rfl) (fun _ => rfl) (fun w hI => jl (σ := { s with time := s.time + x.cost }) (i1 hp1 _ { s with time := s.time + x.cost } hs1' (by omega) Df Dh w bm v1 v2 v3 vv _ ov' _ (fun q hq => Nat.lt_of_lt_of_le (hDb q hq) (hI.k0).size) (hf.keep hI.k0 hlow) (hh.keep zb hI.k0 hlow2) (ht_x.keep zf hI.k0 hlow) (kL hI O O O) (fun q hq => ⟨yW (fun q h => (hD q h).1) hDf hov q hq, yW (fun q h => (hD q h).2) hDh hov q hq⟩)) (hI.k0).size O O O) ?_
       rintro _ ov'' ⟨rfl, hov2⟩
       refine Va 8 O (by omega) ?_
       refine zjz (⟨i + 1, _, ov''⟩) (zkZ O) (zl0 O) (⟨hi1, by rw [hex, hx], by rw [<- hx]; exact hinv, xu hov hov2⟩) (by first | omega | (dsimp only; omega)) 0 O O
      ·
       rw [zna z] at hx
       refine Vs 4 O ?_
       refine zmn [900, 901, 902] (Hn := fun ov'' : Value => [(900, .own bm [v1, v2, v3, vv, .slice ahv hs.length chv, ov'', .int .i64 (exL f hs x.els { s with time := s.time + x.cost }).time] 180), (901, .row 3 1 vv (exL f hs x.els { s with time := s.time + x.cost }).vals.length ((exL f hs x.els { s with time := s.time + x.cost }).vals.map ze)), (902, .row 3 1 ov'' (exL f hs x.els { s with time := s.time + x.cost }).outs.length ((exL f hs x.els { s with time := s.time + x.cost }).outs.map ze))]) [(0, some (900, 0)), (5, some (5, 0)), (10, some (1000, 0)), (12, some (5, 0)), (18, some (900, 0)), (19, some (900, 0)), (20, some (900, 6)), (22, some (5, 1)), (25, some (900, 0)), (26, some (900, 6)), (27, some (5, 0)), (62, some (900, 0)), (63, some (900, 0)), (64, some (900, 3)), (66, some (5, 4)), (74, some (900, 0)), (75, some (5, 8))] Tryz.call120 O (fun _ _ => rfl) (fun _ => rfl) (fun w hI => jl (σ := { s with time := s.time + x.cost }) (i2 hp2 _ { s with time := s.time + x.cost } hs1' (by omega) Df Dh w bm v1 v2 v3 vv _ ov' _ (fun q hq => Nat.lt_of_lt_of_le (hDb q hq) (hI.k0).size) (hf.keep hI.k0 hlow) (hh.keep zb hI.k0 hlow2) (hs_x.keep zf hI.k0 hlow) (kL hI O O O) (fun q hq => ⟨yW (fun q h => (hD q h).1) hDf hov q hq, yW (fun q h => (hD q h).2) hDh hov q hq⟩)) (hI.k0).size O O O) ?_
       rintro _ ov'' ⟨rfl, hov2⟩
       refine Va 8 O (by omega) ?_
       refine zjz (⟨i + 1, _, ov''⟩) (zkZ O) (zl0 O) (⟨hi1, by rw [hex, hx], by rw [<- hx]; exact hinv, xu hov hov2⟩) (by first | omega | (dsimp only; omega)) 0 O O
     ·
      refine Vs 6 O ?_
      refine zjo O (fun a5 => ?_) (fun a5 => ?_)
      ·
       have hx : exS f hs x s = { s with vals := jh f.vars s.vals x.var (lki hs x.n.toNat), time := s.time + x.cost } := by rw [xl, zna (by omega), zna a4]; unfold xR; rw [zna a0, zna a1, znb a5]
       have hvar := ho.var (.inr a5)
       have hnum := ho.num a5
       obtain ⟨y, he_y, hm_y⟩ := gE_ hs (x.n.toNat) (by omega)
       obtain ⟨b_y, o_y, c_y, ha_y, hd_y, hc_y, hR_y⟩ := hh.atD he_y
       obtain rfl := hR_y
       refine zm2 2000 0 O O (fun h_ => by have h1_ := hlow2' _ h_; have h2_ := hd_y; first | omega | exact h1_ h2_) hc_y ?_
       have hy : lki hs x.n.toNat = y := zfa he_y
       rw [hy] at hx
       refine Vw [1000, 5, 2000] [] O ?_
       refine Vd [0, 1, 2, 3, 4, 5, 7, 8] 0 (by kernel_rfl) O O O ?_
       refine Vo 6 0 O (by kernel_rfl) O O ?_
       refine zlL 9 2000 tR31 ts3 O (by kernel_rfl) O ha_y (by omega) (x.n.toNat) (by omega) O ?_
       refine Vd [10] 0 (by kernel_rfl) O O O ?_
       refine zmo 11 0 [900, 901, 902] (Hn := fun ov'' : Value => [(900, .own bm [v1, v2, v3, vv, .slice ahv hs.length chv, ov'', .int .i64 ({ s with vals := jh f.vars s.vals x.var (y), time := s.time + x.cost }).time] 180), (901, .row 3 1 vv ({ s with vals := jh f.vars s.vals x.var (y), time := s.time + x.cost }).vals.length (({ s with vals := jh f.vars s.vals x.var (y), time := s.time + x.cost }).vals.map ze)), (902, .row 3 1 ov'' ({ s with vals := jh f.vars s.vals x.var (y), time := s.time + x.cost }).outs.length (({ s with vals := jh f.vars s.vals x.var (y), time := s.time + x.cost }).outs.map ze))]) [(0, some (900, 0)), (5, some (5, 0)), (10, some (1000, 0)), (12, some (5, 0)), (18, some (900, 0)), (19, some (900, 0)), (20, some (900, 6)), (22, some (5, 1)), (25, some (900, 0)), (26, some (900, 6)), (27, some (5, 0)), (80, some (900, 0)), (81, some (5, 2)), (83, some (900, 0)), (84, some (900, 0)), (85, some (900, 4)), (87, some (5, 3)), (89, some (2000, 0))] Tryz.call150 O (by kernel_rfl) O O (fun _ => rfl) (fun _ _ => rfl) (fun _ => rfl) (fun w hI => jl (σ := { s with time := s.time + x.cost }) (zfp f { s with time := s.time + x.cost } x.var (y) v1 v2 v3 vv _ ov' Df bm w (hf.keep hI.k0 hlow) (kL hI O O O) (yW (fun q h => (hD q h).1) hDf hov) hvar hsB.inv.len hg) (hI.k0).size O O O) ?_
       rintro _ ov'' ⟨rfl, hov2⟩
       refine VD.done (by kernel_rfl) ?_
       refine Va 7 O (by omega) ?_
       refine zjz (⟨i + 1, _, ov''⟩) (zkZ O) (zl0 O) (⟨hi1, by rw [hex, hx], by rw [<- hx]; exact hinv, xu hov hov2⟩) (by first | omega | (dsimp only; omega)) 0 O O
      ·
       refine Vs 6 O ?_
       refine zjo O (fun a6 => ?_) (fun a6 => ?_)
       ·
        have hx : exS f hs x s = { s with time := xh x.bounds (s.time + x.cost) } := by rw [xl, zna (by omega), zna a4]; unfold xR; rw [zna a0, zna a1, zna a5, znb a6]
        refine Vw [900, 1000, 5] [10] O ?_
        refine Vd [0, 1, 2, 3, 4, 5, 6] 0 (by kernel_rfl) O O O ?_
        refine zlU 7 0 Tryz.call151 O (by kernel_rfl) O O (fun w hI => zaY x.bounds (s.time + x.cost) _ Df w (hb_x.keep zb hI.k0 hlow)) ?_
        refine Vd [8, 9] 0 (by kernel_rfl) O O O ?_
        refine Vl 10 O (by kernel_rfl) O ?_
        refine VDx.done (by kernel_rfl) ?_
        refine Va 7 O (by omega) ?_
        refine zjz (⟨i + 1, { s with time := xh x.bounds (s.time + x.cost) }, ov'⟩) (zkZ O) (zl0 O) (⟨hi1, by rw [hex, hx], by rw [<- hx]; exact hinv, hov⟩) (by first | omega | (dsimp only; omega)) 0 O O
       ·
        have hx : exS f hs x s = { s with time := s.time + x.cost } := by rw [xl, zna (by omega), zna a4]; unfold xR; rw [zna a0, zna a1, zna a5, zna a6]
        refine Va 8 O (by omega) ?_
        refine zjz (⟨i + 1, { s with time := s.time + x.cost }, ov'⟩) (zkZ O) (zl0 O) (⟨hi1, by rw [hex, hx], by rw [<- hx]; exact hinv, hov⟩) (by first | omega | (dsimp only; omega)) 0 O O
 ·
  have hii : i = l.length := by omega
  subst hii
  rw [zn5] at hall
  subst hall
  refine Vs 4 O ?_
  refine zjW Tryz.results120 (fun w hI => ⟨_, rfl, rfl, kZ hI O O O hov⟩)
end Go.Proofs.YtbkhagigkglgoaaGreatDoor
