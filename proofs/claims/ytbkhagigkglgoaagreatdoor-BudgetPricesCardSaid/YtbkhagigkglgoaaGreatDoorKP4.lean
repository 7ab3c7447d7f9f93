/-
  Contracts and the mathematics that the proof needs. Nothing here is a claim.
-/
import Derived.Test.YtbkhagigkglgoaaGreatDoorKP3
namespace Go.Proofs.YtbkhagigkglgoaaGreatDoor
open Go.GL
def RNew (cs : List Value) (e : TypeId) : World -> Value -> World -> Prop := fun a v a' => ∃ b, v = .pointer (some ⟨b, 0, none⟩) /\ New a cs e b a'
theorem RNew.ext {cs : List Value} {e : TypeId} {a a' : World} {v : Value} (h : RNew cs e a v a') : Ext a a' := by obtain ⟨_, _, h⟩ := h; obtain ⟨_, _, _, h⟩ := h; exact h
theorem RNew.apart {cs cs' : List Value} {e e' : TypeId} {v u : Value} {b c : Nat} (h : zhR (RNew cs e) v (RNew cs' e') u) (hb : v = .pointer (some ⟨b, 0, none⟩)) (hc : u = .pointer (some ⟨c, 0, none⟩)) : b ≠ c := by
 rcases h with ⟨a, a', d, d', ⟨b1, e1, g1, s1, _, _⟩, ⟨c1, e2, g2, s2, _, _⟩, hk⟩ | ⟨a, a', d, d', ⟨b1, e1, g1, s1, _, _⟩, ⟨c1, e2, g2, s2, _, _⟩, hk⟩
 . rw [hb] at e1; rw [hc] at e2; cases e1; cases e2; have := hk.size; omega
 . rw [hb] at e1; rw [hc] at e2; cases e1; cases e2; have := hk.size; omega
theorem zgN (vs : List Vr) (nh : Nat) (l : List St) : ∀ (v : Value) (D : Nat -> Prop) (w : World) (top : Bool), zc vs nh l top = 0 -> SlR 10 RSt D w v l -> zy l <= 1000000 -> Calls Tryz.prog 161 #[v] w (Ret fun r w' => r = .agg #[.int .i64 (cap 1099511627776 (bds l).1), .int .i64 (cap 1099511627776 (bds l).2.1), .int .i64 (cap 1099511627776 (bds l).2.2)] /\ Ext w w') := by
 induction l using Sts.ind with
 | h l ih =>
 intro v D w top hok hl hb
 have hmx := hl.max
 obtain ⟨av, nv, rfl⟩ := hl.form
 have hl0 := hl
 have hE := Keep.refl (fun _ => False) w
 refine G.in1 Tryz.func161 rfl Tryz.ntmps161 rfl (Gs 2 rfl (G.mem rfl rfl (M.alloc (cs := _) tz223 rfl) ?_))
 rintro _ w_r ⟨r, rfl, hg_r, hs_r, hB_r, hk_r⟩
 have hge_r : _ <= r := Nat.le_trans hE.size (Nat.le_of_eq hg_r.symm)
 obtain ⟨hE, hl⟩ := Tr2 hk_r hE hl
 refine Gs 4 rfl (G.mem rfl rfl (M.alloc (cs := _) tz223 rfl) ?_)
 rintro _ w_o ⟨o, rfl, hg_o, hs_o, hB_o, hk_o⟩
 have hn_r_o : r ≠ o := by have := hB_r.lt; omega
 have hge_o : _ <= o := Nat.le_trans hE.size (Nat.le_of_eq hg_o.symm)
 obtain ⟨hE, hl, hB_r⟩ := Tr3 hk_o hE hl hB_r
 refine Gs 11 rfl ?_
 have hk0 := Keep.refl (fun q => q = o) w_o
 refine G.loop (σ := Nat) (fun i => [(2, .pointer (some ⟨r, 0, none⟩)), (3, .pointer (some ⟨o, 0, none⟩)), (9, .slice av l.length nv), (10, .int .i64 l.length), (11, .int .i64 i)]) (fun i => fun w' => i <= l.length /\ Blk w' o [.int .i64 (cap 1099511627776 (bds (l.take i)).1), .int .i64 (cap 1099511627776 (bds (l.take i)).2.1), .int .i64 (cap 1099511627776 (bds (l.take i)).2.2)] 223 /\ Blk w' r [.int .i64 0, .int .i64 0, .int .i64 0] 223 /\ Ext w w') (fun i => l.length - i) (0) (Sub.of rfl) (⟨Nat.zero_le _, hB_o, hB_r, hE⟩) ?_
 rintro i w1 ⟨hi, hB_o, hB_r, hE⟩
 have hl := hl0.ext zf hE
 refine Gs 6 rfl (G.ite rfl (fun hlt => ?_) (fun hlt => ?_))
 ·
  obtain ⟨x, he_x⟩ : ∃ x, l[i]? = some x := ⟨_, List.getElem?_eq_getElem (by omega)⟩
  have hm_x := List.mem_of_getElem? he_x
  obtain ⟨b_x, o_x, c_x, ha_x, _, hc_x, hR_x⟩ := hl.at he_x
  have h1_x := RSt.one hR_x
  obtain ⟨v1_x, v2_x, v3_x, v4_x, rfl, hk_x, ht_x, hs_x, hb_x⟩ := hR_x.get
  obtain ⟨a1_x, n1_x, rfl⟩ := hk_x.form
  obtain ⟨a2_x, n2_x, rfl⟩ := ht_x.form
  obtain ⟨a3_x, n3_x, rfl⟩ := hs_x.form
  obtain ⟨a4_x, n4_x, rfl⟩ := hb_x.form
  have hlt_x : b_x < _ := World.block_lt_of_cell? _ _ (hc_x 0 _ rfl)
  have htk := ze4 he_x
  have htk1 : (bds (l.take (i + 1))).1 = (bds (l.take i)).1 + (yv x).1 := by rw [htk]
  have htk2 : (bds (l.take (i + 1))).2.1 = (bds (l.take i)).2.1 + (yv x).2.1 := by rw [htk]
  have htk3 : (bds (l.take (i + 1))).2.2 = (bds (l.take i)).2.2 + (yv x).2.2 := by rw [htk]
  have hpre : 0 <= (bds (l.take i)).1 /\ 0 <= (bds (l.take i)).2.1 /\ 0 <= (bds (l.take i)).2.2 := zfr hok i
  obtain ⟨last, hx0⟩ := xh l top hok x hm_x
  obtain ⟨hS, _, _, hs1, hs2⟩ := xL hx0
  have hcost := hS.cost
  have n1 := yL x.thn _ hs1
  have n2 := yL x.els _ hs2
  have y := kC hx0
  have hbx := qq hm_x
  rw [St.bulk_eq] at hbx
  refine Gs 6 rfl (G.ops1 rfl rfl (R.indexS tR54 ts134 rfl rfl ha_x (by omega)) (G.ldK rfl tg134 ts134 hc_x rfl (G.mem rfl rfl (M.alloc (cs := _) tz134 rfl) ?_)))
  rintro _ wa1 ⟨c, rfl, hg_c, hs_c, hB_c, hk_c⟩
  refine G.mem0 rfl (M.storeK ts134 rfl rfl rfl rfl h1_x hB_c (by simp)) ?_
  rintro w_c ⟨_, hB_c, hkk_c⟩
  replace hk_c := hk_c.trans hkk_c (fun q hq h => by have h : q = c := h; omega)
  have hn_r_c : r ≠ c := by have := hB_r.lt; omega
  have hn_o_c : o ≠ c := by have := hB_o.lt; omega
  have hge_c : _ <= c := Nat.le_trans hE.size (Nat.le_of_eq hg_c.symm)
  obtain ⟨hE, hl, hB_r, hB_o, hc_x, hk_x, ht_x⟩ := Tr7 hk_c hE hl hB_r hB_o hc_x hk_x ht_x
  obtain ⟨hs_x, hb_x⟩ := Tr2 hk_c hs_x hb_x
  refine Gs 5 rfl (G.ld rfl tg3 (hB_c.cells 1 _ rfl) (G.ops1 rfl rfl (R.build (v := .agg #[.int .i64 1, .int .i64 0, .int .i64 x.cost]) [(0, _), (2, _)] rfl (fun _ => by kernel_rfl)) (G.mem rfl rfl (M.alloc (cs := _) tz223 rfl) ?_)))
  rintro _ wa2 ⟨p, rfl, hg_p, hs_p, hB_p, hk_p⟩
  refine G.mem0 rfl (M.storeK ts223 rfl rfl rfl rfl (by simp [Value.oneCell']) hB_p (by simp)) ?_
  rintro w_p ⟨_, hB_p, hkk_p⟩
  replace hk_p := hk_p.trans hkk_p (fun q hq h => by have h : q = p := h; omega)
  have hn_r_p : r ≠ p := by have := hB_r.lt; omega
  have hn_o_p : o ≠ p := by have := hB_o.lt; omega
  have hn_c_p : c ≠ p := by have := hB_c.lt; omega
  have hge_p : _ <= p := Nat.le_trans hE.size (Nat.le_of_eq hg_p.symm)
  obtain ⟨hE, hl, hB_r, hB_o, hk_x, ht_x, hs_x⟩ := Tr7 hk_p hE hl hB_r hB_o hk_x ht_x hs_x
  obtain ⟨hb_x, hB_c⟩ := Tr2 hk_p hb_x hB_c
  refine Gs 3 rfl ?_
  have hlr : r < w_p.heap.size := hB_r.lt
  have hlo : o < w_p.heap.size := hB_o.lt
  have hlc : c < w_p.heap.size := hB_c.lt
  have hlp : p < w_p.heap.size := hB_p.lt
  refine Dw (fun q => Ext w_p q) [] (fun wd0 hD _ => (Ds [0] (by kernel_rfl) rfl (WD.take 1 rfl (by kernel_rfl) rfl rfl rfl hD (fun w1 hw1 => R.load tg54 rfl ((hw1.blk hB_c (fun h => h)).cells 7 _ rfl)) (Ds [3] (by kernel_rfl) rfl (WD.take 4 rfl (by kernel_rfl) rfl rfl rfl hD (fun w1 hw1 => R.load tg54 rfl ((hw1.blk hB_c (fun h => h)).cells 8 _ rfl)) ?_)))))
  refine WD.many (fuel := 2) (L3 := #[true, true, true, true, true, true, true, true, false, false]) [⟨2, _, 20, fun a v a' => v = .agg #[.int .i64 (cap 1099511627776 (bds x.thn).1), .int .i64 (cap 1099511627776 (bds x.thn).2.1), .int .i64 (cap 1099511627776 (bds x.thn).2.2)] /\ Ext a a'⟩, ⟨5, _, 23, fun a v a' => v = .agg #[.int .i64 (cap 1099511627776 (bds x.els).1), .int .i64 (cap 1099511627776 (bds x.els).2.1), .int .i64 (cap 1099511627776 (bds x.els).2.2)] /\ Ext a a'⟩, ⟨6, _, 7, RNew [.int .i64 0, .int .i64 0, .int .i64 0] 223⟩, ⟨7, _, 8, RNew [.int .i64 0, .int .i64 0, .int .i64 0] 223⟩]
   (List.forall_mem_cons.2 ⟨⟨rfl, rfl, rfl, rfl, rfl⟩, List.forall_mem_cons.2 ⟨⟨rfl, rfl, rfl, rfl, rfl⟩, List.forall_mem_cons.2 ⟨⟨rfl, rfl, rfl, rfl, rfl⟩, List.forall_mem_cons.2 ⟨⟨rfl, rfl, rfl, rfl, rfl⟩, by simp⟩⟩⟩⟩)
   (show List.Nodup [20, 23, 7, 8] by decide) (show List.Nodup [2, 5, 6, 7] by decide) (by kernel_rfl) (fun w' h => hD.ext h) ?_ ?_ ?_
  . refine List.forall_mem_cons.2 ⟨fun a v a' h => h.2, List.forall_mem_cons.2 ⟨fun a v a' h => h.2, List.forall_mem_cons.2 ⟨fun a v a' h => h.ext, List.forall_mem_cons.2 ⟨fun a v a' h => h.ext, by simp⟩⟩⟩⟩
  . refine List.forall_mem_cons.2 ⟨fun w' h => Does.call (F.call (vs := [_]) Tryz.call161 rfl) ((ih x hm_x).1 _ _ _ _ hs1 (ht_x.ext zf (hD.ext h)) (by omega)), List.forall_mem_cons.2 ⟨fun w' h => Does.call (F.call (vs := [_]) Tryz.call161 rfl) ((ih x hm_x).2 _ _ _ _ hs2 (hs_x.ext zf (hD.ext h)) (by omega)), List.forall_mem_cons.2 ⟨fun w' h => Does.of (M.alloc (cs := _) tz223 rfl), List.forall_mem_cons.2 ⟨fun w' h => Does.of (M.alloc (cs := _) tz223 rfl), by simp⟩⟩⟩⟩
  intro val wm hEm hmade hap
  obtain ⟨_, _, _, ⟨e2, _⟩, _⟩ := hmade _ (List.mem_cons_self ..)
  obtain ⟨_, _, _, ⟨e5, _⟩, _⟩ := hmade _ (List.mem_cons_of_mem _ (List.mem_cons_self ..))
  obtain ⟨a6, a6', h61, ⟨t, e6, hg6, hs6, hB6, hk6⟩, h62⟩ := hmade _ (List.mem_cons_of_mem _ (List.mem_cons_of_mem _ (List.mem_cons_self ..)))
  obtain ⟨a7, a7', h71, ⟨u, e7, hg7, hs7, hB7, hk7⟩, h72⟩ := hmade _ (List.mem_cons_of_mem _ (List.mem_cons_of_mem _ (List.mem_cons_of_mem _ (List.mem_cons_self ..))))
  have hn_t_u : t ≠ u := RNew.apart (hap _ (List.mem_cons_of_mem _ (List.mem_cons_of_mem _ (List.mem_cons_self ..))) _ (List.mem_cons_of_mem _ (List.mem_cons_of_mem _ (List.mem_cons_of_mem _ (List.mem_cons_self ..)))) (show (7 : Nat) ≠ 8 by decide)) e6 e7
  have hgt : w_p.heap.size <= t := by have := hD.size; have := h61.size; omega
  have hgu : w_p.heap.size <= u := by have := hD.size; have := h71.size; omega
  have hB_t := h62.blk hB6 (fun h => h)
  have hB_u := h72.blk hB7 (fun h => h)
  replace hD := hD.ext hEm
  have hn_r_t : r ≠ t := by omega
  have hn_r_u : r ≠ u := by omega
  have hn_o_t : o ≠ t := by omega
  have hn_o_u : o ≠ u := by omega
  have hn_c_t : c ≠ t := by omega
  have hn_c_u : c ≠ u := by omega
  have hn_p_t : p ≠ t := by omega
  have hn_p_u : p ≠ u := by omega
  show WD _ _ _ _ _ _ _ _ ((20, val 20) :: (23, val 23) :: (7, val 7) :: (8, val 8) :: _) _
  rw [e2, e5, e6, e7]
  refine WD.mem0 8 rfl (by kernel_rfl) rfl rfl (M.storeK ts223 rfl rfl rfl rfl (by simp [Value.oneCell']) hB_t (by simp)) ?_
  rintro ws1 ⟨_, hB_t, hs1⟩
  replace hB_u := hs1.blk hB_u (fun h => hn_t_u h.symm)
  replace hD := hD.trans hs1 (fun q hq h => by have h : q = t := h; omega)
  refine ⟨fun _ => hD, ?_⟩
  refine WD.mem0 9 rfl (by kernel_rfl) rfl rfl (M.storeK ts223 rfl rfl rfl rfl (by simp [Value.oneCell']) hB_u (by simp)) ?_
  rintro ws2 ⟨_, hB_u, hs2⟩
  replace hB_t := hs2.blk hB_t hn_t_u
  replace hD := hD.trans hs2 (fun q hq h => by have h : q = u := h; omega)
  refine ⟨fun _ => hD, ?_⟩
  refine G.done (by kernel_rfl) ?_ _
  obtain ⟨hE, hl, hB_r, hB_o, hk_x, ht_x, hs_x⟩ := Tr7 hD hE hl hB_r hB_o hk_x ht_x hs_x
  obtain ⟨hb_x, hB_c, hB_p⟩ := Tr3 hD hb_x hB_c hB_p
  have hge_t : w.heap.size <= t := by have := hE.size; omega
  have hge_u : w.heap.size <= u := by have := hE.size; omega
  have r1 := zK n1.1 (show (0:Int) <= 1099511627776 by decide)
  have r2 := zK n1.2.1 (show (0:Int) <= 1099511627776 by decide)
  have r3 := zK n1.2.2 (show (0:Int) <= 1099511627776 by decide)
  have r4 := zK n2.1 (show (0:Int) <= 1099511627776 by decide)
  have r5 := zK n2.2.1 (show (0:Int) <= 1099511627776 by decide)
  have r6 := zK n2.2.2 (show (0:Int) <= 1099511627776 by decide)
  have t1 := zK hpre.1 (show (0:Int) <= 1099511627776 by decide)
  have t2 := zK hpre.2.1 (show (0:Int) <= 1099511627776 by decide)
  have t3 := zK hpre.2.2 (show (0:Int) <= 1099511627776 by decide)
  refine Gs 5 rfl (G.ld rfl tg128 (hB_c.cells 0 _ rfl) (Gs 9 rfl (G.ite rfl (fun a1 => ?_) (fun a1 => ?_))))
  ·
   obtain ⟨g1, g2⟩ := hS.free (by omega) (by omega)
   have eB : yv x = (1, 1, x.cost) := by rw [yc, g1, g2, if_neg (by omega)]; simp [bds, a1]
   have f1 : cap 1099511627776 1 = cap 1099511627776 (yv x).1 := by rw [eB]
   have f2 : cap 1099511627776 1 = cap 1099511627776 (yv x).2.1 := by rw [eB]
   have f3 : cap 1099511627776 x.cost = cap 1099511627776 (yv x).2.2 := by rw [eB]
   have z1 : (0 : Int) <= 1 := by decide
   have z2 : (0 : Int) <= 1 := by decide
   have z3 := hcost.1
   refine Gs 2 rfl (G.mem0 rfl (M.store ts3 rfl rfl rfl rfl hB_p (by simp)) ?_)
   rintro ws3 ⟨_, hB_p, hs3⟩
   replace hE := hE.trans hs3 (fun q hq h => by have h : q = p := h; omega)
   replace hB_r := hs3.blk hB_r hn_r_p
   replace hB_o := hs3.blk hB_o hn_o_p
   replace hB_c := hs3.blk hB_c hn_c_p
   replace hB_t := hs3.blk hB_t (fun h => hn_p_t h.symm)
   replace hB_u := hs3.blk hB_u (fun h => hn_p_u h.symm)
   refine Gs 6 rfl (G.ld rfl tg3 (hB_o.cells 0 _ rfl) (Gs 1 rfl (G.ld rfl tg3 (hB_p.cells 0 _ rfl) (Ga 3 rfl (by omega) (G.mem0 rfl (M.store ts3 rfl rfl rfl rfl hB_o (by simp)) ?_)))))
   rintro ws4 ⟨_, hB_o, hs4⟩
   replace hE := hE.trans hs4 (fun q hq h => by have h : q = o := h; omega)
   replace hB_r := hs4.blk hB_r hn_r_o
   replace hB_c := hs4.blk hB_c (fun h => hn_o_c h.symm)
   replace hB_p := hs4.blk hB_p (fun h => hn_o_p h.symm)
   replace hB_t := hs4.blk hB_t (fun h => hn_o_t h.symm)
   replace hB_u := hs4.blk hB_u (fun h => hn_o_u h.symm)
   refine Gs 5 rfl (G.ld rfl tg3 (hB_o.cells 1 _ rfl) (Gs 1 rfl (G.ld rfl tg3 (hB_p.cells 1 _ rfl) (Ga 3 rfl (by omega) (G.mem0 rfl (M.store ts3 rfl rfl rfl rfl hB_o (by simp)) ?_)))))
   rintro ws5 ⟨_, hB_o, hs5⟩
   replace hE := hE.trans hs5 (fun q hq h => by have h : q = o := h; omega)
   replace hB_r := hs5.blk hB_r hn_r_o
   replace hB_c := hs5.blk hB_c (fun h => hn_o_c h.symm)
   replace hB_p := hs5.blk hB_p (fun h => hn_o_p h.symm)
   replace hB_t := hs5.blk hB_t (fun h => hn_o_t h.symm)
   replace hB_u := hs5.blk hB_u (fun h => hn_o_u h.symm)
   refine Gs 4 rfl (G.ld rfl tg3 (hB_o.cells 2 _ rfl) (Gs 1 rfl (G.ld rfl tg3 (hB_p.cells 2 _ rfl) (Ga 3 rfl (by omega) (G.mem0 rfl (M.store ts3 rfl rfl rfl rfl hB_o (by simp)) ?_)))))
   rintro ws6 ⟨_, hB_o, hs6⟩
   replace hE := hE.trans hs6 (fun q hq h => by have h : q = o := h; omega)
   replace hB_r := hs6.blk hB_r hn_r_o
   replace hB_c := hs6.blk hB_c (fun h => hn_o_c h.symm)
   replace hB_p := hs6.blk hB_p (fun h => hn_o_p h.symm)
   replace hB_t := hs6.blk hB_t (fun h => hn_o_t h.symm)
   replace hB_u := hs6.blk hB_u (fun h => hn_o_u h.symm)
   refine Ga 7 rfl (by omega) (G.back (i + 1) (Sub.of rfl) (⟨by omega, by rw [htk1, htk2, htk3, <- yg hpre.1 y.1 z1 f1, <- yg hpre.2.1 y.2.1 z2 f2, <- yg hpre.2.2 y.2.2 z3 f3]; exact hB_o, hB_r, hE⟩) (by first | omega | (dsimp only; omega)))
  ·
   refine Gs 6 rfl (G.ite rfl (fun a3 => ?_) (fun a3 => ?_))
   ·
    have n4 : ¬ x.act = 4 := by omega
    have f1 : cap 1099511627776 (1 + max (cap 1099511627776 (bds x.thn).1) (cap 1099511627776 (bds x.els).1)) = cap 1099511627776 (yv x).1 := by rw [yc, if_neg n4]; exact zbv (by omega) n1.1 n2.1
    have f2 : cap 1099511627776 (max (cap 1099511627776 (bds x.thn).2.1) (cap 1099511627776 (bds x.els).2.1)) = cap 1099511627776 (yv x).2.1 := by rw [yc, if_neg n4]; simp only [a1, if_false]; exact ze5 n1.2.1 n2.2.1
    have f3 : cap 1099511627776 (x.cost + max (cap 1099511627776 (bds x.thn).2.2) (cap 1099511627776 (bds x.els).2.2)) = cap 1099511627776 (yv x).2.2 := by rw [yc, if_neg n4]; exact zbv hcost.1 n1.2.2 n2.2.2
    have z1 : 0 <= 1 + max (cap 1099511627776 (bds x.thn).1) (cap 1099511627776 (bds x.els).1) := by omega
    have z2 : 0 <= max (cap 1099511627776 (bds x.thn).2.1) (cap 1099511627776 (bds x.els).2.1) := by omega
    have z3 : 0 <= x.cost + max (cap 1099511627776 (bds x.thn).2.2) (cap 1099511627776 (bds x.els).2.2) := by omega
    refine Gs 3 rfl (G.ld rfl tg3 (hB_p.cells 0 _ rfl) (Gs 1 rfl (G.ld rfl tg3 (hB_t.cells 0 _ rfl) (Gs 1 rfl (G.ld rfl tg3 (hB_u.cells 0 _ rfl) (Ga 3 rfl (by omega) (G.mem0 rfl (M.store ts3 rfl rfl rfl rfl hB_p (by simp)) ?_)))))))
    rintro ws7 ⟨_, hB_p, hs7⟩
    replace hE := hE.trans hs7 (fun q hq h => by have h : q = p := h; omega)
    replace hB_r := hs7.blk hB_r hn_r_p
    replace hB_o := hs7.blk hB_o hn_o_p
    replace hB_c := hs7.blk hB_c hn_c_p
    replace hB_t := hs7.blk hB_t (fun h => hn_p_t h.symm)
    replace hB_u := hs7.blk hB_u (fun h => hn_p_u h.symm)
    refine Gs 5 rfl (G.ld rfl tg3 (hB_t.cells 1 _ rfl) (Gs 1 rfl (G.ld rfl tg3 (hB_u.cells 1 _ rfl) (Gs 2 rfl (G.mem0 rfl (M.store ts3 rfl rfl rfl rfl hB_p (by simp)) ?_)))))
    rintro ws8 ⟨_, hB_p, hs8⟩
    replace hE := hE.trans hs8 (fun q hq h => by have h : q = p := h; omega)
    replace hB_r := hs8.blk hB_r hn_r_p
    replace hB_o := hs8.blk hB_o hn_o_p
    replace hB_c := hs8.blk hB_c hn_c_p
    replace hB_t := hs8.blk hB_t (fun h => hn_p_t h.symm)
    replace hB_u := hs8.blk hB_u (fun h => hn_p_u h.symm)
    refine Gs 4 rfl (G.ld rfl tg3 (hB_p.cells 2 _ rfl) (Gs 1 rfl (G.ld rfl tg3 (hB_t.cells 2 _ rfl) (Gs 1 rfl (G.ld rfl tg3 (hB_u.cells 2 _ rfl) (Ga 3 rfl (by omega) (G.mem0 rfl (M.store ts3 rfl rfl rfl rfl hB_p (by simp)) ?_)))))))
    rintro ws9 ⟨_, hB_p, hs9⟩
    replace hE := hE.trans hs9 (fun q hq h => by have h : q = p := h; omega)
    replace hB_r := hs9.blk hB_r hn_r_p
    replace hB_o := hs9.blk hB_o hn_o_p
    replace hB_c := hs9.blk hB_c hn_c_p
    replace hB_t := hs9.blk hB_t (fun h => hn_p_t h.symm)
    replace hB_u := hs9.blk hB_u (fun h => hn_p_u h.symm)
    refine Gs 6 rfl (G.ld rfl tg3 (hB_o.cells 0 _ rfl) (Gs 1 rfl (G.ld rfl tg3 (hB_p.cells 0 _ rfl) (Ga 3 rfl (by omega) (G.mem0 rfl (M.store ts3 rfl rfl rfl rfl hB_o (by simp)) ?_)))))
    rintro ws10 ⟨_, hB_o, hs10⟩
    replace hE := hE.trans hs10 (fun q hq h => by have h : q = o := h; omega)
    replace hB_r := hs10.blk hB_r hn_r_o
    replace hB_c := hs10.blk hB_c (fun h => hn_o_c h.symm)
    replace hB_p := hs10.blk hB_p (fun h => hn_o_p h.symm)
    replace hB_t := hs10.blk hB_t (fun h => hn_o_t h.symm)
    replace hB_u := hs10.blk hB_u (fun h => hn_o_u h.symm)
    refine Gs 5 rfl (G.ld rfl tg3 (hB_o.cells 1 _ rfl) (Gs 1 rfl (G.ld rfl tg3 (hB_p.cells 1 _ rfl) (Ga 3 rfl (by omega) (G.mem0 rfl (M.store ts3 rfl rfl rfl rfl hB_o (by simp)) ?_)))))
    rintro ws11 ⟨_, hB_o, hs11⟩
    replace hE := hE.trans hs11 (fun q hq h => by have h : q = o := h; omega)
    replace hB_r := hs11.blk hB_r hn_r_o
    replace hB_c := hs11.blk hB_c (fun h => hn_o_c h.symm)
    replace hB_p := hs11.blk hB_p (fun h => hn_o_p h.symm)
    replace hB_t := hs11.blk hB_t (fun h => hn_o_t h.symm)
    replace hB_u := hs11.blk hB_u (fun h => hn_o_u h.symm)
    refine Gs 4 rfl (G.ld rfl tg3 (hB_o.cells 2 _ rfl) (Gs 1 rfl (G.ld rfl tg3 (hB_p.cells 2 _ rfl) (Ga 3 rfl (by omega) (G.mem0 rfl (M.store ts3 rfl rfl rfl rfl hB_o (by simp)) ?_)))))
    rintro ws12 ⟨_, hB_o, hs12⟩
    replace hE := hE.trans hs12 (fun q hq h => by have h : q = o := h; omega)
    replace hB_r := hs12.blk hB_r hn_r_o
    replace hB_c := hs12.blk hB_c (fun h => hn_o_c h.symm)
    replace hB_p := hs12.blk hB_p (fun h => hn_o_p h.symm)
    replace hB_t := hs12.blk hB_t (fun h => hn_o_t h.symm)
    replace hB_u := hs12.blk hB_u (fun h => hn_o_u h.symm)
    refine Ga 7 rfl (by omega) (G.back (i + 1) (Sub.of rfl) (⟨by omega, by rw [htk1, htk2, htk3, <- yg hpre.1 y.1 z1 f1, <- yg hpre.2.1 y.2.1 z2 f2, <- yg hpre.2.2 y.2.2 z3 f3]; exact hB_o, hB_r, hE⟩) (by first | omega | (dsimp only; omega)))
   ·
    refine Gs 6 rfl (G.ite rfl (fun a4 => ?_) (fun a4 => ?_))
    ·
     have hr := hS.rep a4
     have p1 := xR x.n (1 + cap 1099511627776 (bds x.thn).1) 4096 1099511627777 hr.1 hr.2.1 (by omega) (by omega)
     have p2 := xR x.n (cap 1099511627776 (bds x.thn).2.1) 4096 1099511627776 hr.1 hr.2.1 (by omega) (by omega)
     have p3 := xR x.n (x.cost + cap 1099511627776 (bds x.thn).2.2) 4096 1099578736640 hr.1 hr.2.1 (by omega) (by omega)
     have q1 := Int.mul_nonneg hr.1 (show 0 <= 1 + (bds x.thn).1 by omega)
     have f1 : cap 1099511627776 (1 + x.n * (1 + cap 1099511627776 (bds x.thn).1)) = cap 1099511627776 (yv x).1 := by rw [yc, if_pos a4]; exact zfq p1.1 q1 (zay hr.1 (by omega) n1.1 (by omega))
     have f2 : cap 1099511627776 (x.n * cap 1099511627776 (bds x.thn).2.1) = cap 1099511627776 (yv x).2.1 := by rw [yc, if_pos a4]; exact ze6 hr.1 n1.2.1 (by omega)
     have f3 : cap 1099511627776 (x.n * (x.cost + cap 1099511627776 (bds x.thn).2.2)) = cap 1099511627776 (yv x).2.2 := by rw [yc, if_pos a4]; exact zay hr.1 hcost.1 n1.2.2 (by omega)
     have z1 : 0 <= 1 + x.n * (1 + cap 1099511627776 (bds x.thn).1) := by omega
     have z2 := p2.1
     have z3 := p3.1
     refine Gs 3 rfl (G.ld rfl tg3 (hB_p.cells 0 _ rfl) (Gs 1 rfl (G.ld rfl tg3 (hB_c.cells 3 _ rfl) (Gs 1 rfl (G.ld rfl tg3 (hB_t.cells 0 _ rfl) (Ga 4 rfl (by omega) (G.mem0 rfl (M.store ts3 rfl rfl rfl rfl hB_p (by simp)) ?_)))))))
     rintro ws13 ⟨_, hB_p, hs13⟩
     replace hE := hE.trans hs13 (fun q hq h => by have h : q = p := h; omega)
     replace hB_r := hs13.blk hB_r hn_r_p
     replace hB_o := hs13.blk hB_o hn_o_p
     replace hB_c := hs13.blk hB_c hn_c_p
     replace hB_t := hs13.blk hB_t (fun h => hn_p_t h.symm)
     replace hB_u := hs13.blk hB_u (fun h => hn_p_u h.symm)
     refine Gs 5 rfl (G.ld rfl tg3 (hB_c.cells 3 _ rfl) (Gs 1 rfl (G.ld rfl tg3 (hB_t.cells 1 _ rfl) (Ga 2 rfl (by omega) (G.mem0 rfl (M.store ts3 rfl rfl rfl rfl hB_p (by simp)) ?_)))))
     rintro ws14 ⟨_, hB_p, hs14⟩
     replace hE := hE.trans hs14 (fun q hq h => by have h : q = p := h; omega)
     replace hB_r := hs14.blk hB_r hn_r_p
     replace hB_o := hs14.blk hB_o hn_o_p
     replace hB_c := hs14.blk hB_c hn_c_p
     replace hB_t := hs14.blk hB_t (fun h => hn_p_t h.symm)
     replace hB_u := hs14.blk hB_u (fun h => hn_p_u h.symm)
     refine Gs 4 rfl (G.ld rfl tg3 (hB_c.cells 3 _ rfl) (Gs 1 rfl (G.ld rfl tg3 (hB_c.cells 1 _ rfl) (Gs 1 rfl (G.ld rfl tg3 (hB_t.cells 2 _ rfl) (Ga 3 rfl (by omega) (G.mem0 rfl (M.store ts3 rfl rfl rfl rfl hB_p (by simp)) ?_)))))))
     rintro ws15 ⟨_, hB_p, hs15⟩
     replace hE := hE.trans hs15 (fun q hq h => by have h : q = p := h; omega)
     replace hB_r := hs15.blk hB_r hn_r_p
     replace hB_o := hs15.blk hB_o hn_o_p
     replace hB_c := hs15.blk hB_c hn_c_p
     replace hB_t := hs15.blk hB_t (fun h => hn_p_t h.symm)
     replace hB_u := hs15.blk hB_u (fun h => hn_p_u h.symm)
     refine Gs 6 rfl (G.ld rfl tg3 (hB_o.cells 0 _ rfl) (Gs 1 rfl (G.ld rfl tg3 (hB_p.cells 0 _ rfl) (Ga 3 rfl (by omega) (G.mem0 rfl (M.store ts3 rfl rfl rfl rfl hB_o (by simp)) ?_)))))
     rintro ws16 ⟨_, hB_o, hs16⟩
     replace hE := hE.trans hs16 (fun q hq h => by have h : q = o := h; omega)
     replace hB_r := hs16.blk hB_r hn_r_o
     replace hB_c := hs16.blk hB_c (fun h => hn_o_c h.symm)
     replace hB_p := hs16.blk hB_p (fun h => hn_o_p h.symm)
     replace hB_t := hs16.blk hB_t (fun h => hn_o_t h.symm)
     replace hB_u := hs16.blk hB_u (fun h => hn_o_u h.symm)
     refine Gs 5 rfl (G.ld rfl tg3 (hB_o.cells 1 _ rfl) (Gs 1 rfl (G.ld rfl tg3 (hB_p.cells 1 _ rfl) (Ga 3 rfl (by omega) (G.mem0 rfl (M.store ts3 rfl rfl rfl rfl hB_o (by simp)) ?_)))))
     rintro ws17 ⟨_, hB_o, hs17⟩
     replace hE := hE.trans hs17 (fun q hq h => by have h : q = o := h; omega)
     replace hB_r := hs17.blk hB_r hn_r_o
     replace hB_c := hs17.blk hB_c (fun h => hn_o_c h.symm)
     replace hB_p := hs17.blk hB_p (fun h => hn_o_p h.symm)
     replace hB_t := hs17.blk hB_t (fun h => hn_o_t h.symm)
     replace hB_u := hs17.blk hB_u (fun h => hn_o_u h.symm)
     refine Gs 4 rfl (G.ld rfl tg3 (hB_o.cells 2 _ rfl) (Gs 1 rfl (G.ld rfl tg3 (hB_p.cells 2 _ rfl) (Ga 3 rfl (by omega) (G.mem0 rfl (M.store ts3 rfl rfl rfl rfl hB_o (by simp)) ?_)))))
     rintro ws18 ⟨_, hB_o, hs18⟩
     replace hE := hE.trans hs18 (fun q hq h => by have h : q = o := h; omega)
     replace hB_r := hs18.blk hB_r hn_r_o
     replace hB_c := hs18.blk hB_c (fun h => hn_o_c h.symm)
     replace hB_p := hs18.blk hB_p (fun h => hn_o_p h.symm)
     replace hB_t := hs18.blk hB_t (fun h => hn_o_t h.symm)
     replace hB_u := hs18.blk hB_u (fun h => hn_o_u h.symm)
     refine Ga 7 rfl (by omega) (G.back (i + 1) (Sub.of rfl) (⟨by omega, by rw [htk1, htk2, htk3, <- yg hpre.1 y.1 z1 f1, <- yg hpre.2.1 y.2.1 z2 f2, <- yg hpre.2.2 y.2.2 z3 f3]; exact hB_o, hB_r, hE⟩) (by first | omega | (dsimp only; omega)))
    ·
     obtain ⟨g1, g2⟩ := hS.free a3 a4
     have eB : yv x = (1, 0, x.cost) := by rw [yc, g1, g2, if_neg a4]; simp [bds, a1]
     have f1 : cap 1099511627776 1 = cap 1099511627776 (yv x).1 := by rw [eB]
     have f2 : cap 1099511627776 0 = cap 1099511627776 (yv x).2.1 := by rw [eB]
     have f3 : cap 1099511627776 x.cost = cap 1099511627776 (yv x).2.2 := by rw [eB]
     have z1 : (0 : Int) <= 1 := by decide
     have z2 : (0 : Int) <= 0 := by decide
     have z3 := hcost.1
     refine Gs 6 rfl (G.ld rfl tg3 (hB_o.cells 0 _ rfl) (Gs 1 rfl (G.ld rfl tg3 (hB_p.cells 0 _ rfl) (Ga 3 rfl (by omega) (G.mem0 rfl (M.store ts3 rfl rfl rfl rfl hB_o (by simp)) ?_)))))
     rintro ws19 ⟨_, hB_o, hs19⟩
     replace hE := hE.trans hs19 (fun q hq h => by have h : q = o := h; omega)
     replace hB_r := hs19.blk hB_r hn_r_o
     replace hB_c := hs19.blk hB_c (fun h => hn_o_c h.symm)
     replace hB_p := hs19.blk hB_p (fun h => hn_o_p h.symm)
     replace hB_t := hs19.blk hB_t (fun h => hn_o_t h.symm)
     replace hB_u := hs19.blk hB_u (fun h => hn_o_u h.symm)
     refine Gs 5 rfl (G.ld rfl tg3 (hB_o.cells 1 _ rfl) (Gs 1 rfl (G.ld rfl tg3 (hB_p.cells 1 _ rfl) (Ga 3 rfl (by omega) (G.mem0 rfl (M.store ts3 rfl rfl rfl rfl hB_o (by simp)) ?_)))))
     rintro ws20 ⟨_, hB_o, hs20⟩
     replace hE := hE.trans hs20 (fun q hq h => by have h : q = o := h; omega)
     replace hB_r := hs20.blk hB_r hn_r_o
     replace hB_c := hs20.blk hB_c (fun h => hn_o_c h.symm)
     replace hB_p := hs20.blk hB_p (fun h => hn_o_p h.symm)
     replace hB_t := hs20.blk hB_t (fun h => hn_o_t h.symm)
     replace hB_u := hs20.blk hB_u (fun h => hn_o_u h.symm)
     refine Gs 4 rfl (G.ld rfl tg3 (hB_o.cells 2 _ rfl) (Gs 1 rfl (G.ld rfl tg3 (hB_p.cells 2 _ rfl) (Ga 3 rfl (by omega) (G.mem0 rfl (M.store ts3 rfl rfl rfl rfl hB_o (by simp)) ?_)))))
     rintro ws21 ⟨_, hB_o, hs21⟩
     replace hE := hE.trans hs21 (fun q hq h => by have h : q = o := h; omega)
     replace hB_r := hs21.blk hB_r hn_r_o
     replace hB_c := hs21.blk hB_c (fun h => hn_o_c h.symm)
     replace hB_p := hs21.blk hB_p (fun h => hn_o_p h.symm)
     replace hB_t := hs21.blk hB_t (fun h => hn_o_t h.symm)
     replace hB_u := hs21.blk hB_u (fun h => hn_o_u h.symm)
     refine Ga 7 rfl (by omega) (G.back (i + 1) (Sub.of rfl) (⟨by omega, by rw [htk1, htk2, htk3, <- yg hpre.1 y.1 z1 f1, <- yg hpre.2.1 y.2.1 z2 f2, <- yg hpre.2.2 y.2.2 z3 f3]; exact hB_o, hB_r, hE⟩) (by first | omega | (dsimp only; omega)))
 ·
  have hii : i = l.length := by omega
  subst hii
  rw [List.take_length] at hB_o
  refine Gs 7 rfl (G.ldK rfl Tryz.isAgg223 ts223 hB_o.cells rfl (G.mem0 rfl (M.storeK ts223 rfl rfl rfl rfl (by simp [Value.oneCell']) hB_r (by simp)) ?_))
  rintro wf ⟨_, hBf, hkf⟩
  refine Gs 3 rfl (G.retC Tryz.results161 rfl (zt Tryz.isAgg223 ts223 rfl hBf.cells) ?_)
  exact ⟨_, rfl, rfl, hE.trans hkf (fun q hq h => by have h : q = r := h; omega)⟩
def xn (f : Fl) : Bool := decide (f.vars.length <= 64) && decide (f.hatches.length <= 8) && f.hatches.all (fun h => decide (h.term.depth <= 12)) && (decide (zO f.body <= 12) && !yi f.body)
theorem zdq (f : Fl) (v1 v2 v3 : Value) (D : Nat -> Prop) (w : World) (hf : RFl D w f v1 v2 v3) (hsz : zl f.body + zH f.hatches <= 1024) : Calls Tryz.prog 76 #[.agg #[v1, v2, v3]] w (Ret fun r w' => r = .bool (xn f) /\ Ext w w') := by
 obtain ⟨hvs, hhs, hbd⟩ := hf
 have hm1 := hvs.max
 have hm2 := hhs.max
 obtain ⟨a1, n1, rfl⟩ := hvs.form
 obtain ⟨a2, n2, rfl⟩ := hhs.form
 have hE := Keep.refl (fun _ => False) w
 refine G.in1 Tryz.func76 rfl Tryz.ntmps76 rfl (Gs 2 rfl (G.mem rfl rfl (M.box rfl rfl) ?_))
 rintro _ w_b ⟨b, rfl, hg_b, hs_b, hB_b, hk_b⟩
 have hge_b : _ <= b := Nat.le_trans hE.size (Nat.le_of_eq hg_b.symm)
 obtain ⟨hE, hvs, hhs, hbd⟩ := Tr4 hk_b hE hvs hhs hbd
 refine Gs 7 rfl (G.ld rfl tg52 (hB_b.cells 0 _ rfl) (Gs 3 rfl (G.sp 9 rfl (fun g1 => ?_) (fun g1 => ?_))))
 . refine Gs 15 rfl (G.ret1 tr76 rfl ⟨_, rfl, by unfold xn; rw [decide_eq_false (show ¬ f.vars.length <= 64 by omega)]; rfl, hE⟩)
 ·
  refine Gs 1 rfl (G.ld rfl tg53 (hB_b.cells 1 _ rfl) (Gs 5 rfl (G.ite rfl (fun g2 => ?_) (fun g2 => ?_))))
  . refine Gs 7 rfl (G.ret1 tr76 rfl ⟨_, rfl, by unfold xn; rw [decide_eq_false (show ¬ f.hatches.length <= 8 by omega), Bool.and_false]; rfl, hE⟩)
  ·
   have hpre : xn f = (f.hatches.all (fun h => decide (h.term.depth <= 12)) && (decide (zO f.body <= 12) && !yi f.body)) := by
    unfold xn; rw [decide_eq_true (show f.vars.length <= 64 by omega), decide_eq_true (show f.hatches.length <= 8 by omega)]; rfl
   refine Gs 5 rfl (G.ld rfl tg54 (hB_b.cells 2 _ rfl) (G.call rfl Tryz.call103 (zdh f.body _ D _ hbd (by omega)) ?_))
   rintro _ wz1 ⟨rfl, hz1⟩
   obtain ⟨hE, hvs, hhs, hbd, hB_b⟩ := Tr5 hz1 hE hvs hhs hbd hB_b
   refine Gs 10 rfl (G.loop (σ := Nat) (fun i => [(1, .pointer (some ⟨b, 0, none⟩)), (3, .int .i64 ((zl f.body : Int) + zH (f.hatches.take i))), (4, .int .i64 i)]) (fun i => fun w' => i <= f.hatches.length /\ (f.hatches.take i).all (fun h => decide (h.term.depth <= 12)) = true /\ Ext wz1 w') (fun i => f.hatches.length - i) (0) (Sub.of rfl) (⟨Nat.zero_le _, rfl, Keep.refl _ _⟩) ?_)
   rintro i w1 ⟨hi, hall, hL1⟩
   obtain ⟨hE, hvs, hhs, hbd, hB_b⟩ := Tr5 hL1 hE hvs hhs hbd hB_b
   refine Gs 5 rfl (G.ld rfl tg53 (hB_b.cells 1 _ rfl) (Gs 4 rfl (G.ite rfl (fun hlt => ?_) (fun hlt => ?_))))
   ·
    obtain ⟨x, he_x⟩ : ∃ x, f.hatches[i]? = some x := ⟨_, List.getElem?_eq_getElem (by omega)⟩
    have hm_x := List.mem_of_getElem? he_x
    obtain ⟨b_x, o_x, c_x, ha_x, _, hc_x, hR_x⟩ := hhs.at he_x
    have h1_x := RHt.one hR_x
    obtain ⟨v1_x, rfl, hk_x⟩ := hR_x
    obtain ⟨a1_x, n1_x, rfl⟩ := hk_x.form
    have hlt_x : b_x < _ := World.block_lt_of_cell? _ _ (hc_x 0 _ rfl)
    have hsp := xd he_x
    have htk := ja he_x
    have hdn : x.term.depth <= x.term.nodes := by have := ku [x.term]; simp [yy, zP] at this; exact this
    refine Gs 8 rfl (G.ld rfl tg53 (hB_b.cells 1 _ rfl) (Gs 1 rfl (G.ops1 rfl rfl (R.indexS tR53 ts137 rfl rfl ha_x (by omega)) (Gs 1 rfl (G.ldK rfl tg132 ts132 (hc_x.sub 3 3) rfl (G.call rfl Tryz.call104 (qs x.term _ D _ (RTm.put hk_x) (by omega)) ?_))))))
    rintro _ wz2 ⟨rfl, hz2⟩
    obtain ⟨hE, hvs, hhs, hbd, hB_b, hL1, hc_x⟩ := Tr7 hz2 hE hvs hhs hbd hB_b hL1 hc_x
    replace hk_x := Tr1 hz2 hk_x
    refine Ga 7 rfl (by omega) (G.ld rfl tg53 (hB_b.cells 1 _ rfl) (Gs 1 rfl (G.ops1 rfl rfl (R.indexS tR53 ts137 rfl rfl ha_x (by omega)) (Gs 1 rfl (G.ldK rfl tg132 ts132 (hc_x.sub 3 3) rfl (G.call rfl Tryz.call105 (qt x.term _ D _ (RTm.put hk_x) (by omega)) ?_))))))
    rintro _ wz3 ⟨rfl, hz3⟩
    obtain ⟨hE, hvs, hhs, hbd, hB_b, hL1, hc_x⟩ := Tr7 hz3 hE hvs hhs hbd hB_b hL1 hc_x
    replace hk_x := Tr1 hz3 hk_x
    refine Gs 3 rfl (G.ite rfl (fun dd => ?_) (fun dd => ?_))
    ·
     have hfa : f.hatches.all (fun h => decide (h.term.depth <= 12)) = false := by
      rw [Bool.eq_false_iff]; intro h; have := List.all_eq_true.1 h x hm_x; simp at this; omega
     refine Gs 11 rfl (G.ret1 tr76 rfl ⟨_, rfl, by rw [hpre, hfa, Bool.false_and], hE⟩)
    . refine Ga 8 rfl (by omega) (G.back (i + 1) (Sub.cons rfl (Sub.cons (xD rfl (by rw [htk]; omega)) (Sub.of rfl))) (⟨by omega, by rw [zg he_x, List.all_append, hall]; simp; omega, hL1⟩) (by first | omega | (dsimp only; omega)))
   ·
    have hii : i = f.hatches.length := by omega
    subst hii
    rw [List.take_length] at hall
    rw [hall, Bool.true_and] at hpre
    have hsd := qr f.body
    refine Gs 10 rfl (G.sp 44 rfl (fun gn => ?_) (fun gn => ?_))
    ·
     refine Gs 1 rfl (G.ld rfl tg54 (hB_b.cells 2 _ rfl) (G.call rfl Tryz.call106 (zal f.body _ D _ hbd (by omega)) ?_))
     rintro _ wz4 ⟨rfl, hz4⟩
     obtain ⟨hE, hvs, hhs, hbd, hB_b, hL1⟩ := Tr6 hz4 hE hvs hhs hbd hB_b hL1
     refine Gs 3 rfl (G.sp 50 rfl (fun gd => ?_) (fun gd => ?_))
     ·
      refine Gs 1 rfl (G.ld rfl tg54 (hB_b.cells 2 _ rfl) (G.call rfl Tryz.call107 (zam f.body _ D _ hbd (by omega)) ?_))
      rintro _ wz5 ⟨rfl, hz5⟩
      obtain ⟨hE, hvs, hhs, hbd, hB_b, hL1⟩ := Tr6 hz5 hE hvs hhs hbd hB_b hL1
      refine G.ops1 rfl rfl (R.notU rfl (by first | exact za | rfl)) (Gs 5 rfl (G.ret1 tr76 rfl ⟨_, rfl, by rw [hpre, decide_eq_true (show zO f.body <= 12 by omega)]; rfl, hE⟩))
     . refine Gs 9 rfl (G.ret1 tr76 rfl ⟨_, rfl, by rw [hpre, decide_eq_false (show ¬ zO f.body <= 12 by omega)]; rfl, hE⟩)
    . exact absurd (by rw [List.take_length]; omega) gn
def zbw (f : Fl) : Bool := decide (4096 < (bds f.body).1) || decide (8 < (bds f.body).2.1) || decide (67108864 < (bds f.body).2.2)
def zQ (f : Fl) : Int :=
 if xn f = false then 4
 else if zx f.vars ≠ 0 then zx f.vars
 else if zB f.vars f.hatches ≠ 0 then zB f.vars f.hatches
 else if zc f.vars f.hatches.length f.body true ≠ 0 then zc f.vars f.hatches.length f.body true
 else if zbw f then 4 else 0
theorem zaA {vs : List Vr} (h : zx vs = 0) : ∀ v ∈ vs, yf (v.low, v.high) := by
 have h1 : ∀ j, j < vs.length -> jB vs j = 0 := by
  unfold zx at h
  split at h
  . rename_i h2; exact absurd h h2
  ·
   rename_i h2
   intro j hj
   exact xg vs.length 0 (by simpa using h2) j (Nat.zero_le _) (by omega)
 exact fun v hv => (xJ h1 v hv).1
theorem qg (f : Fl) (v1 v2 v3 : Value) (D : Nat -> Prop) (w : World) (hf : RFl D w f v1 v2 v3) (hsz : zl f.body + zH f.hatches <= 1024) (hbk : zy f.body <= 1000000) : Calls Tryz.prog 42 #[.agg #[v1, v2, v3]] w (Ret fun r w' => r = .int .i64 (zQ f) /\ Ext w w') := by
 obtain ⟨hvs, hhs, hbd⟩ := hf
 have hm1 := hvs.max
 have hm2 := hhs.max
 obtain ⟨a1, n1, rfl⟩ := hvs.form
 obtain ⟨a2, n2, rfl⟩ := hhs.form
 have hE := Keep.refl (fun _ => False) w
 refine G.in1 Tryz.func42 rfl Tryz.ntmps42 rfl (Gs 2 rfl (G.mem rfl rfl (M.box rfl rfl) ?_))
 rintro _ w_b ⟨b, rfl, hg_b, hs_b, hB_b, hk_b⟩
 have hge_b : _ <= b := Nat.le_trans hE.size (Nat.le_of_eq hg_b.symm)
 obtain ⟨hE, hvs, hhs, hbd⟩ := Tr4 hk_b hE hvs hhs hbd
 refine Gs 6 rfl (G.ldK rfl tg56 ts56 hB_b.cells rfl (G.call rfl Tryz.call76 (zdq f _ _ _ D _ ⟨hvs, hhs, hbd⟩ hsz) ?_))
 rintro _ wz1 ⟨rfl, hz1⟩
 obtain ⟨hE, hvs, hhs, hbd, hB_b⟩ := Tr5 hz1 hE hvs hhs hbd hB_b
 refine G.ops1 rfl rfl (R.notU rfl (by first | exact za | rfl)) (Gs 2 rfl (G.bool rfl (fun s0 => ?_) (fun s0 => ?_)))
 ·
  have s0' : xn f = false := by simpa using s0
  refine Gs 7 rfl (G.ret1 tr42 rfl ⟨_, rfl, by rw [zQ, if_pos s0'], hE⟩)
 ·
  have s0' : ¬ xn f = false := by simpa using s0
  refine Gs 5 rfl (G.ld rfl tg52 (hB_b.cells 0 _ rfl) (G.call rfl Tryz.call77 (zaw f.vars _ D _ hvs) ?_))
  rintro _ wz2 ⟨rfl, hz2⟩
  obtain ⟨hE, hvs, hhs, hbd, hB_b⟩ := Tr5 hz2 hE hvs hhs hbd hB_b
  refine Gs 10 rfl (G.ite rfl (fun vz => ?_) (fun vz => ?_))
  . refine Gs 8 rfl (G.ret1 tr42 rfl ⟨_, rfl, by rw [zQ, if_neg s0', if_pos vz], hE⟩)
  ·
   have hg := zaA (show zx f.vars = 0 by omega)
   refine Gs 9 rfl ?_
   have hch : zQ f = if zB f.vars f.hatches ≠ 0 then zB f.vars f.hatches else if zc f.vars f.hatches.length f.body true ≠ 0 then zc f.vars f.hatches.length f.body true else if zbw f then 4 else 0 := by rw [zQ, if_neg s0', if_neg vz]
   refine G.loop (σ := Nat) (fun i => [(1, .pointer (some ⟨b, 0, none⟩)), (4, .int .i64 i)]) (fun i => fun w' => i <= f.hatches.length /\ (∀ j, j < i -> qe f.vars f.hatches j = 0) /\ Ext wz2 w') (fun i => f.hatches.length - i) (0) (Sub.of rfl) (⟨Nat.zero_le _, fun j h => absurd h (Nat.not_lt_zero _), Keep.refl _ _⟩) ?_
   rintro i w1 ⟨hi, hall, hL1⟩
   obtain ⟨hE, hvs, hhs, hbd, hB_b⟩ := Tr5 hL1 hE hvs hhs hbd hB_b
   refine Gs 5 rfl (G.ld rfl tg53 (hB_b.cells 1 _ rfl) (Gs 4 rfl (G.ite rfl (fun hlt => ?_) (fun hlt => ?_))))
   ·
    obtain ⟨x, he_x⟩ : ∃ x, f.hatches[i]? = some x := ⟨_, List.getElem?_eq_getElem (by omega)⟩
    have hm_x := List.mem_of_getElem? he_x
    obtain ⟨b_x, o_x, c_x, ha_x, _, hc_x, hR_x⟩ := hhs.at he_x
    have h1_x := RHt.one hR_x
    obtain ⟨v1_x, rfl, hk_x⟩ := hR_x
    obtain ⟨a1_x, n1_x, rfl⟩ := hk_x.form
    have hlt_x : b_x < _ := World.block_lt_of_cell? _ _ (hc_x 0 _ rfl)
    have hat := kg (vs := f.vars) he_x
    have hbad : ∀ c : Int, zN f.vars (f.hatches.take i) x = c -> c ≠ 0 -> zQ f = c := by
     intro c h1 h2
     have h3 : qe f.vars f.hatches i ≠ 0 := by rw [hat, h1]; exact h2
     have h4 : zB f.vars f.hatches = c := by rw [zB, qd hall (by omega) h3, hat, h1]
     rw [hch, h4, if_pos h2]
    have hnext : zN f.vars (f.hatches.take i) x = 0 -> ∀ j, j < i + 1 -> qe f.vars f.hatches j = 0 := by
     intro h j hj
     by_cases e : j = i
     . subst e; rw [hat, h]
     . exact hall j (by omega)
    have hxn := xd he_x
    refine Gs 7 rfl (G.ld rfl tg53 (hB_b.cells 1 _ rfl) (Gs 1 rfl (G.ops1 rfl rfl (R.indexS tR53 ts137 rfl rfl ha_x (by omega)) (G.ldK rfl tg137 ts137 hc_x rfl (G.mem rfl rfl (M.alloc (cs := _) tz137 rfl) ?_)))))
    rintro _ wa3 ⟨c, rfl, hg_c, hs_c, hB_c, hk_c⟩
    refine G.mem0 rfl (M.storeK ts137 rfl rfl rfl rfl h1_x hB_c (by simp)) ?_
    rintro w_c ⟨_, hB_c, hkk_c⟩
    replace hk_c := hk_c.trans hkk_c (fun q hq h => by have h : q = c := h; omega)
    have hn_b_c : b ≠ c := by have := hB_b.lt; omega
    have hge_c : _ <= c := Nat.le_trans hE.size (Nat.le_of_eq hg_c.symm)
    obtain ⟨hE, hvs, hhs, hbd, hB_b, hL1, hc_x⟩ := Tr7 hk_c hE hvs hhs hbd hB_b hL1 hc_x
    replace hk_x := Tr1 hk_c hk_x
    refine Gs 6 rfl (G.ld rfl tg9 (hB_c.cells 0 _ rfl) (G.call rfl Tryz.call78 (kw x.name _) ?_))
    rintro _ wz4 ⟨rfl, hz4⟩
    obtain ⟨hE, hvs, hhs, hbd, hB_b, hL1, hc_x⟩ := Tr7 hz4 hE hvs hhs hbd hB_b hL1 hc_x
    obtain ⟨hk_x, hB_c⟩ := Tr2 hz4 hk_x hB_c
    refine G.ops1 rfl rfl (R.notU rfl (by first | exact za | rfl)) (Gs 2 rfl (G.bool rfl (fun n0 => ?_) (fun n0 => ?_)))
    ·
     have n0' : zap x.name = false := by simpa using n0
     refine Gs 12 rfl (G.ret1 tr42 rfl ⟨_, rfl, by rw [hbad 7 (by rw [zN, if_pos n0']) (by decide)], hE⟩)
    ·
     have n0' : ¬ zap x.name = false := by simpa using n0
     refine Gs 9 rfl (G.loop (σ := Nat) (fun j => [(1, .pointer (some ⟨b, 0, none⟩)), (4, .int .i64 i), (5, .pointer (some ⟨c, 0, none⟩)), (6, .int .i64 j)]) (fun j => fun w' => j <= i /\ (f.hatches.take j).any (fun u => zW u.name x.name) = false /\ Ext wz4 w') (fun j => i - j) (0) (Sub.of rfl) (⟨Nat.zero_le _, rfl, Keep.refl _ _⟩) ?_)
     rintro j w2 ⟨hj, hno, hL2⟩
     obtain ⟨hE, hvs, hhs, hbd, hB_b, hL1, hc_x⟩ := Tr7 hL2 hE hvs hhs hbd hB_b hL1 hc_x
     obtain ⟨hk_x, hB_c⟩ := Tr2 hL2 hk_x hB_c
     refine Gs 8 rfl (G.ite rfl (fun hjl => ?_) (fun hjl => ?_))
     ·
      obtain ⟨y, he_y⟩ : ∃ x, f.hatches[j]? = some x := ⟨_, List.getElem?_eq_getElem (by omega)⟩
      have hm_y := List.mem_of_getElem? he_y
      obtain ⟨b_y, o_y, c_y, ha_y, _, hc_y, hR_y⟩ := hhs.at he_y
      have h1_y := RHt.one hR_y
      obtain ⟨v1_y, rfl, hk_y⟩ := hR_y
      obtain ⟨a1_y, n1_y, rfl⟩ := hk_y.form
      have hlt_y : b_y < _ := World.block_lt_of_cell? _ _ (hc_y 0 _ rfl)
      refine Gs 5 rfl (Qt (by kernel_rfl) (Gs 1 rfl (G.ldQ rfl tg53 (fun w1 hw1 => ((hw1.blk hB_b (fun h => h)).cells 1 _ rfl)) (Gs 1 rfl (G.opQ rfl rfl (fun w1 hw1 => R.indexS tR53 ts137 rfl rfl ha_y (by omega)) (Gs 1 rfl (G.ldQ rfl tg9 (fun w1 hw1 => ((hw1.cells hc_y (fun h => h)) 0 _ rfl)) (Gs 1 rfl (G.ldQ rfl tg9 (fun w1 hw1 => ((hw1.blk hB_c (fun h => h)).cells 0 _ rfl)) (Gs 1 rfl (G.nilQ (fun wz5 hz5 => ?_))))))))))))
      obtain ⟨hE, hvs, hhs, hbd, hB_b, hL1, hc_x⟩ := Tr7 hz5 hE hvs hhs hbd hB_b hL1 hc_x
      obtain ⟨hk_x, hB_c, hL2, hc_y, hk_y⟩ := Tr5 hz5 hk_x hB_c hL2 hc_y hk_y
      refine Gs 1 rfl (G.ite rfl (fun hd => ?_) (fun hd => ?_))
      ·
       have hany : (f.hatches.take i).any (fun u => zW u.name x.name) = true := by
        rw [List.any_eq_true]
        refine ⟨y, List.mem_of_getElem? (i := j) (by rw [List.getElem?_take, if_pos (by omega)]; exact he_y), ?_⟩
        unfold zW; exact decide_eq_true hd
       refine Gs 16 rfl (G.ret1 tr42 rfl ⟨_, rfl, by rw [hbad 8 (by rw [zN, if_neg n0', if_pos hany]) (by decide)], hE⟩)
      . refine Ga 8 rfl (by omega) (G.back (j + 1) (Sub.of rfl) (⟨by omega, by rw [zg he_y, List.any_append, hno]; simp [zW, hd], hL2⟩) (by first | omega | (dsimp only; omega)))
     ·
      have hji : j = i := by omega
      subst hji
      have n1 : ¬ (f.hatches.take j).any (fun u => zW u.name x.name) = true := by rw [hno]; decide
      refine Gs 9 rfl (G.ld rfl tg3 (hB_c.cells 1 _ rfl) (Gs 1 rfl (G.ld rfl tg3 (hB_c.cells 2 _ rfl) (G.call rfl Tryz.call79 (jA x.low x.high _) ?_))))
      rintro _ wz6 ⟨rfl, hz6⟩
      obtain ⟨hE, hvs, hhs, hbd, hB_b, hL1, hc_x⟩ := Tr7 hz6 hE hvs hhs hbd hB_b hL1 hc_x
      obtain ⟨hk_x, hB_c, hL2⟩ := Tr3 hz6 hk_x hB_c hL2
      refine G.ops1 rfl rfl (R.notU rfl (by first | exact za | rfl)) (Gs 2 rfl (G.bool rfl (fun n3 => ?_) (fun n3 => ?_)))
      ·
       have n3' : zaP x.low x.high = false := by simpa using n3
       refine Gs 12 rfl (G.ret1 tr42 rfl ⟨_, rfl, by rw [hbad 3 (by rw [zN, if_neg n0', if_neg n1, if_pos n3']) (by decide)], hE⟩)
      ·
       have n3' : ¬ zaP x.low x.high = false := by simpa using n3
       have hcc : zN f.vars (f.hatches.take j) x = zJ f.vars true x.term := by rw [zN, if_neg n0', if_neg n1, if_neg n3']
       refine Gs 5 rfl (G.ld rfl tg52 (hB_b.cells 0 _ rfl) (Gs 1 rfl (G.ldK rfl tg132 ts132 (hB_c.cells.sub 3 3) rfl (G.call rfl Tryz.call80 (xA f.vars true _ _ D D _ x.term hg hvs (RTm.put hk_x) (by omega)) ?_))))
       rintro _ wz7 ⟨rfl, hz7⟩
       obtain ⟨hE, hvs, hhs, hbd, hB_b, hL1, hc_x⟩ := Tr7 hz7 hE hvs hhs hbd hB_b hL1 hc_x
       obtain ⟨hk_x, hB_c, hL2⟩ := Tr3 hz7 hk_x hB_c hL2
       refine Gs 9 rfl (G.ite rfl (fun tz => ?_) (fun tz => ?_))
       . refine Gs 12 rfl (G.ret1 tr42 rfl ⟨_, rfl, by rw [hbad _ hcc tz], hE⟩)
       . refine Ga 8 rfl (by omega) (G.back (j + 1) (Sub.of rfl) (⟨by omega, hnext (by rw [hcc]; omega), hL1⟩) (by first | omega | (dsimp only; omega)))
   ·
    have hii : i = f.hatches.length := by omega
    subst hii
    have hh0 : zB f.vars f.hatches = 0 := xq hall
    rw [hh0, if_neg (by decide)] at hch
    refine Gs 7 rfl (G.ldK rfl tg56 ts56 hB_b.cells rfl (Gs 1 rfl (G.ld rfl tg54 (hB_b.cells 2 _ rfl) (G.call rfl tc81 (zbu f _ _ _ hg D f.body _ D _ true ⟨hvs, hhs, hbd⟩ hbd hbk) ?_))))
    rintro _ wz8 ⟨rfl, hz8⟩
    obtain ⟨hE, hvs, hhs, hbd, hB_b, hL1⟩ := Tr6 hz8 hE hvs hhs hbd hB_b hL1
    refine Gs 10 rfl (G.ite rfl (fun sz => ?_) (fun sz => ?_))
    . refine Gs 8 rfl (G.ret1 tr42 rfl ⟨_, rfl, by rw [hch, if_pos sz], hE⟩)
    ·
     have hs0 : zc f.vars f.hatches.length f.body true = 0 := by omega
     rw [if_neg sz] at hch
     refine Gs 5 rfl (G.ld rfl tg54 (hB_b.cells 2 _ rfl) (G.call rfl Tryz.call82 (kD f.vars f.hatches.length f.body _ D _ true hs0 hbd hbk) ?_))
     rintro _ wz9 ⟨rfl, hz9⟩
     obtain ⟨hE, hvs, hhs, hbd, hB_b, hL1⟩ := Tr6 hz9 hE hvs hhs hbd hB_b hL1
     have c1 : (4096 < cap 4097 (bds f.body).1) ↔ 4096 < (bds f.body).1 := by unfold cap; omega
     have c2 : (8 < cap 9 (bds f.body).2.1) ↔ 8 < (bds f.body).2.1 := by unfold cap; omega
     have c3 : (67108864 < cap 67108865 (bds f.body).2.2) ↔ 67108864 < (bds f.body).2.2 := by unfold cap; omega
     have ho : zbw f = (decide (4096 < cap 4097 (bds f.body).1) || decide (8 < cap 9 (bds f.body).2.1) || decide (67108864 < cap 67108865 (bds f.body).2.2)) := by
      unfold zbw; rw [decide_eq_decide.2 c1, decide_eq_decide.2 c2, decide_eq_decide.2 c3]
     refine Gs 15 rfl (G.sp 79 rfl (fun b1 => ?_) (fun b1 => ?_))
     . refine Gs 17 rfl (G.ret1 tr42 rfl ⟨_, rfl, by rw [hch, if_pos (by rw [ho, decide_eq_true b1]; rfl)], hE⟩)
     ·
      refine Gs 4 rfl (G.sp 83 rfl (fun b2 => ?_) (fun b2 => ?_))
      . refine Gs 13 rfl (G.ret1 tr42 rfl ⟨_, rfl, by rw [hch, if_pos (by rw [ho, decide_eq_true b2, Bool.or_true]; rfl)], hE⟩)
      ·
       refine Gs 5 rfl (G.ite rfl (fun b3 => ?_) (fun b3 => ?_))
       . refine Gs 7 rfl (G.ret1 tr42 rfl ⟨_, rfl, by rw [hch, if_pos (by rw [ho, decide_eq_true b3, Bool.or_true])], hE⟩)
       . refine Gs 8 rfl (G.ret1 tr42 rfl ⟨_, rfl, by rw [hch, if_neg (by rw [ho, decide_eq_false b1, decide_eq_false b2, decide_eq_false b3]; decide)], hE⟩)
theorem kE (f : Fl) (v1 v2 v3 : Value) (D : Nat -> Prop) (w : World) (hf : RFl D w f v1 v2 v3) (hsz : zl f.body + zH f.hatches <= 1024) (hbk : zy f.body <= 1000000) : Calls Tryz.prog 126 #[.agg #[v1, v2, v3]] w (Ret fun r w' => r = .int .i64 (zQ f) /\ Ext w w') := by
 replace hf := hf.narrow
 generalize hD0 : (fun b => D b /\ b < w.heap.size) = E at hf
 have hDw : ∀ q, E q -> q < w.heap.size := fun q h => by rw [<- hD0] at h; exact h.2
 obtain ⟨hvs, hhs, hbd⟩ := hf
 have hm1 := hvs.max
 have hm2 := hhs.max
 obtain ⟨a1, n1, rfl⟩ := hvs.form
 obtain ⟨a2, n2, rfl⟩ := hhs.form
 have hE := Keep.refl (fun _ => False) w
 refine G.in1 Tryz.func126 rfl Tryz.ntmps126 rfl (Gs 2 rfl (G.mem rfl rfl (M.box rfl rfl) ?_))
 rintro _ w_b ⟨b, rfl, hg_b, hs_b, hB_b, hk_b⟩
 have hge_b : _ <= b := Nat.le_trans hE.size (Nat.le_of_eq hg_b.symm)
 replace hE := Tr1 hk_b hE
 refine Gs 5 rfl (G.mem rfl rfl (M.alloc (cs := _) Tryz.zeroValue219 rfl) ?_)
 rintro _ w_m ⟨m, rfl, hg_m, hs_m, hB_m, hk_m⟩
 have hn_b_m : b ≠ m := by have := hB_b.lt; omega
 have hge_m : _ <= m := Nat.le_trans hE.size (Nat.le_of_eq hg_m.symm)
 obtain ⟨hE, hB_b⟩ := Tr2 hk_m hE hB_b
 refine Gs 5 rfl (G.ld rfl tg54 (hB_b.cells 2 _ rfl) ?_)
 have hvs0 := hvs
 have hhs0 := hhs
 have hbd0 := hbd
 have DM : ∀ q, E q -> q ≠ m := fun q h => by have := hDw q h; omega
 refine G.call rfl Tryz.call155 (zcq f.body _ E _ m 0 false 1 (hbd.ext zf hE) DM hB_m (by omega) (by omega) (by omega) (by omega)) ?_
 rintro _ w2 ⟨rfl, ⟨m2, h1, h2, hB_m⟩, hz⟩
 replace hE := hE.trans hz (fun q hq h => by have h : q = m := h; omega)
 replace hB_b := hz.blk hB_b (hn_b_m)
 refine Gs 6 rfl (G.ld rfl tg53 (hB_b.cells 1 _ rfl) (Gs 5 rfl (G.loop (σ := Nat) (fun i => [(1, .pointer (some ⟨b, 0, none⟩)), (3, .pointer (some ⟨m, 0, none⟩)), (14, .slice a2 f.hatches.length n2), (15, .int .i64 f.hatches.length), (16, .int .i64 i)]) (fun i => fun w' => i <= f.hatches.length /\ (∃ m' : Int, 0 <= m' /\ m' <= zl f.body + zH (f.hatches.take i) /\ Blk w' m [.int .i64 m', .bool (xE 1 f.body || (f.hatches.take i).any (fun h => decide (12 < h.term.depth)))] 219) /\ Blk w' b [.slice a1 f.vars.length n1, .slice a2 f.hatches.length n2, v3] 56 /\ Ext w w') (fun i => f.hatches.length - i) (0) (Sub.of rfl) (⟨Nat.zero_le _, ⟨m2, by omega, by simp [zH]; omega, by simpa using hB_m⟩, hB_b, hE⟩) ?_)))
 rintro i w3 ⟨hi, ⟨m', hm0, hm'1, hB_m⟩, hB_b, hE⟩
 have hhs := hhs0.ext xb hE
 refine Gs 6 rfl (G.ite rfl (fun hlt => ?_) (fun hlt => ?_))
 ·
  obtain ⟨x, he_x⟩ : ∃ x, f.hatches[i]? = some x := ⟨_, List.getElem?_eq_getElem (by omega)⟩
  have hm_x := List.mem_of_getElem? he_x
  obtain ⟨b_x, o_x, c_x, ha_x, _, hc_x, hR_x⟩ := hhs.at he_x
  have h1_x := RHt.one hR_x
  obtain ⟨v1_x, rfl, hk_x⟩ := hR_x
  obtain ⟨a1_x, n1_x, rfl⟩ := hk_x.form
  have hlt_x : b_x < _ := World.block_lt_of_cell? _ _ (hc_x 0 _ rfl)
  have hxn := xd he_x
  have htk := ja he_x
  refine Gs 6 rfl (G.ops1 rfl rfl (R.indexS tR53 ts137 rfl rfl ha_x (by omega)) (G.ldK rfl tg137 ts137 hc_x rfl (G.mem rfl rfl (M.alloc (cs := _) tz137 rfl) ?_)))
  rintro _ wa1 ⟨c, rfl, hg_c, hs_c, hB_c, hk_c⟩
  refine G.mem0 rfl (M.storeK ts137 rfl rfl rfl rfl h1_x hB_c (by simp)) ?_
  rintro w_c ⟨_, hB_c, hkk_c⟩
  replace hk_c := hk_c.trans hkk_c (fun q hq h => by have h : q = c := h; omega)
  have hn_b_c : b ≠ c := by have := hB_b.lt; omega
  have hn_m_c : m ≠ c := by have := hB_m.lt; omega
  have hge_c : _ <= c := Nat.le_trans hE.size (Nat.le_of_eq hg_c.symm)
  obtain ⟨hE, hB_b, hB_m, hhs, hc_x, hk_x⟩ := Tr6 hk_c hE hB_b hB_m hhs hc_x hk_x
  refine Gs 4 rfl (G.call rfl Tryz.call156 (qf m _ _ _ hB_m) ?_)
  rintro _ wz2 ⟨rfl, hz2⟩
  obtain ⟨hE, hB_b, hB_m, hhs, hc_x, hk_x, hB_c⟩ := Tr7 hz2 hE hB_b hB_m hhs hc_x hk_x hB_c
  have ho : decide (1024 < m') = false := decide_eq_false (by omega)
  rw [ho, Bool.or_false]
  refine G.ops1 rfl rfl (R.notU rfl (by first | exact za | rfl)) (Gs 2 rfl (G.bool rfl (fun hov => ?_) (fun hov => ?_)))
  ·
   have hov' : (xE 1 f.body || (f.hatches.take i).any (fun h => decide (12 < h.term.depth))) = false := by simpa using hov
   rw [hov'] at hB_m
   refine Gs 2 rfl (G.ldK rfl tg132 ts132 (hB_c.cells.sub 3 3) rfl (G.call rfl Tryz.call157 (zaz x.term _ E _ m _ _ 1 (RTm.put hk_x) DM hB_m (by omega) (by omega) (by omega) (by omega)) ?_))
   rintro _ w6 ⟨rfl, ⟨n2', h1', h2', hB2⟩, hz⟩
   replace hE := hE.trans hz (fun q hq h => by have h : q = m := h; omega)
   replace hB_b := hz.blk hB_b (hn_b_m)
   replace hB_c := hz.blk hB_c (fun h => hn_m_c h.symm)
   refine Ga 7 rfl (by omega) (G.back (i + 1) (Sub.of rfl) (⟨by omega, ⟨n2', by omega, by omega, ?_⟩, hB_b, hE⟩) (by first | omega | (dsimp only; omega)))
   have hb : (false || decide (12 < 1 + (x.term.depth : Int) - 1)) = (xE 1 f.body || (f.hatches.take (i + 1)).any (fun h => decide (12 < h.term.depth))) := by
    rw [zg he_x, List.any_append, <- Bool.or_assoc, hov', Bool.false_or, Bool.false_or]
    simp; omega
   rw [<- hb]; exact hB2
  ·
   have hov' : (xE 1 f.body || (f.hatches.take i).any (fun h => decide (12 < h.term.depth))) = true := by rw [<- Bool.not_eq_false]; intro h; rw [h] at hov; cases hov
   refine Ga 7 rfl (by omega) (G.back (i + 1) (Sub.of rfl) (⟨by omega, ⟨m', by omega, by omega, ?_⟩, hB_b, hE⟩) (by first | omega | (dsimp only; omega)))
   rw [hov'] at hB_m
   rw [zg he_x, List.any_append, <- Bool.or_assoc, hov', Bool.true_or]
   exact hB_m
 ·
  have hii : i = f.hatches.length := by omega
  subst hii
  rw [List.take_length] at hB_m hm'1
  have hsz2 : xn f = (decide (f.vars.length <= 64) && decide (f.hatches.length <= 8) && !(xE 1 f.body || f.hatches.any (fun h => decide (12 < h.term.depth)))) := by
   unfold xn xE
   have e1 : (f.hatches.all fun h => decide (h.term.depth <= 12)) = !(f.hatches.any fun h => decide (12 < h.term.depth)) := by
    rw [List.not_any_eq_all_not]; congr 1; funext h; rw [<- decide_not, decide_eq_decide]; omega
   have e2 : decide (12 < 1 + (zO f.body : Int) - 1) = !decide (zO f.body <= 12) := by rw [<- decide_not, decide_eq_decide]; omega
   rw [e1, e2]
   generalize decide (f.vars.length <= 64) = p1
   generalize decide (f.hatches.length <= 8) = p2
   generalize (f.hatches.any fun h => decide (12 < h.term.depth)) = p3
   generalize decide (zO f.body <= 12) = p4
   generalize yi f.body = p5
   revert p1 p2 p3 p4 p5; decide
  refine Gs 9 rfl (G.ld rfl tg52 (hB_b.cells 0 _ rfl) (Gs 3 rfl (G.sp 30 rfl (fun g1 => ?_) (fun g1 => ?_))))
  ·
   have s0 : xn f = false := by rw [hsz2, decide_eq_false (show ¬ f.vars.length <= 64 by omega)]; rfl
   refine Gs 18 rfl (G.ret1 tr126 rfl ⟨_, rfl, by rw [zQ, if_pos s0], hE⟩)
  ·
   refine Gs 1 rfl (G.ld rfl tg53 (hB_b.cells 1 _ rfl) (Gs 4 rfl (G.sp 36 rfl (fun g2 => ?_) (fun g2 => ?_))))
   ·
    have s0 : xn f = false := by rw [hsz2, decide_eq_false (show ¬ f.hatches.length <= 8 by omega), Bool.and_false]; rfl
    refine Gs 12 rfl (G.ret1 tr126 rfl ⟨_, rfl, by rw [zQ, if_pos s0], hE⟩)
   ·
    have hvs := hvs0.ext xa hE
    have hbd := hbd0.ext zf hE
    refine G.call rfl Tryz.call156 (qf m _ _ _ hB_m) ?_
    rintro _ wz3 ⟨rfl, hz3⟩
    obtain ⟨hE, hB_b, hB_m, hhs, hvs, hbd⟩ := Tr6 hz3 hE hB_b hB_m hhs hvs hbd
    have ho : decide (1024 < m') = false := decide_eq_false (by omega)
    rw [ho, Bool.or_false]
    rw [decide_eq_true (show f.vars.length <= 64 by omega), decide_eq_true (show f.hatches.length <= 8 by omega), Bool.true_and, Bool.true_and] at hsz2
    refine Gs 3 rfl (G.bool rfl (fun s1 => ?_) (fun s1 => ?_))
    ·
     have s0 : xn f = false := by rw [hsz2, s1]; rfl
     refine Gs 7 rfl (G.ret1 tr126 rfl ⟨_, rfl, by rw [zQ, if_pos s0], hE⟩)
    ·
     have s0 : ¬ xn f = false := by rw [hsz2, s1]; decide
     refine Gs 6 rfl (G.ld rfl tg52 (hB_b.cells 0 _ rfl) (G.call rfl Tryz.call158 (zdm f.vars _ E _ hvs (by omega)) ?_))
     rintro _ wz4 ⟨rfl, hz4⟩
     obtain ⟨hE, hB_b, hB_m, hhs, hvs, hbd⟩ := Tr6 hz4 hE hB_b hB_m hhs hvs hbd
     refine Gs 9 rfl (G.ite rfl (fun vz => ?_) (fun vz => ?_))
     . refine Gs 8 rfl (G.ret1 tr126 rfl ⟨_, rfl, by rw [zQ, if_neg s0, if_pos vz], hE⟩)
     ·
      have hg := zaA (show zx f.vars = 0 by omega)
      refine Gs 5 rfl (G.ldK rfl tg56 ts56 hB_b.cells rfl ?_)
      have hch : zQ f = if zB f.vars f.hatches ≠ 0 then zB f.vars f.hatches else if zc f.vars f.hatches.length f.body true ≠ 0 then zc f.vars f.hatches.length f.body true else if zbw f then 4 else 0 := by rw [zQ, if_neg s0, if_neg vz]
      have hhs := hhs0.ext xb hE
      refine G.call rfl Tryz.call159 (zaQ f _ _ _ E _ ⟨hvs, hhs, hbd⟩ hg (fun h hh => by obtain ⟨i, hi⟩ := List.mem_iff_getElem?.1 hh; have := xd hi; omega) (by omega)) ?_
      rintro _ wz5 ⟨rfl, hz5⟩
      obtain ⟨hE, hB_b, hB_m, hvs, hbd, hhs⟩ := Tr6 hz5 hE hB_b hB_m hvs hbd hhs
      refine Gs 9 rfl (G.ite rfl (fun hz2 => ?_) (fun hz2 => ?_))
      . refine Gs 8 rfl (G.ret1 tr126 rfl ⟨_, rfl, by rw [hch, if_pos hz2], hE⟩)
      ·
       rw [if_neg hz2] at hch
       refine Gs 5 rfl (G.ldK rfl tg56 ts56 hB_b.cells rfl (Gs 1 rfl (G.ld rfl tg54 (hB_b.cells 2 _ rfl) (G.call rfl Tryz.call160 (zcp f _ _ _ hg E f.body _ E _ true ⟨hvs, hhs, hbd⟩ hbd hbk) ?_))))
       rintro _ wz6 ⟨rfl, hz6⟩
       obtain ⟨hE, hB_b, hB_m, hvs, hbd, hhs⟩ := Tr6 hz6 hE hB_b hB_m hvs hbd hhs
       refine Gs 9 rfl (G.ite rfl (fun sz => ?_) (fun sz => ?_))
       . refine Gs 8 rfl (G.ret1 tr126 rfl ⟨_, rfl, by rw [hch, if_pos sz], hE⟩)
       ·
        have hs0 : zc f.vars f.hatches.length f.body true = 0 := by omega
        rw [if_neg sz] at hch
        refine Gs 6 rfl (G.ld rfl tg54 (hB_b.cells 2 _ rfl) (G.call rfl Tryz.call161 (zgN f.vars f.hatches.length f.body _ E _ true hs0 hbd hbk) ?_))
        rintro _ wz7 ⟨rfl, hz7⟩
        obtain ⟨hE, hB_b, hB_m, hvs, hbd, hhs⟩ := Tr6 hz7 hE hB_b hB_m hvs hbd hhs
        have c1 : (4096 < cap 1099511627776 (bds f.body).1) ↔ 4096 < (bds f.body).1 := by unfold cap; omega
        have c2 : (8 < cap 1099511627776 (bds f.body).2.1) ↔ 8 < (bds f.body).2.1 := by unfold cap; omega
        have c3 : (67108864 < cap 1099511627776 (bds f.body).2.2) ↔ 67108864 < (bds f.body).2.2 := by unfold cap; omega
        have ho2 : zbw f = (decide (4096 < cap 1099511627776 (bds f.body).1) || decide (8 < cap 1099511627776 (bds f.body).2.1) || decide (67108864 < cap 1099511627776 (bds f.body).2.2)) := by
         unfold zbw; rw [decide_eq_decide.2 c1, decide_eq_decide.2 c2, decide_eq_decide.2 c3]
        refine G.mem rfl rfl (M.alloc (cs := _) tz223 rfl) ?_
        rintro _ wa8 ⟨c, rfl, hg_c, hs_c, hB_c, hk_c⟩
        refine G.mem0 rfl (M.storeK ts223 rfl rfl rfl rfl (by simp [Value.oneCell']) hB_c (by simp)) ?_
        rintro w_c ⟨_, hB_c, hkk_c⟩
        replace hk_c := hk_c.trans hkk_c (fun q hq h => by have h : q = c := h; omega)
        have hn_b_c : b ≠ c := by have := hB_b.lt; omega
        have hn_m_c : m ≠ c := by have := hB_m.lt; omega
        have hge_c : _ <= c := Nat.le_trans hE.size (Nat.le_of_eq hg_c.symm)
        obtain ⟨hE, hB_b, hB_m, hvs, hbd, hhs⟩ := Tr6 hk_c hE hB_b hB_m hvs hbd hhs
        refine Gs 5 rfl (G.ld rfl tg3 (hB_c.cells 0 _ rfl) (Gs 2 rfl (G.sp 63 rfl (fun b1 => ?_) (fun b1 => ?_))))
        . refine Gs 19 rfl (G.ret1 tr126 rfl ⟨_, rfl, by rw [hch, if_pos (by rw [ho2, decide_eq_true b1]; rfl)], hE⟩)
        ·
         refine Gs 1 rfl (G.ld rfl tg3 (hB_c.cells 1 _ rfl) (Gs 3 rfl (G.sp 68 rfl (fun b2 => ?_) (fun b2 => ?_))))
         . refine Gs 14 rfl (G.ret1 tr126 rfl ⟨_, rfl, by rw [hch, if_pos (by rw [ho2, decide_eq_true b2, Bool.or_true]; rfl)], hE⟩)
         ·
          refine Gs 1 rfl (G.ld rfl tg3 (hB_c.cells 2 _ rfl) (Gs 4 rfl (G.ite rfl (fun b3 => ?_) (fun b3 => ?_))))
          . refine Gs 7 rfl (G.ret1 tr126 rfl ⟨_, rfl, by rw [hch, if_pos (by rw [ho2, decide_eq_true b3, Bool.or_true])], hE⟩)
          . refine Gs 8 rfl (G.ret1 tr126 rfl ⟨_, rfl, by rw [hch, if_neg (by rw [ho2, decide_eq_false b1, decide_eq_false b2, decide_eq_false b3]; decide)], hE⟩)
end Go.Proofs.YtbkhagigkglgoaaGreatDoor
namespace Go.GL
instance decNd : DecidableEq Nd := fun a b =>
 if h : a.kind = b.kind /\ a.at_ = b.at_ /\ a.next = b.next /\ a.other = b.other then isTrue (Nd.eq4 h.1 h.2.1 h.2.2.1 h.2.2.2) else isFalse (fun e => h (by subst e; exact ⟨rfl, rfl, rfl, rfl⟩))
end Go.GL
namespace Go.Proofs.YtbkhagigkglgoaaGreatDoor
open Go.GL
theorem zbx {vs : List Vr} {nh : Nat} (l : List St) : ∀ top, zc vs nh l top = 0 -> qT l = true := by
 induction l using Sts.ind with
 | h l ih =>
 intro top h
 refine zfg (fun s hs => ?_)
 obtain ⟨last, h2⟩ := xh l top h s hs
 obtain ⟨h3, _, _, h4, h5⟩ := xL h2
 rw [s.plainB_eq, (ih s hs).1 _ h4, (ih s hs).2 _ h5, Bool.and_true, Bool.and_true]
 split
 . rfl
 ·
  split
  . rename_i a4; rw [(h3.rep a4).2.2]; rfl
  . rename_i a3 a4; rw [(h3.free a3 a4).1, (h3.free a3 a4).2]; rfl
theorem yh {f : Fl} (h : zQ f = 0) : xn f = true /\ zx f.vars = 0 /\ zB f.vars f.hatches = 0 /\ zc f.vars f.hatches.length f.body true = 0 /\ zbw f = false := by
 unfold zQ at h
 split at h
 . cases h
 split at h
 . rename_i h1; exact absurd h h1
 split at h
 . rename_i h1; exact absurd h h1
 split at h
 . rename_i h1; exact absurd h h1
 split at h
 . cases h
 rename_i h1 h2 h3 h4 h5
 refine ⟨by simpa using h1, by omega, by omega, by omega, by simpa using h5⟩
theorem zdr {f : Fl} (h : zQ f = 0) : qT f.body = true := zbx _ _ (yh h).2.2.2.1
theorem zds {f : Fl} (hsz : zl f.body + zH f.hatches <= 1024) : ssize f.body <= 1024 := by have := zcf f.body; omega
end Go.Proofs.YtbkhagigkglgoaaGreatDoor
namespace Go.GL
mutual
/-- The steps in preorder. -/
def St.pre : St -> List St
 | .mk a c v n t f g b => .mk a c v n t f g b :: (jU f ++ jU g)
def jU : List St -> List St
 | [] => []
 | s :: r => s.pre ++ jU r
end
theorem St.pre_eq (s : St) : s.pre = s :: (jU s.thn ++ jU s.els) := by cases s; rw [St.pre]; rfl
theorem qh (a b : List St) : jU (a ++ b) = jU a ++ jU b := by
 induction a with
 | nil => rfl
 | cons x r ih => rw [List.cons_append, jU, ih, jU, List.append_assoc]
open Go.RowKit Go.ChangeMaps
def lkm : List (Int × Value) -> Int -> Option (Nat × Value)
 | [], _ => none
 | (a, v) :: r, k => if k = a then some (0, v) else (lkm r k).map fun p => (p.1 + 1, p.2)
def ze7 (l : List (Int × Value)) (k : Int) : Option Value := (lkm l k).map (·.2)
def zhT (l : List (Int × Value)) (k : Int) (v : Value) : List (Int × Value) := match lkm l k with
 | some p => l.set p.1 (k, v)
 | none => l ++ [(k, v)]
theorem kV {l : List (Int × Value)} {k : Int} {p : Nat × Value} (h : lkm l k = some p) : l[p.1]? = some (k, p.2) := by
 induction l generalizing p with
 | nil => simp [lkm] at h
 | cons x r ih =>
  obtain ⟨a, v⟩ := x
  rw [lkm] at h
  split at h
  . rename_i h1; cases h; rw [h1]; rfl
  ·
   obtain ⟨q, h2, rfl⟩ := Option.map_eq_some_iff.1 h
   simpa using ih h2
theorem zby {l : List (Int × Value)} {k : Int} (h : lkm l k = none) : ∀ p ∈ l, p.1 ≠ k := by
 induction l with
 | nil => intro p hp; simp at hp
 | cons x r ih =>
  obtain ⟨a, v⟩ := x
  rw [lkm] at h
  split at h
  . cases h
  ·
   rename_i h1
   intro p hp
   rcases List.mem_cons.1 hp with rfl | hp
   . exact fun h2 => h1 h2.symm
   . exact ih (by simpa using h) p hp
theorem ze8 {l : List (Int × Value)} {k : Int} {v : Value} (h : ze7 l k = some v) : (k, v) ∈ l := by
 obtain ⟨p, h1, rfl⟩ := Option.map_eq_some_iff.1 h
 exact List.mem_of_getElem? (kV h1)
theorem jd {l : List (Int × Value)} (hn : (l.map (·.1)).Nodup) {k : Int} {v : Value} (h : (k, v) ∈ l) : ze7 l k = some v := by
 induction l with
 | nil => simp at h
 | cons x r ih =>
  obtain ⟨a, u⟩ := x
  rw [List.map_cons, List.nodup_cons] at hn
  rw [ze7, lkm]
  rcases List.mem_cons.1 h with h1 | h1
  . cases h1; simp
  ·
   have hne : k ≠ a := fun e => hn.1 (List.mem_map.2 ⟨(k, v), h1, e⟩)
   rw [if_neg hne]
   have := ih hn.2 h1
   rw [ze7] at this
   simpa [Option.map_map] using this
theorem zbz {l : List (Int × Value)} {k : Int} : ze7 l k = none ↔ ∀ p ∈ l, p.1 ≠ k := by
 rw [ze7, Option.map_eq_none_iff]
 refine ⟨zby, fun h => ?_⟩
 cases h1 : lkm l k with
 | none => rfl
 | some p => exact absurd rfl (h _ (List.mem_of_getElem? (kV h1)))
theorem zfs (l : List (Int × Value)) (k : Int) (v : Value) : (zhT l k v).map (·.1) = match lkm l k with
 | some _ => l.map (·.1)
 | none => l.map (·.1) ++ [k] := by
 unfold zhT
 cases h : lkm l k with
 | none => simp
 | some p =>
  have h1 := kV h
  simp only
  rw [List.map_set]
  apply List.ext_getElem?
  intro j
  rw [List.getElem?_set]
  split
  ·
   rename_i hj; subst hj
   rw [List.getElem?_map, h1]
   split
   . rfl
   . rename_i h2; rw [List.length_map] at h2; exact absurd (List.getElem?_eq_some_iff.1 h1).1 h2
  . rfl
theorem zeE {l : List (Int × Value)} (hn : (l.map (·.1)).Nodup) (k : Int) (v : Value) : ((zhT l k v).map (·.1)).Nodup := by
 rw [zfs]
 cases h : lkm l k with
 | some p => exact hn
 | none =>
  simp only
  rw [List.nodup_append]
  refine ⟨hn, by simp, fun a ha b hb => ?_⟩
  rw [List.mem_singleton] at hb
  subst hb
  obtain ⟨p, hp, rfl⟩ := List.mem_map.1 ha
  exact zby h p hp
theorem zft {l : List (Int × Value)} (hn : (l.map (·.1)).Nodup) (k k' : Int) (v : Value) : ze7 (zhT l k v) k' = if k' = k then some v else ze7 l k' := by
 have hn' := zeE hn k v
 have key : ∀ u, (k', u) ∈ zhT l k v ↔ (k' = k /\ u = v) \/ (k' ≠ k /\ (k', u) ∈ l) := by
  intro u
  unfold zhT
  cases h : lkm l k with
  | none =>
   have h1 := zby h
   simp only [List.mem_append, List.mem_singleton, Prod.mk.injEq]
   constructor
   ·
    rintro (h2 | h2)
    . exact .inr ⟨h1 _ h2, h2⟩
    . exact .inl h2
   ·
    rintro (h2 | h2)
    . exact .inr h2
    . exact .inl h2.2
  | some p =>
   have h1 := kV h
   obtain ⟨hlt, h1'⟩ := List.getElem?_eq_some_iff.1 h1
   simp only
   constructor
   ·
    intro h2
    obtain ⟨j, hj⟩ := List.mem_iff_getElem?.1 h2
    rw [List.getElem?_set] at hj
    split at hj
    ·
     first
      | (split at hj <;> cases hj <;> exact .inl ⟨rfl, rfl⟩)
      | (cases hj; exact .inl ⟨rfl, rfl⟩)
    ·
     rename_i hne
     refine .inr ⟨?_, List.mem_of_getElem? hj⟩
     rintro rfl
     have hjl := (List.getElem?_eq_some_iff.1 hj).1
     have := (List.nodup_iff_pairwise_ne.1 hn)
     rw [List.pairwise_iff_getElem] at this
     have e1 : (l.map (·.1))[p.1]'(by rw [List.length_map]; exact hlt) = k' := by rw [List.getElem_map, h1']
     have e2 : (l.map (·.1))[j]'(by rw [List.length_map]; exact hjl) = k' := by rw [List.getElem_map, (List.getElem?_eq_some_iff.1 hj).2]
     rcases Nat.lt_or_ge p.1 j with h3 | h3
     . exact this p.1 j _ _ h3 (by rw [e1, e2])
     . exact this j p.1 _ _ (by omega) (by rw [e1, e2])
   ·
    rintro (⟨rfl, rfl⟩ | ⟨h2, h3⟩)
    . exact List.mem_of_getElem? (by rw [List.getElem?_set_self hlt])
    ·
     obtain ⟨j, hj⟩ := List.mem_iff_getElem?.1 h3
     refine List.mem_iff_getElem?.2 ⟨j, ?_⟩
     rw [List.getElem?_set_ne]
     . exact hj
     ·
      rintro rfl
      rw [h1] at hj
      exact h2 (congrArg Prod.fst (Option.some.inj hj)).symm
 by_cases h : k' = k
 ·
  rw [if_pos h]
  exact jd hn' ((key v).2 (.inl ⟨h, rfl⟩))
 ·
  rw [if_neg h]
  cases h2 : ze7 l k' with
  | some u => exact jd hn' ((key u).2 (.inr ⟨h, ze8 h2⟩))
  | none =>
   rw [zbz] at h2 ⊢
   rintro ⟨a, u⟩ hp rfl
   rcases (key u).1 hp with h3 | h3
   . exact h h3.1
   . exact h2 _ h3.2 rfl
def MapI (w : World) (m : Nat) (l : List (Int × Value)) : Prop :=
 ∃ (es : Array MapEntry) (clock : Nat), w.heap[m]? = some (.map es clock) /\ es.toList.map (fun e => (e.key, e.val)) = l.map (fun p => (Value.int .i64 p.1, p.2)) /\ (∀ e ∈ es.toList, e.born < clock) /\ (es.toList.map (·.born)).Nodup /\ (l.map (·.1)).Nodup
theorem MapI.keep {w w' : World} {S : Nat -> Prop} {m : Nat} {l : List (Int × Value)} (h : MapI w m l) (hk : Keep S w w') (hS : ¬ S m) : MapI w' m l := by
 obtain ⟨es, c, h1, r⟩ := h
 exact ⟨es, c, by rw [hk.block m (Array.getElem?_eq_some_iff.1 h1).1 hS]; exact h1, r⟩
theorem MapI.ext {w w' : World} {m : Nat} {l : List (Int × Value)} (h : MapI w m l) (hk : Ext w w') : MapI w' m l := h.keep hk (fun h => h)
theorem MapI.lt {w : World} {m : Nat} {l : List (Int × Value)} (h : MapI w m l) : m < w.heap.size := by
 obtain ⟨es, c, h1, r⟩ := h
 exact (Array.getElem?_eq_some_iff.1 h1).1
theorem MapI.ne {w : World} {m b : Nat} {l : List (Int × Value)} {cs : List Value} {e : TypeId} (h : MapI w m l) (hb : Blk w b cs e) : b ≠ m := by
 rintro rfl
 obtain ⟨es, c, h1, r⟩ := h
 unfold Blk at hb
 rw [h1] at hb
 cases hb
section
variable {P : Program} {w : World} {m : Nat} {l : List (Int × Value)} {t kt et : TypeId}
theorem xr {o o' : Obj} (h : w.heap[m]? = some o) : Keep (fun q => q = m) w (setBlock w m o') :=
 ⟨rfl, rfl, rfl, Nat.le_refl _, by simp [setBlock], fun k _ hn => (MapKept.heap_set h).2 k hn⟩
theorem zeF {β : Type} (f : MapEntry -> β) (g : MapEntry -> MapEntry) (y : β) : ∀ (es : List MapEntry) (i : Nat), (∀ e, es[i]? = some e -> f (g e) = y) -> (es.modify i g).map f = (es.map f).set i y := by
 intro es i h
 apply List.ext_getElem?
 intro j
 rw [List.getElem?_map, List.getElem?_modify, List.getElem?_set]
 by_cases hj : i = j
 ·
  subst hj
  cases h1 : es[i]? with
  | none =>
   have := List.getElem?_eq_none_iff.1 h1
   rw [if_pos rfl, if_neg (by rw [List.length_map]; omega)]
   simp
  | some e =>
   have := (List.getElem?_eq_some_iff.1 h1).1
   rw [if_pos rfl, if_pos (by rw [List.length_map]; omega)]
   simp [h e h1]
 ·
  rw [if_neg hj, List.getElem?_map]
  cases es[j]? <;> simp [hj]
end
section
variable {P : Program} {env : Env} {w : World} {dst : Option Tmp} {ty : TypeId} {pos : String} {aft : Array Edge} {g : Option (Nat × Bool)} {t kt et : TypeId} {m : Nat} {l : List (Int × Value)}
theorem M.makeMap : yA P ⟨dst, .makeMap t none, ty, pos, aft, g⟩ env w (fun u w' => ∃ b, u = .map (some b) /\ b = w.heap.size /\ w'.heap.size = w.heap.size + 1 /\ MapI w' b [] /\ Ext w w') := by
 refine ⟨.map (some w.heap.size), w.alloc (.map #[] 0), ?_, _, rfl, rfl, by simp, ⟨#[], 0, (MapKept.heap_alloc w _).1, rfl, by simp, by simp, by simp⟩, Keep.alloc w _⟩
 intro n a ha
 have h : (Instr.makeMap t none).run P w = .ok (.map (some w.heap.size)) (w.alloc (.map #[] 0)) := by simp [Instr.makeMap, Result.andThen]
 simp [execOp, h]
end
def MapE (w : World) (m : Nat) (l : List (Int × Value)) (k : Int) (st : Nat) : Prop :=
 ∃ (es : Array MapEntry) (clock i : Nat) (e : MapEntry) (v : Value), w.heap[m]? = some (.map es clock) /\ es.toList.map (fun e => (e.key, e.val)) = l.map (fun p => (Value.int .i64 p.1, p.2)) /\ (∀ e ∈ es.toList, e.born < clock) /\ (es.toList.map (·.born)).Nodup /\ (l.map (·.1)).Nodup /\
  es.toList[i]? = some e /\ e.born = st /\ lkm l k = some (i, v)
theorem MapE.keep {w w' : World} {S : Nat -> Prop} {m st : Nat} {k : Int} {l : List (Int × Value)} (h : MapE w m l k st) (hk : Keep S w w') (hS : ¬ S m) : MapE w' m l k st := by
 obtain ⟨es, c, i, e, v, h1, r⟩ := h
 exact ⟨es, c, i, e, v, by rw [hk.block m (Array.getElem?_eq_some_iff.1 h1).1 hS]; exact h1, r⟩
theorem MapE.map {w : World} {m st : Nat} {k : Int} {l : List (Int × Value)} (h : MapE w m l k st) : MapI w m l := by
 obtain ⟨es, c, i, e, v, h1, h2, h3, h4, h5, _⟩ := h
 exact ⟨es, c, h1, h2, h3, h4, h5⟩
def RanI (w : World) (it m : Nat) (l : List (Int × Value)) (seen : List Int) (cur : Option (Int × Value)) : Prop :=
 ∃ (es : Array MapEntry) (clock since : Nat) (sb : Array Nat) (c0 : Nat), w.heap[m]? = some (.map es clock) /\ es.toList.map (fun e => (e.key, e.val)) = l.map (fun p => (Value.int .i64 p.1, p.2)) /\ (∀ e ∈ es.toList, e.born < clock) /\ (es.toList.map (·.born)).Nodup /\ (l.map (·.1)).Nodup /\
  w.heap[it]? = some (.mapIter (some m) since sb c0) /\ (∀ e ∈ es.toList, e.born < since) /\ since <= c0 /\ (∀ e ∈ es.toList, ∀ k, e.key = .int .i64 k -> (e.born ∈ sb ↔ k ∈ seen)) /\ seen.Nodup /\ (∀ k ∈ seen, ∃ v, ze7 l k = some v) /\
  since <= clock /\ (∀ q, cur = some q -> c0 = clock /\ ∃ (e : MapEntry) (s : Array Nat), e ∈ es.toList /\ sb = s.push e.born /\ e.key = .int .i64 q.1 /\ e.val = q.2)
theorem RanI.keep {w w' : World} {S : Nat -> Prop} {it m : Nat} {l : List (Int × Value)} {seen : List Int} {cur : Option (Int × Value)} (h : RanI w it m l seen cur) (hk : Keep S w w') (hS : ¬ S m) (hI : ¬ S it) : RanI w' it m l seen cur := by
 obtain ⟨es, c, since, sb, c0, h1, h2, h3, h4, h5, h6, r⟩ := h
 exact ⟨es, c, since, sb, c0, by rw [hk.block m (Array.getElem?_eq_some_iff.1 h1).1 hS]; exact h1, h2, h3, h4, h5, by rw [hk.block it (Array.getElem?_eq_some_iff.1 h6).1 hI]; exact h6, r⟩
theorem RanI.map {w : World} {it m : Nat} {l : List (Int × Value)} {seen : List Int} {cur : Option (Int × Value)} (h : RanI w it m l seen cur) : MapI w m l := by
 obtain ⟨es, c, since, sb, c0, h1, h2, h3, h4, h5, _⟩ := h
 exact ⟨es, c, h1, h2, h3, h4, h5⟩
theorem RanI.lt {w : World} {it m : Nat} {l : List (Int × Value)} {seen : List Int} {cur : Option (Int × Value)} (h : RanI w it m l seen cur) : it < w.heap.size := by
 obtain ⟨es, c, since, sb, c0, h1, h2, h3, h4, h5, h6, _⟩ := h
 exact (Array.getElem?_eq_some_iff.1 h6).1
theorem RanI.ne {w : World} {it m : Nat} {l : List (Int × Value)} {seen : List Int} {cur : Option (Int × Value)} (h : RanI w it m l seen cur) : it ≠ m := by
 obtain ⟨es, c, since, sb, c0, h1, h2, h3, h4, h5, h6, _⟩ := h
 rintro rfl
 rw [h1] at h6; cases h6
section
variable {P : Program} {env : Env} {w : World} {dst : Option Tmp} {ty : TypeId} {pos : String} {aft : Array Edge} {g : Option (Nat × Bool)} {t kt et : TypeId} {m : Nat} {l : List (Int × Value)}
theorem M.range {x : Operand} (h : MapI w m l) (ht : P.underlying t = some (.map kt et)) (hx : ev env x = some (.map (some m))) :
  yA P ⟨dst, .range t x, ty, pos, aft, g⟩ env w (fun u w' => ∃ it, u = .pointer (some ⟨it, 0, none⟩) /\ it = w.heap.size /\ RanI w' it m l [] none /\ Ext w w' /\ w'.heap.size = w.heap.size + 1) := by
 have hlt := h.lt
 obtain ⟨es, c, h1, h2, h3, h4, h5⟩ := h
 have hrun : (Instr.range t (.map (some m))).run P w = .ok (.pointer (some ⟨w.heap.size, 0, none⟩)) (w.alloc (.mapIter (some m) c #[] c)) := by
  simp [Instr.range, run_underlying ht, MapKept.run_getObj_map h1, Result.andThen]
 refine ⟨.pointer (some ⟨w.heap.size, 0, none⟩), w.alloc (.mapIter (some m) c #[] c), fun n a ha => ?_, w.heap.size, rfl, rfl, ⟨es, c, c, #[], c, by rw [(MapKept.heap_alloc w _).2 _ hlt]; exact h1, h2, h3, h4, h5, (MapKept.heap_alloc w _).1, h3, Nat.le_refl _, fun e _ k _ => by simp, List.Pairwise.nil, by simp, Nat.le_refl _, by simp⟩, Keep.alloc w _, by simp⟩
 simp [execOp, ha.eval hx, hrun]
theorem M.next {x : Operand} {it : Nat} {seen : List Int} {cur : Option (Int × Value)} (h : RanI w it m l seen cur) (hx : ev env x = some (.pointer (some ⟨it, 0, none⟩))) :
  yA P ⟨dst, .next x false, ty, pos, aft, g⟩ env w (fun u w' => (u = .tuple #[.bool false] /\ w' = w /\ ∀ p ∈ l, p.1 ∈ seen) \/ ∃ k v, u = .tuple #[.bool true, .int .i64 k, v] /\ ze7 l k = some v /\ k ∉ seen /\ RanI w' it m l (seen ++ [k]) (some (k, v)) /\ Keep (fun q => q = it) w w' /\ w'.heap.size = w.heap.size) := by
 have hne := h.ne
 obtain ⟨es, c, since, sb, c0, h1, h2, h3, h4, h5, h6, h7, h8, h9, h10, h11, hsc, h12⟩ := h
 have hkey : ∀ e ∈ es.toList, ∃ k, e.key = .int .i64 k /\ ze7 l k = some e.val := by
  intro e he
  obtain ⟨i, hi⟩ := List.mem_iff_getElem?.1 he
  have := congrArg (fun L => L[i]?) h2
  simp only [List.getElem?_map, hi, Option.map_some] at this
  obtain ⟨p, hp, hp2⟩ := Option.map_eq_some_iff.1 this.symm
  simp only [Prod.mk.injEq] at hp2
  refine ⟨p.1, hp2.1.symm, ?_⟩
  rw [<- hp2.2]
  exact jd h5 (List.mem_of_getElem? hp)
 rcases run_next_at (P := P) w ty it m since c0 sb es c h6 h1 h7 h8 with ⟨h0, hrun⟩ | ⟨e, he, w1, hal, hrun⟩
 ·
  refine ⟨_, _, fun n a ha => ?_, .inl ⟨rfl, rfl, fun p hp => ?_⟩⟩
  . simp [execOp, ha.eval hx, hrun]
  ·
   obtain ⟨i, hi⟩ := List.mem_iff_getElem?.1 hp
   have h13 := congrArg (fun L => L[i]?) h2
   simp only [List.getElem?_map, hi, Option.map_some] at h13
   obtain ⟨e, he, he2⟩ := Option.map_eq_some_iff.1 h13
   simp only [Prod.mk.injEq] at he2
   rw [<- h9 e (List.mem_of_getElem? he) p.1 he2.1]
   have h14 : e ∉ leftOf es sb := by
    have : leftOf es sb = #[] := Array.eq_empty_of_size_eq_zero h0
    rw [this]; simp
   unfold leftOf at h14
   have h15 := List.mem_of_getElem? he
   simp at h14 h15
   exact h14 h15
 ·
  have he' : e ∈ es.toList /\ e.born ∉ sb := by
   unfold leftOf at he
   simp at he
   exact ⟨by simpa using he.1, he.2⟩
  obtain ⟨k, hk1, hk2⟩ := hkey e he'.1
  have hr1 : w1.heap[it]? = some (.mapIter (some m) since sb c0) := by rcases hal with rfl | rfl <;> exact h6
  have hb1 : w1.heap[m]? = some (.map es c) := by rcases hal with rfl | rfl <;> exact h1
  have hset := MapKept.heap_set (o' := .mapIter (some m) since (sb.push e.born) c) hr1
  have hks : k ∉ seen := fun hh => he'.2 ((h9 e he'.1 k hk1).2 hh)
  have hinj : ∀ e' ∈ es.toList, e'.born = e.born -> e' = e := by
   intro e' h' hb
   obtain ⟨i, hi⟩ := List.mem_iff_getElem?.1 h'
   obtain ⟨j, hj⟩ := List.mem_iff_getElem?.1 he'.1
   have hil := (List.getElem?_eq_some_iff.1 hi).1
   have hjl := (List.getElem?_eq_some_iff.1 hj).1
   have hp := List.nodup_iff_pairwise_ne.1 h4
   rw [List.pairwise_iff_getElem] at hp
   by_cases hij : i = j
   . subst hij; rw [hi] at hj; exact Option.some.inj hj
   ·
    exfalso
    rcases Nat.lt_or_ge i j with h3 | h3
    ·
     have := hp i j (by rw [List.length_map]; omega) (by rw [List.length_map]; omega) h3
     rw [List.getElem_map, List.getElem_map, (List.getElem?_eq_some_iff.1 hi).2, (List.getElem?_eq_some_iff.1 hj).2] at this
     exact this hb
    ·
     have := hp j i (by rw [List.length_map]; omega) (by rw [List.length_map]; omega) (by omega)
     rw [List.getElem_map, List.getElem_map, (List.getElem?_eq_some_iff.1 hi).2, (List.getElem?_eq_some_iff.1 hj).2] at this
     exact this hb.symm
  have hKeep : Keep (fun q => q = it) w (setBlock w1 it (.mapIter (some m) since (sb.push e.born) c)) := by
   rcases hal with rfl | rfl
   . exact xr h6
   . exact (Keep.mono (Keep.drew w) (fun _ _ h => h.elim)).trans (xr hr1) (fun _ _ h => h)
  refine ⟨_, _, fun n a ha => ?_, .inr ⟨k, e.val, by rw [<- hk1], hk2, hks, ⟨es, c, since, sb.push e.born, c, ?_, h2, h3, h4, h5, hset.1, h7, hsc, ?_, ?_, ?_, hsc, ?_⟩, hKeep, ?_⟩⟩
  . simp [execOp, ha.eval hx, hrun]
  . exact (hset.2 m (fun h => hne h.symm)).trans hb1
  ·
   intro e' h' k' hk'
   rw [Array.mem_push, h9 e' h' k' hk', List.mem_append, List.mem_singleton]
   constructor
   ·
    rintro (h13 | h13)
    . exact .inl h13
    ·
     have := hinj e' h' h13
     subst this
     rw [hk1] at hk'; cases hk'
     exact .inr rfl
   ·
    rintro (h13 | h13)
    . exact .inl h13
    ·
     subst h13
     right
     obtain ⟨i, hi⟩ := List.mem_iff_getElem?.1 h'
     obtain ⟨j, hj⟩ := List.mem_iff_getElem?.1 he'.1
     have g1 := congrArg (fun L => L[i]?) h2
     have g2 := congrArg (fun L => L[j]?) h2
     simp only [List.getElem?_map, hi, hj, Option.map_some] at g1 g2
     obtain ⟨p1, hp1, hp1'⟩ := Option.map_eq_some_iff.1 g1.symm
     obtain ⟨p2, hp2, hp2'⟩ := Option.map_eq_some_iff.1 g2.symm
     simp only [Prod.mk.injEq] at hp1' hp2'
     have e1 : p1.1 = k' := by have := hp1'.1.trans hk'; cases this; rfl
     have e2 : p2.1 = k' := by have := hp2'.1.trans hk1; cases this; rfl
     have hil := (List.getElem?_eq_some_iff.1 hp1).1
     have hjl := (List.getElem?_eq_some_iff.1 hp2).1
     have hp := List.nodup_iff_pairwise_ne.1 h5
     rw [List.pairwise_iff_getElem] at hp
     by_cases hij : i = j
     . subst hij; rw [hi] at hj; rw [Option.some.inj hj]
     ·
      exfalso
      rcases Nat.lt_or_ge i j with h3' | h3'
      ·
       have := hp i j (by rw [List.length_map]; omega) (by rw [List.length_map]; omega) h3'
       rw [List.getElem_map, List.getElem_map, (List.getElem?_eq_some_iff.1 hp1).2, (List.getElem?_eq_some_iff.1 hp2).2, e1, e2] at this
       exact this rfl
      ·
       have := hp j i (by rw [List.length_map]; omega) (by rw [List.length_map]; omega) (by omega)
       rw [List.getElem_map, List.getElem_map, (List.getElem?_eq_some_iff.1 hp1).2, (List.getElem?_eq_some_iff.1 hp2).2, e1, e2] at this
       exact this rfl
  ·
   rw [List.nodup_append]
   exact ⟨h10, by simp, fun a ha b hb => by rw [List.mem_singleton] at hb; subst hb; exact fun h => hks (h ▸ ha)⟩
  ·
   intro k' hk'
   rcases List.mem_append.1 hk' with hk' | hk'
   . exact h11 k' hk'
   . rw [List.mem_singleton] at hk'; subst hk'; exact ⟨_, hk2⟩
  ·
   intro q hq
   cases hq
   exact ⟨rfl, e, sb, he'.1, rfl, hk1, rfl⟩
  . rcases hal with rfl | rfl <;> simp [setBlock]
end
end Go.GL
namespace Go.Proofs.YtbkhagigkglgoaaGreatDoor
open Go.GL
def yz (b : Bool) : Int := if b then 1 else 0
def lki (l : List Int) (i : Nat) : Int := l[i]?.getD 0
theorem zfu {l : List Int} {i : Nat} {x : Int} (h : l[i]? = some x) : lki l i = x := by simp [lki, h]
theorem zfv {l : List Int} {i : Nat} (h : i < l.length) : l[i]? = some (lki l i) := by simp [lki, List.getElem?_eq_getElem h]
def xt (op a b : Int) : Int :=
 if op = 8 then a + b else if op = 9 then a - b else if op = 10 then a * b else if op = 11 then a.fdiv b
 else if op = 12 then (if b = 0 then 0 else a - b * a.fdiv b) else if op = 13 then yz (decide (a = b)) else if op = 14 then yz (decide (a ≠ b))
 else if op = 15 then yz (decide (a < b)) else if op = 16 then yz (decide (a <= b)) else if op = 17 then yz (decide (b < a)) else if op = 18 then yz (decide (b <= a))
 else if op = 19 then yz (decide (a ≠ 0) && decide (b ≠ 0)) else if op = 20 then yz (decide (a ≠ 0) || decide (b ≠ 0)) else if op = 21 then min a b else max a b
def xM (vals : List Int) (op n : Int) (ks : List Int) : Int :=
 if op = 0 then n else if op = 24 then lki vals n.toNat else if op = 6 then -(lki ks 0) else if op = 7 then yz (decide (lki ks 0 = 0))
 else if op = 23 then (if lki ks 0 ≠ 0 then lki ks 1 else lki ks 2)
 else if op = 25 then lki ks (1 + yV (lki ks 0) 0 ((ks.length : Int) - 2)).toNat
 else xt op (lki ks 0) (lki ks 1)
mutual
def xj (vals : List Int) : Tm -> Int
 | .mk op n ks => xM vals op n (zgs vals ks)
def zgs (vals : List Int) : List Tm -> List Int
 | [] => []
 | k :: r => xj vals k :: zgs vals r
end
theorem zdt (vals : List Int) (t : Tm) : xj vals t = xM vals t.op t.n (zgs vals t.kids) := by cases t; rw [xj]; rfl
theorem ze9 (vals : List Int) (l : List Tm) : zgs vals l = l.map (xj vals) := by
 induction l with
 | nil => rfl
 | cons x r ih => rw [zgs, ih]; rfl
theorem zbA (vals : List Int) (l : List Tm) : (zgs vals l).length = l.length := by rw [ze9, List.length_map]
theorem zbB {vals : List Int} {l : List Tm} {i : Nat} {k : Tm} (h : l[i]? = some k) : lki (zgs vals l) i = xj vals k := by
 apply zfu; rw [ze9, List.getElem?_map, h]; rfl
structure InV (vs : List Vr) (vals : List Int) : Prop where
 len : vals.length = vs.length
 at_ : ∀ (i : Nat) (v : Vr), vs[i]? = some v -> v.low <= lki vals i /\ lki vals i <= v.high
theorem zgO (a b : Int) (ha : -1048576 <= a /\ a <= 1048576) : (0 <= a -> -a <= a.fdiv b /\ a.fdiv b <= a) /\ (a <= 0 -> a <= a.fdiv b /\ a.fdiv b <= -a) /\ (0 <= a -> 0 <= b -> 0 <= a.fdiv b) := by
 rcases Int.lt_trichotomy b 0 with hb | hb | hb
 ·
  have h1 : a.fdiv b = (-a).ediv (-b) := by
   rw [<- Int.neg_fdiv_neg, Int.fdiv_eq_ediv_of_nonneg _ (by omega)]; rfl
  rw [h1]
  have h2 := Int.mul_ediv_add_emod (-a) (-b)
  have h3 := Int.emod_nonneg (-a) (show -b ≠ 0 by omega)
  have h4 := Int.emod_lt_of_pos (-a) (show 0 < -b by omega)
  change -b * ((-a).ediv (-b)) + (-a).emod (-b) = -a at h2
  change 0 <= (-a).emod (-b) at h3
  change (-a).emod (-b) < -b at h4
  generalize (-a).ediv (-b) = q at *
  generalize (-a).emod (-b) = r at *
  obtain ⟨c, rfl⟩ : ∃ c, b = -c := ⟨-b, by omega⟩
  simp only [Int.neg_neg] at *
  have hc : 0 < c := by omega
  refine ⟨fun h => ⟨?_, ?_⟩, fun h => ⟨?_, ?_⟩, fun h h' => by omega⟩
  ·
   rcases Int.lt_or_le q (-a) with h5 | h5
   ·
    have : c * q <= c * (-a - 1) := Int.mul_le_mul_of_nonneg_left (by omega) (by omega)
    have : c * (-a - 1) <= 1 * (-a - 1) := Int.mul_le_mul_of_nonpos_right (by omega) (by omega)
    have e : c * (-a - 1) = c * (-a) - c := by rw [Int.mul_sub, Int.mul_one]
    have : c * (-a) <= 1 * (-a) := Int.mul_le_mul_of_nonpos_right (by omega) (by omega)
    omega
   . exact h5
  ·
   rcases Int.lt_or_le 0 q with h5 | h5
   ·
    have : c * 1 <= c * q := Int.mul_le_mul_of_nonneg_left (by omega) (by omega)
    omega
   . omega
  ·
   rcases Int.lt_or_le q 0 with h5 | h5
   ·
    have : c * q <= c * (-1) := Int.mul_le_mul_of_nonneg_left (by omega) (by omega)
    omega
   . omega
  ·
   rcases Int.lt_or_le (-a) q with h5 | h5
   ·
    have : c * (-a + 1) <= c * q := Int.mul_le_mul_of_nonneg_left (by omega) (by omega)
    have : 1 * (-a + 1) <= c * (-a + 1) := Int.mul_le_mul_of_nonneg_right (by omega) (by omega)
    omega
   . exact h5
 ·
  subst hb
  simp only [Int.fdiv_zero]
  omega
 ·
  have h1 : a.fdiv b = a.ediv b := Int.fdiv_eq_ediv_of_nonneg _ (by omega)
  rw [h1]
  have h2 := Int.mul_ediv_add_emod a b
  have h3 := Int.emod_nonneg a (show b ≠ 0 by omega)
  have h4 := Int.emod_lt_of_pos a hb
  change b * (a.ediv b) + a.emod b = a at h2
  change 0 <= a.emod b at h3
  change a.emod b < b at h4
  generalize a.ediv b = q at *
  generalize a.emod b = r at *
  have hq : 0 <= a -> 0 <= q := fun h => by
   rcases Int.lt_or_le q 0 with h5 | h5
   ·
    have : b * q <= b * (-1) := Int.mul_le_mul_of_nonneg_left (by omega) (by omega)
    omega
   . exact h5
  refine ⟨fun h => ⟨by have := hq h; omega, ?_⟩, fun h => ⟨?_, ?_⟩, fun h _ => hq h⟩
  ·
   rcases Int.lt_or_le a q with h5 | h5
   ·
    have : b * (a + 1) <= b * q := Int.mul_le_mul_of_nonneg_left (by omega) (by omega)
    have : 1 * (a + 1) <= b * (a + 1) := Int.mul_le_mul_of_nonneg_right (by omega) (by omega)
    omega
   . exact h5
  ·
   rcases Int.lt_or_le q a with h5 | h5
   ·
    have : b * q <= b * (a - 1) := Int.mul_le_mul_of_nonneg_left (by omega) (by omega)
    have : b * (a - 1) <= 1 * (a - 1) := Int.mul_le_mul_of_nonpos_right (by omega) (by omega)
    have e : b * (a - 1) = b * a - b := by rw [Int.mul_sub, Int.mul_one]
    have : b * a <= 1 * a := Int.mul_le_mul_of_nonpos_right (by omega) (by omega)
    omega
   . exact h5
  ·
   rcases Int.lt_or_le 0 q with h5 | h5
   ·
    have : b * 1 <= b * q := Int.mul_le_mul_of_nonneg_left (by omega) (by omega)
    omega
   . omega
theorem zaZ (a b : Int) : (b < 0 -> b < a - b * a.fdiv b /\ a - b * a.fdiv b <= 0) /\ (0 < b -> 0 <= a - b * a.fdiv b /\ a - b * a.fdiv b < b) := by
 have h2 := Int.mul_fdiv_add_fmod a b
 refine ⟨fun hb => ?_, fun hb => ?_⟩
 ·
  have h3 : a.fmod b = -((-a).emod (-b)) := by
   have := Int.neg_fmod_neg (-a) (-b)
   simp only [Int.neg_neg] at this
   rw [this, Int.fmod_eq_emod_of_nonneg _ (by omega)]; rfl
  have h4 := Int.emod_nonneg (-a) (show -b ≠ 0 by omega)
  have h5 := Int.emod_lt_of_pos (-a) (show 0 < -b by omega)
  change 0 <= (-a).emod (-b) at h4
  change (-a).emod (-b) < -b at h5
  omega
 ·
  have h3 : a.fmod b = a.emod b := Int.fmod_eq_emod_of_nonneg _ (by omega)
  have h4 := Int.emod_nonneg a (show b ≠ 0 by omega)
  have h5 := Int.emod_lt_of_pos a hb
  change 0 <= a.emod b at h4
  change a.emod b < b at h5
  omega
theorem zfw {x y a b c d : Int} (hx : a <= x /\ x <= b) (hy : c <= y /\ y <= d) : min (min (a * c) (a * d)) (min (b * c) (b * d)) <= x * y /\ x * y <= max (max (a * c) (a * d)) (max (b * c) (b * d)) := by
 have key : ∀ (u v p q : Int), p <= v -> v <= q -> min (u * p) (u * q) <= u * v /\ u * v <= max (u * p) (u * q) := by
  intro u v p q h1 h2
  rcases Int.le_total 0 u with hu | hu
  ·
   have := Int.mul_le_mul_of_nonneg_left h1 hu
   have := Int.mul_le_mul_of_nonneg_left h2 hu
   omega
  ·
   have := Int.mul_le_mul_of_nonpos_left (a := u) hu h1
   have := Int.mul_le_mul_of_nonpos_left (a := u) hu h2
   omega
 have h1 := key y x a b hx.1 hx.2
 have h2 := key a y c d hy.1 hy.2
 have h3 := key b y c d hy.1 hy.2
 rw [Int.mul_comm y a, Int.mul_comm y b, Int.mul_comm y x] at h1
 omega
theorem zcr (x : Rg) : ∀ l : List Rg, ((yM x l).1 <= x.1 /\ x.2 <= (yM x l).2) /\ ∀ r ∈ l, (yM x l).1 <= r.1 /\ r.2 <= (yM x l).2 := by
 intro l
 induction l generalizing x with
 | nil => simp [yM]
 | cons y r ih =>
  have h := ih (min x.1 y.1, max x.2 y.2)
  rw [show yM x (y :: r) = yM (min x.1 y.1, max x.2 y.2) r from rfl]
  refine ⟨by have := h.1; dsimp only at this; omega, fun z hz => ?_⟩
  rcases List.mem_cons.1 hz with rfl | hz
  . have := h.1; dsimp only at this; omega
  . exact h.2 z hz
theorem zfx {op a b : Int} (h1 : op ≠ 8) (h2 : op ≠ 9) (h3 : op ≠ 10) (h4 : op ≠ 11) (h5 : op ≠ 12) (h6 : op ≠ 21) (h7 : op <= 20) (h8 : 8 <= op) : xt op a b = 0 \/ xt op a b = 1 := by
 have hf : ∀ b, yz b = 0 \/ yz b = 1 := fun b => by cases b <;> simp [yz]
 unfold xt
 rw [if_neg h1, if_neg h2, if_neg h3, if_neg h4, if_neg h5]
 (repeat' split); all_goals first | exact hf _ | omega
theorem xK (n : Int) {lo hi : Int} (h : lo <= hi) : lo <= yV n lo hi /\ yV n lo hi <= hi := by
 unfold yV
 (repeat' split); all_goals omega
theorem zgP {vs : List Vr} {vals : List Int} {op n : Int} {ks : List Int} {l : List Rg} (hV : InV vs vals) (hn : NodeOk vs op n l) (hlen : ks.length = l.length) (h23 : op = 23 -> l.length = 3) (hop : op = 0 \/ op = 24 \/ op = 6 \/ op = 7 \/ 8 <= op /\ op <= 22 \/ op = 23 \/ op = 25)
  (hk : ∀ i, i < l.length -> (at2 l i).1 <= lki ks i /\ lki ks i <= (at2 l i).2) : (zi vs op n l).1 <= xM vals op n ks /\ xM vals op n ks <= (zi vs op n l).2 := by
 have hg : ∀ i, i < l.length -> yf (at2 l i) := fun i hi => hn.good _ (zfk hi)
 have hf : ∀ b, 0 <= yz b /\ yz b <= 1 := fun b => by cases b <;> simp [yz]
 unfold yf at hg
 unfold zi xM
 by_cases c0 : op = 0
 . rw [if_pos c0, if_pos c0]; exact ⟨Int.le_refl _, Int.le_refl _⟩
 rw [if_neg c0, if_neg c0]
 by_cases c24 : op = 24
 ·
  rw [if_pos c24, if_pos c24]
  have h1 := hn.var c24
  obtain ⟨v, hv⟩ : ∃ v, vs[n.toNat]? = some v := ⟨_, List.getElem?_eq_getElem (by omega)⟩
  rw [zfj hv]
  exact hV.at_ _ _ hv
 rw [if_neg c24, if_neg c24]
 by_cases c6 : op = 6
 ·
  have := hn.k1 (.inl c6); have := hk 0 (by omega)
  rw [if_pos c6, if_pos c6]; dsimp only; omega
 rw [if_neg c6, if_neg c6]
 by_cases c7 : op = 7
 ·
  rw [if_pos c7]
  repeat rw [if_neg (by omega)]
  exact hf _
 rw [if_neg c7]
 by_cases c23 : op = 23
 ·
  have h3 := hn.k3 (.inl c23)
  rw [if_pos c23]
  repeat rw [if_neg (show ¬ op = _ by omega)]
  rw [if_pos (.inl c23)]
  have hm := zcr (at2 l 1) (l.drop 2)
  split
  . have := hk 1 (by omega); omega
  ·
   have h2 : 2 < l.length := by have := h23 c23; omega
   have := hk 2 (by omega)
   have := hm.2 (at2 l 2) (by
    unfold at2
    rw [List.getElem?_eq_getElem h2]
    exact List.mem_iff_getElem?.2 ⟨0, by rw [List.getElem?_drop]; exact List.getElem?_eq_getElem h2⟩)
   omega
 rw [if_neg c23]
 by_cases c25 : op = 25
 ·
  have h3 := hn.k3 (.inr c25)
  rw [if_pos c25]
  repeat rw [if_neg (show ¬ op = _ by omega)]
  rw [if_pos (.inr c25)]
  have hm := zcr (at2 l 1) (l.drop 2)
  have hcl := xK (lki ks 0) (show (0 : Int) <= (ks.length : Int) - 2 by omega)
  obtain ⟨j, hj⟩ : ∃ j : Nat, yV (lki ks 0) 0 ((ks.length : Int) - 2) = j := Int.eq_ofNat_of_zero_le hcl.1
  have hj2 : j + 2 <= l.length := by omega
  rw [hj, show (1 + (j : Int)).toNat = j + 1 by omega]
  have := hk (j + 1) (by omega)
  by_cases h2 : j = 0
  . subst h2; have := hm.1; rw [Nat.zero_add] at *; omega
  ·
   have := hm.2 (at2 l (j + 1)) (by
    unfold at2
    rw [List.getElem?_eq_getElem (show j + 1 < l.length by omega)]
    exact List.mem_iff_getElem?.2 ⟨j - 1, by rw [List.getElem?_drop, show 2 + (j - 1) = j + 1 by omega]; exact List.getElem?_eq_getElem (by omega)⟩)
   omega
 rw [if_neg c25]
 have hb : 8 <= op /\ op <= 22 := by omega
 have hl2 := hn.k2 hb
 have h0 := hk 0 (by omega)
 have h1 := hk 1 (by omega)
 have g0 := hg 0 (by omega)
 have g1 := hg 1 (by omega)
 generalize lki ks 0 = x at *
 generalize lki ks 1 = y at *
 generalize at2 l 0 = r0 at *
 generalize at2 l 1 = r1 at *
 by_cases c8 : op = 8
 . rw [if_pos c8, xt, if_pos c8]; dsimp only; omega
 rw [if_neg c8]
 by_cases c9 : op = 9
 . rw [if_pos c9, xt, if_neg c8, if_pos c9]; dsimp only; omega
 rw [if_neg c9]
 by_cases c10 : op = 10
 ·
  rw [if_pos c10, xt, if_neg c8, if_neg c9, if_pos c10]
  have := zfw h0 h1
  unfold xp yM
  simp only [List.foldl_cons, List.foldl_nil]
  omega
 rw [if_neg c10]
 by_cases c11 : op = 11
 ·
  rw [if_pos c11, xt, if_neg c8, if_neg c9, if_neg c10, if_pos c11]
  have := zgO x y (by omega)
  dsimp only
  split <;> omega
 rw [if_neg c11]
 by_cases c12 : op = 12
 ·
  rw [if_pos c12, xt, if_neg c8, if_neg c9, if_neg c10, if_neg c11, if_pos c12]
  have := zaZ x y
  dsimp only
  generalize x - y * x.fdiv y = m at *
  split <;> split <;> split <;> omega
 rw [if_neg c12]
 by_cases c21 : op = 21
 ·
  rw [if_pos c21]
  have e : xt op x y = min x y := by
   unfold xt
   repeat rw [if_neg (show ¬ op = _ by omega)]
   rw [if_pos c21]
  rw [e]; dsimp only; omega
 rw [if_neg c21]
 by_cases c22 : op = 22
 ·
  rw [if_pos c22]
  have e : xt op x y = max x y := by
   unfold xt
   repeat rw [if_neg (show ¬ op = _ by omega)]
  rw [e]; dsimp only; omega
 rw [if_neg c22, if_neg (by omega)]
 have := zfx (a := x) (b := y) c8 c9 c10 c11 c12 c21 (by omega) (by omega)
 dsimp only; omega
theorem zfy {vs : List Vr} {inp : Bool} (hv : ∀ v ∈ vs, yf (v.low, v.high)) {vals : List Int} (hV : InV vs vals) (t : Tm) : zz vs inp t = true -> ∀ r, rng vs t = some r -> r.1 <= xj vals t /\ xj vals t <= r.2 := by
 induction t using Tm.ind with
 | h t ih =>
  intro hf r hr
  rw [yJ, Bool.and_eq_true, Bool.and_eq_true] at hf
  rw [zar, Option.bind_eq_some_iff] at hr
  obtain ⟨l, h1, h2⟩ := hr
  have hlen := xI _ _ h1
  have hn : NodeOk vs t.op t.n l := qx hlen hf.1.1 hf.1.2 (fun x hx => by
   obtain ⟨k, hk, hkx⟩ := qL _ _ h1 x hx
   exact qM hv k (ye hf.2 hk) x hkx) hv
  have hfit := hf.1.1
  have zm : ∀ (ks : List Tm) (m : List Rg), jT vs ks = some m -> ∀ (i : Nat) k, ks[i]? = some k -> rng vs k = some (at2 m i) := by
   intro ks
   induction ks with
   | nil => intro m _ i k h; simp at h
   | cons y ys ihy =>
    intro m hm i k hk
    simp only [jT, Option.bind_eq_some_iff, Option.map_eq_some_iff] at hm
    obtain ⟨z, g1, u, g2, rfl⟩ := hm
    cases i with
    | zero => simp at hk; subst hk; simpa [at2] using g1
    | succ i => simp at hk; have := ihy u g2 i k hk; simpa [at2] using this
  have H := zgP (n := t.n) (op := t.op) (ks := zgs vals t.kids) (l := l) hV hn (by rw [zbA, hlen]) (fun h => by
    unfold yE at hfit
    rw [show zo t.op = 3 by unfold zo; rw [h]; rfl] at hfit
    simp at hfit; omega) (by
    by_cases h : 0 <= zo t.op \/ zo t.op = -2
    ·
     unfold zo at h
     repeat' split at h
     all_goals omega
    ·
     exfalso
     have := qK t.op
     rw [ym (.inl (by omega))] at hfit
     cases hfit) (fun i hi => by
    obtain ⟨k, hk⟩ : ∃ k, t.kids[i]? = some k := ⟨_, List.getElem?_eq_getElem (by omega)⟩
    rw [zbB hk]
    exact ih k (List.mem_of_getElem? hk) (ye hf.2 (List.mem_of_getElem? hk)) _ (zm _ _ h1 i k hk))
  rw [zdt]
  split at h2
  . cases h2; exact H
  . cases h2
end Go.Proofs.YtbkhagigkglgoaaGreatDoor
namespace Go.GL
section
variable {P : Program} {env : Env} {w : World} {dst : Option Tmp} {ty : TypeId} {pos : String} {aft : Array Edge} {g : Option (Nat × Bool)} {t t' : TypeId} {x y : Operand} {m j : Int}
theorem R.quo (hx : ev env x = some (.int .i64 m)) (hy : ev env y = some (.int .i64 j)) (hj : j ≠ 0) (hr : -9223372036854775808 < m /\ m <= 9223372036854775807) : yr P ⟨dst, .binOp .quo t x y t', ty, pos, aft, g⟩ env w (.int .i64 (m.tdiv j)) w := by
 intro n a ha
 have h1 : (m.tdiv j).natAbs <= m.natAbs := Int.natAbs_tdiv_le_natAbs m j
 have h2 : IntKind.i64.wrap (m.tdiv j) = m.tdiv j := xz (by omega)
 simp [execOp, ha.eval hx, ha.eval hy, eqGuard_quo, binOp_quo, Op.intDiv, hj, h2]
theorem R.rem (hx : ev env x = some (.int .i64 m)) (hy : ev env y = some (.int .i64 j)) (hj : j ≠ 0) (_ : -9223372036854775808 < m /\ m <= 9223372036854775807) : yr P ⟨dst, .binOp .rem t x y t', ty, pos, aft, g⟩ env w (.int .i64 (m.tmod j)) w := by
 intro n a ha
 simp [execOp, ha.eval hx, ha.eval hy, eqGuard_rem, binOp_rem, Op.intDiv, hj]
end
theorem zcs (a b : Int) (hb : b ≠ 0) : a.fdiv b = if a.tmod b ≠ 0 /\ (decide (a < 0) ≠ decide (b < 0)) then a.tdiv b - 1 else a.tdiv b := by
 rw [Int.fdiv_eq_tdiv]
 have hd : b ∣ a ↔ a.tmod b = 0 := ⟨Int.tmod_eq_zero_of_dvd, Int.dvd_of_tmod_eq_zero⟩
 by_cases h : b ∣ a
 . rw [if_pos h, if_neg (fun h2 => h2.1 (hd.1 h))]; omega
 ·
  have hm : a.tmod b ≠ 0 := fun h2 => h (hd.2 h2)
  rw [if_neg h]
  by_cases ha : 0 <= a
  ·
   rw [if_pos ha]
   by_cases hb2 : 0 <= b
   . rw [if_pos hb2, if_neg (fun h2 => h2.2 (by rw [decide_eq_false (by omega), decide_eq_false (by omega)]))]; omega
   . rw [if_neg hb2, if_pos ⟨hm, by rw [decide_eq_false (by omega), decide_eq_true (by omega)]; decide⟩]
  ·
   rw [if_neg ha]
   by_cases hb2 : 0 <= b
   . rw [if_pos hb2, if_pos ⟨hm, by rw [decide_eq_true (by omega), decide_eq_false (by omega)]; decide⟩, Int.sign_eq_one_of_pos (by omega)]
   . rw [if_neg hb2, if_neg (fun h2 => h2.2 (by rw [decide_eq_true (by omega), decide_eq_true (by omega)])), Int.sign_eq_neg_one_of_neg (by omega)]; omega
end Go.GL
namespace Go.Proofs.YtbkhagigkglgoaaGreatDoor
open Go.GL
abbrev zct (a : Int) : Prop := -1048576 <= a /\ a <= 1048576
theorem jE (a b : Int) (w : World) (ha : zct a) (hb : zct b) : Calls Tryz.prog 191 #[.int .i64 a, .int .i64 b] w (Ret fun r w' => r = .int .i64 (a.fdiv b) /\ Ext w w') := by
 have hE := Keep.refl (fun _ => False) w
 refine G.in2 Tryz.func191 rfl Tryz.ntmps191 rfl (Gs 12 rfl (G.ite rfl (fun h0 => ?_) (fun h0 => ?_)))
 ·
  subst h0
  refine Gs 7 rfl (G.ret1 tr191 rfl ⟨_, rfl, by rw [Int.fdiv_zero], hE⟩)
 ·
  have hd := zcs a b h0
  have hq : (a.tdiv b).natAbs <= a.natAbs := Int.natAbs_tdiv_le_natAbs a b
  refine Gs 6 rfl (G.ops1 rfl rfl (R.quo rfl rfl h0 (by omega)) (Gs 8 rfl (G.ops1 rfl rfl (R.rem rfl rfl h0 (by omega)) (Gs 2 rfl (G.sp 15 rfl (fun h1 => ?_) (fun h1 => ?_))))))
  ·
   refine Gs 8 rfl (G.ite rfl (fun h2 => ?_) (fun h2 => ?_))
   . refine Ga 13 rfl (by omega) (G.ret1 tr191 rfl ⟨_, rfl, by rw [hd, if_pos ⟨h1, h2⟩], hE⟩)
   . refine Gs 9 rfl (G.ret1 tr191 rfl ⟨_, rfl, by rw [hd, if_neg (fun h => h2 h.2)], hE⟩)
  . refine Gs 18 rfl (G.ret1 tr191 rfl ⟨_, rfl, by rw [hd, if_neg (fun h => h1 h.1)], hE⟩)
theorem kF (a b : Int) (w : World) (ha : zct a) (hb : zct b) : Calls Tryz.prog 205 #[.int .i64 a, .int .i64 b] w (Ret fun r w' => r = .int .i64 (a.fdiv b) /\ Ext w w') := by
 have hE := Keep.refl (fun _ => False) w
 refine G.in2 Tryz.func205 rfl Tryz.ntmps205 rfl (Gs 12 rfl (G.ite rfl (fun h0 => ?_) (fun h0 => ?_)))
 ·
  subst h0
  refine Gs 7 rfl (G.ret1 tr205 rfl ⟨_, rfl, by rw [Int.fdiv_zero], hE⟩)
 ·
  have hd := zcs a b h0
  have hq : (a.tdiv b).natAbs <= a.natAbs := Int.natAbs_tdiv_le_natAbs a b
  refine Gs 6 rfl (G.ops1 rfl rfl (R.quo rfl rfl h0 (by omega)) (Gs 8 rfl (G.ops1 rfl rfl (R.rem rfl rfl h0 (by omega)) (Gs 2 rfl (G.sp 15 rfl (fun h1 => ?_) (fun h1 => ?_))))))
  ·
   refine Gs 8 rfl (G.ite rfl (fun h2 => ?_) (fun h2 => ?_))
   . refine Ga 13 rfl (by omega) (G.ret1 tr205 rfl ⟨_, rfl, by rw [hd, if_pos ⟨h1, h2⟩], hE⟩)
   . refine Gs 9 rfl (G.ret1 tr205 rfl ⟨_, rfl, by rw [hd, if_neg (fun h => h2 h.2)], hE⟩)
  . refine Gs 18 rfl (G.ret1 tr205 rfl ⟨_, rfl, by rw [hd, if_neg (fun h => h1 h.1)], hE⟩)
theorem zb0 (a b : Int) (hb : b ≠ 0) : -(a.natAbs : Int) - b.natAbs <= b * a.fdiv b /\ b * a.fdiv b <= (a.natAbs : Int) + b.natAbs := by
 have h := zaZ a b
 generalize b * a.fdiv b = q at *
 omega
theorem zbC (a b : Int) (w : World) (ha : zct a) (hb : zct b) : Calls Tryz.prog 192 #[.int .i64 a, .int .i64 b] w (Ret fun r w' => r = .int .i64 (if b = 0 then 0 else a - b * a.fdiv b) /\ Ext w w') := by
 have hE := Keep.refl (fun _ => False) w
 refine G.in2 Tryz.func192 rfl Tryz.ntmps192 rfl (Gs 12 rfl (G.ite rfl (fun h0 => ?_) (fun h0 => ?_)))
 . refine Gs 7 rfl (G.ret1 Tryz.results192 rfl ⟨_, rfl, by rw [if_pos h0], hE⟩)
 ·
  have hm := zb0 a b h0
  refine Gs 8 rfl (G.call rfl Tryz.call191 (jE a b _ ha hb) ?_)
  rintro _ wz1 ⟨rfl, hz1⟩
  replace hE := Tr1 hz1 hE
  refine Ga 6 rfl (by omega) (G.ret1 Tryz.results192 rfl ⟨_, rfl, by rw [if_neg h0], hE⟩)
theorem zcu (a b : Int) (w : World) (ha : zct a) (hb : zct b) : Calls Tryz.prog 206 #[.int .i64 a, .int .i64 b] w (Ret fun r w' => r = .int .i64 (if b = 0 then 0 else a - b * a.fdiv b) /\ Ext w w') := by
 have hE := Keep.refl (fun _ => False) w
 refine G.in2 Tryz.func206 rfl Tryz.ntmps206 rfl (Gs 12 rfl (G.ite rfl (fun h0 => ?_) (fun h0 => ?_)))
 . refine Gs 7 rfl (G.ret1 Tryz.results206 rfl ⟨_, rfl, by rw [if_pos h0], hE⟩)
 ·
  have hm := zb0 a b h0
  refine Gs 8 rfl (G.call rfl Tryz.call205 (kF a b _ ha hb) ?_)
  rintro _ wz1 ⟨rfl, hz1⟩
  replace hE := Tr1 hz1 hE
  refine Ga 6 rfl (by omega) (G.ret1 Tryz.results206 rfl ⟨_, rfl, by rw [if_neg h0], hE⟩)
theorem zbD (op a b : Int) (w : World) (ha : zct a) (hb : zct b) : Calls Tryz.prog 178 #[.int .i64 op, .int .i64 a, .int .i64 b] w (Ret fun r w' => r = .int .i64 (xt op a b) /\ Ext w w') := by
 have hE := Keep.refl (fun _ => False) w
 have hml := kz ha hb
 refine G.in3 Tryz.func178 rfl Tryz.ntmps178 rfl (Gs 18 rfl (G.ite rfl (fun hh1 => ?_) (fun hh1 => ?_)))
 . refine Ga 11 rfl (by omega) (G.ret1 tr178 rfl ⟨_, rfl, by simp [xt, hh1], hE⟩)
 ·
  refine Gs 6 rfl (G.ite rfl (fun hh2 => ?_) (fun hh2 => ?_))
  . refine Ga 11 rfl (by omega) (G.ret1 tr178 rfl ⟨_, rfl, by simp [xt, hh2], hE⟩)
  ·
   refine Gs 6 rfl (G.ite rfl (fun hh3 => ?_) (fun hh3 => ?_))
   . refine Ga 11 rfl (by omega) (G.ret1 tr178 rfl ⟨_, rfl, by simp [xt, hh3], hE⟩)
   ·
    refine Gs 6 rfl (G.ite rfl (fun hh4 => ?_) (fun hh4 => ?_))
    ·
     refine Gs 4 rfl (G.call rfl Tryz.call191 (jE a b _ ha hb) ?_)
     rintro _ wz5 ⟨rfl, hz5⟩
     replace hE := Tr1 hz5 hE
     refine Gs 6 rfl (G.ret1 tr178 rfl ⟨_, rfl, by simp [xt, hh4], hE⟩)
    ·
     refine Gs 6 rfl (G.ite rfl (fun hh6 => ?_) (fun hh6 => ?_))
     ·
      refine Gs 4 rfl (G.call rfl Tryz.call192 (zbC a b _ ha hb) ?_)
      rintro _ wz7 ⟨rfl, hz7⟩
      replace hE := Tr1 hz7 hE
      refine Gs 6 rfl (G.ret1 tr178 rfl ⟨_, rfl, by simp [xt, hh6], hE⟩)
     ·
      refine Gs 6 rfl (G.ite rfl (fun hh8 => ?_) (fun hh8 => ?_))
      ·
       refine Gs 5 rfl (G.call rfl tc177 (zU _ _) ?_)
       rintro _ wz9 ⟨rfl, hz9⟩
       replace hE := Tr1 hz9 hE
       refine Gs 6 rfl (G.ret1 tr178 rfl ⟨_, rfl, by simp [xt, yz, hh8], hE⟩)
      ·
       refine Gs 6 rfl (G.ite rfl (fun hh10 => ?_) (fun hh10 => ?_))
       ·
        refine Gs 5 rfl (G.call rfl tc177 (zU _ _) ?_)
        rintro _ wz11 ⟨rfl, hz11⟩
        replace hE := Tr1 hz11 hE
        refine Gs 6 rfl (G.ret1 tr178 rfl ⟨_, rfl, by simp [xt, yz, hh10], hE⟩)
       ·
        refine Gs 6 rfl (G.ite rfl (fun hh12 => ?_) (fun hh12 => ?_))
        ·
         refine Gs 5 rfl (G.call rfl tc177 (zU _ _) ?_)
         rintro _ wz13 ⟨rfl, hz13⟩
         replace hE := Tr1 hz13 hE
         refine Gs 6 rfl (G.ret1 tr178 rfl ⟨_, rfl, by simp [xt, yz, hh12], hE⟩)
        ·
         refine Gs 6 rfl (G.ite rfl (fun hh14 => ?_) (fun hh14 => ?_))
         ·
          refine Gs 5 rfl (G.call rfl tc177 (zU _ _) ?_)
          rintro _ wz15 ⟨rfl, hz15⟩
          replace hE := Tr1 hz15 hE
          refine Gs 6 rfl (G.ret1 tr178 rfl ⟨_, rfl, by simp [xt, yz, hh14], hE⟩)
         ·
          refine Gs 6 rfl (G.ite rfl (fun hh16 => ?_) (fun hh16 => ?_))
          ·
           refine Gs 5 rfl (G.call rfl tc177 (zU _ _) ?_)
           rintro _ wz17 ⟨rfl, hz17⟩
           replace hE := Tr1 hz17 hE
           refine Gs 6 rfl (G.ret1 tr178 rfl ⟨_, rfl, by simp [xt, yz, hh16], hE⟩)
          ·
           refine Gs 6 rfl (G.ite rfl (fun hh18 => ?_) (fun hh18 => ?_))
           ·
            refine Gs 5 rfl (G.call rfl tc177 (zU _ _) ?_)
            rintro _ wz19 ⟨rfl, hz19⟩
            replace hE := Tr1 hz19 hE
            refine Gs 6 rfl (G.ret1 tr178 rfl ⟨_, rfl, by simp [xt, yz, hh18], hE⟩)
           ·
            refine Gs 6 rfl (G.ite rfl (fun hh20 => ?_) (fun hh20 => ?_))
            ·
             refine Gs 5 rfl (G.sp 73 rfl (fun hh21 => ?_) (fun hh21 => ?_))
             ·
              refine Gs 3 rfl (G.call rfl tc177 (zU _ _) ?_)
              rintro _ wz22 ⟨rfl, hz22⟩
              replace hE := Tr1 hz22 hE
              refine Gs 6 rfl (G.ret1 tr178 rfl ⟨_, rfl, by simp [xt, yz, hh20, hh21], hE⟩)
             ·
              refine Gs 3 rfl (G.call rfl tc177 (zU _ _) ?_)
              rintro _ wz23 ⟨rfl, hz23⟩
              replace hE := Tr1 hz23 hE
              refine Gs 6 rfl (G.ret1 tr178 rfl ⟨_, rfl, by simp [xt, yz, hh20, hh21], hE⟩)
            ·
             refine Gs 6 rfl (G.ite rfl (fun hh24 => ?_) (fun hh24 => ?_))
             ·
              refine Gs 5 rfl (G.sp 82 rfl (fun hh25 => ?_) (fun hh25 => ?_))
              ·
               refine Gs 3 rfl (G.call rfl tc177 (zU _ _) ?_)
               rintro _ wz26 ⟨rfl, hz26⟩
               replace hE := Tr1 hz26 hE
               refine Gs 6 rfl (G.ret1 tr178 rfl ⟨_, rfl, by simp [xt, yz, hh24, hh25], hE⟩)
              ·
               refine Gs 3 rfl (G.call rfl tc177 (zU _ _) ?_)
               rintro _ wz27 ⟨rfl, hz27⟩
               replace hE := Tr1 hz27 hE
               refine Gs 6 rfl (G.ret1 tr178 rfl ⟨_, rfl, by simp [xt, yz, hh24, hh25], hE⟩)
             ·
              refine Gs 6 rfl (G.ite rfl (fun hh28 => ?_) (fun hh28 => ?_))
              . refine Gs 11 rfl (G.ret1 tr178 rfl ⟨_, rfl, by simp [xt, hh28], hE⟩)
              . refine Gs 12 rfl (G.ret1 tr178 rfl ⟨_, rfl, by simp [xt, hh1, hh2, hh3, hh4, hh6, hh8, hh10, hh12, hh14, hh16, hh18, hh20, hh24, hh28], hE⟩)
theorem zcv (op a b : Int) (w : World) (ha : zct a) (hb : zct b) : Calls Tryz.prog 190 #[.int .i64 op, .int .i64 a, .int .i64 b] w (Ret fun r w' => r = .int .i64 (xt op a b) /\ Ext w w') := by
 have hE := Keep.refl (fun _ => False) w
 have hml := kz ha hb
 refine G.in3 Tryz.func190 rfl Tryz.ntmps190 rfl (Gs 18 rfl (G.ite rfl (fun hh1 => ?_) (fun hh1 => ?_)))
 . refine Ga 11 rfl (by omega) (G.ret1 tr190 rfl ⟨_, rfl, by simp [xt, hh1], hE⟩)
 ·
  refine Gs 6 rfl (G.ite rfl (fun hh2 => ?_) (fun hh2 => ?_))
  . refine Ga 11 rfl (by omega) (G.ret1 tr190 rfl ⟨_, rfl, by simp [xt, hh2], hE⟩)
  ·
   refine Gs 6 rfl (G.ite rfl (fun hh3 => ?_) (fun hh3 => ?_))
   . refine Ga 11 rfl (by omega) (G.ret1 tr190 rfl ⟨_, rfl, by simp [xt, hh3], hE⟩)
   ·
    refine Gs 6 rfl (G.ite rfl (fun hh4 => ?_) (fun hh4 => ?_))
    ·
     refine Gs 4 rfl (G.call rfl Tryz.call205 (kF a b _ ha hb) ?_)
     rintro _ wz5 ⟨rfl, hz5⟩
     replace hE := Tr1 hz5 hE
     refine Gs 6 rfl (G.ret1 tr190 rfl ⟨_, rfl, by simp [xt, hh4], hE⟩)
    ·
     refine Gs 6 rfl (G.ite rfl (fun hh6 => ?_) (fun hh6 => ?_))
     ·
      refine Gs 4 rfl (G.call rfl Tryz.call206 (zcu a b _ ha hb) ?_)
      rintro _ wz7 ⟨rfl, hz7⟩
      replace hE := Tr1 hz7 hE
      refine Gs 6 rfl (G.ret1 tr190 rfl ⟨_, rfl, by simp [xt, hh6], hE⟩)
     ·
      refine Gs 6 rfl (G.ite rfl (fun hh8 => ?_) (fun hh8 => ?_))
      ·
       refine Gs 5 rfl (G.call rfl tc101 (zZ _ _) ?_)
       rintro _ wz9 ⟨rfl, hz9⟩
       replace hE := Tr1 hz9 hE
       refine Gs 6 rfl (G.ret1 tr190 rfl ⟨_, rfl, by simp [xt, yz, hh8], hE⟩)
      ·
       refine Gs 6 rfl (G.ite rfl (fun hh10 => ?_) (fun hh10 => ?_))
       ·
        refine Gs 5 rfl (G.call rfl tc101 (zZ _ _) ?_)
        rintro _ wz11 ⟨rfl, hz11⟩
        replace hE := Tr1 hz11 hE
        refine Gs 6 rfl (G.ret1 tr190 rfl ⟨_, rfl, by simp [xt, yz, hh10], hE⟩)
       ·
        refine Gs 6 rfl (G.ite rfl (fun hh12 => ?_) (fun hh12 => ?_))
        ·
         refine Gs 5 rfl (G.call rfl tc101 (zZ _ _) ?_)
         rintro _ wz13 ⟨rfl, hz13⟩
         replace hE := Tr1 hz13 hE
         refine Gs 6 rfl (G.ret1 tr190 rfl ⟨_, rfl, by simp [xt, yz, hh12], hE⟩)
        ·
         refine Gs 6 rfl (G.ite rfl (fun hh14 => ?_) (fun hh14 => ?_))
         ·
          refine Gs 5 rfl (G.call rfl tc101 (zZ _ _) ?_)
          rintro _ wz15 ⟨rfl, hz15⟩
          replace hE := Tr1 hz15 hE
          refine Gs 6 rfl (G.ret1 tr190 rfl ⟨_, rfl, by simp [xt, yz, hh14], hE⟩)
         ·
          refine Gs 6 rfl (G.ite rfl (fun hh16 => ?_) (fun hh16 => ?_))
          ·
           refine Gs 5 rfl (G.call rfl tc101 (zZ _ _) ?_)
           rintro _ wz17 ⟨rfl, hz17⟩
           replace hE := Tr1 hz17 hE
           refine Gs 6 rfl (G.ret1 tr190 rfl ⟨_, rfl, by simp [xt, yz, hh16], hE⟩)
          ·
           refine Gs 6 rfl (G.ite rfl (fun hh18 => ?_) (fun hh18 => ?_))
           ·
            refine Gs 5 rfl (G.call rfl tc101 (zZ _ _) ?_)
            rintro _ wz19 ⟨rfl, hz19⟩
            replace hE := Tr1 hz19 hE
            refine Gs 6 rfl (G.ret1 tr190 rfl ⟨_, rfl, by simp [xt, yz, hh18], hE⟩)
           ·
            refine Gs 6 rfl (G.ite rfl (fun hh20 => ?_) (fun hh20 => ?_))
            ·
             refine Gs 5 rfl (G.sp 73 rfl (fun hh21 => ?_) (fun hh21 => ?_))
             ·
              refine Gs 3 rfl (G.call rfl tc101 (zZ _ _) ?_)
              rintro _ wz22 ⟨rfl, hz22⟩
              replace hE := Tr1 hz22 hE
              refine Gs 6 rfl (G.ret1 tr190 rfl ⟨_, rfl, by simp [xt, yz, hh20, hh21], hE⟩)
             ·
              refine Gs 3 rfl (G.call rfl tc101 (zZ _ _) ?_)
              rintro _ wz23 ⟨rfl, hz23⟩
              replace hE := Tr1 hz23 hE
              refine Gs 6 rfl (G.ret1 tr190 rfl ⟨_, rfl, by simp [xt, yz, hh20, hh21], hE⟩)
            ·
             refine Gs 6 rfl (G.ite rfl (fun hh24 => ?_) (fun hh24 => ?_))
             ·
              refine Gs 5 rfl (G.sp 82 rfl (fun hh25 => ?_) (fun hh25 => ?_))
              ·
               refine Gs 3 rfl (G.call rfl tc101 (zZ _ _) ?_)
               rintro _ wz26 ⟨rfl, hz26⟩
               replace hE := Tr1 hz26 hE
               refine Gs 6 rfl (G.ret1 tr190 rfl ⟨_, rfl, by simp [xt, yz, hh24, hh25], hE⟩)
              ·
               refine Gs 3 rfl (G.call rfl tc101 (zZ _ _) ?_)
               rintro _ wz27 ⟨rfl, hz27⟩
               replace hE := Tr1 hz27 hE
               refine Gs 6 rfl (G.ret1 tr190 rfl ⟨_, rfl, by simp [xt, yz, hh24, hh25], hE⟩)
             ·
              refine Gs 6 rfl (G.ite rfl (fun hh28 => ?_) (fun hh28 => ?_))
              ·
               refine Gs 4 rfl (G.call rfl tc113 (zw a b _) ?_)
               rintro _ wz29 ⟨rfl, hz29⟩
               replace hE := Tr1 hz29 hE
               refine Gs 6 rfl (G.ret1 tr190 rfl ⟨_, rfl, by simp [xt, hh28], hE⟩)
              ·
               refine Gs 7 rfl (G.call rfl tc112 (zS a b _) ?_)
               rintro _ wz30 ⟨rfl, hz30⟩
               replace hE := Tr1 hz30 hE
               refine Gs 4 rfl (G.ret1 tr190 rfl ⟨_, rfl, by simp [xt, hh1, hh2, hh3, hh4, hh6, hh8, hh10, hh12, hh14, hh16, hh18, hh20, hh24, hh28], hE⟩)
structure TmOk (vs : List Vr) (vals : List Int) (t : Tm) : Prop where
 ops : t.op = 0 \/ t.op = 24 \/ t.op = 6 \/ t.op = 7 \/ 8 <= t.op /\ t.op <= 22 \/ t.op = 23 \/ t.op = 25
 k1 : t.op = 6 \/ t.op = 7 -> t.kids.length = 1
 k2 : 8 <= t.op /\ t.op <= 22 -> t.kids.length = 2
 k3 : t.op = 23 -> t.kids.length = 3
 k25 : t.op = 25 -> 2 <= t.kids.length /\ t.kids.length <= 33
 var : t.op = 24 -> 0 <= t.n /\ t.n < vs.length
 self : zct (xj vals t)
 kid : ∀ k ∈ t.kids, zct (xj vals k)
theorem zjc {vs : List Vr} {inp : Bool} (hv : ∀ v ∈ vs, yf (v.low, v.high)) {vals : List Int} (hV : InV vs vals) {t : Tm} (hf : zz vs inp t = true) (hr : (rng vs t).isSome = true) : TmOk vs vals t /\ ∀ k ∈ t.kids, zz vs inp k = true /\ (rng vs k).isSome = true := by
 obtain ⟨r, hr⟩ := Option.isSome_iff_exists.1 hr
 have hin : ∀ k, zz vs inp k = true -> ∀ r, rng vs k = some r -> zct (xj vals k) := fun k h1 r h2 => by
  have h3 := zfy hv hV k h1 r h2
  have h4 := qM hv k h1 r h2
  unfold yf at h4
  exact ⟨by omega, by omega⟩
 have hself := hin t hf r hr
 rw [yJ, Bool.and_eq_true, Bool.and_eq_true] at hf
 rw [zar, Option.bind_eq_some_iff] at hr
 obtain ⟨l, h1, h2⟩ := hr
 have hlen := xI _ _ h1
 have hgr : ∀ (ks : List Tm) (m : List Rg), jT vs ks = some m -> ∀ k ∈ ks, (rng vs k).isSome = true := by
  intro ks
  induction ks with
  | nil => intro m _ k h; simp at h
  | cons y ys ihy =>
   intro m hm k hk
   simp only [jT, Option.bind_eq_some_iff, Option.map_eq_some_iff] at hm
   obtain ⟨z, g1, u, g2, rfl⟩ := hm
   rcases List.mem_cons.1 hk with rfl | hk
   . rw [g1]; rfl
   . exact ihy u g2 k hk
 have hkid : ∀ k ∈ t.kids, zz vs inp k = true /\ (rng vs k).isSome = true := fun k hk => ⟨ye hf.2 hk, hgr _ _ h1 k hk⟩
 have hn : NodeOk vs t.op t.n l := qx hlen hf.1.1 hf.1.2 (fun x hx => by
  obtain ⟨k, hk, hkx⟩ := qL _ _ h1 x hx
  exact qM hv k (ye hf.2 hk) x hkx) hv
 refine ⟨⟨?_, fun h => by rw [<- hlen]; exact hn.k1 h, fun h => by rw [<- hlen]; exact hn.k2 h, fun h => ?_, fun h => by rw [<- hlen]; exact hn.k3 (.inr h), hn.var, hself, fun k hk => ?_⟩, hkid⟩
 ·
  by_cases h : 0 <= zo t.op \/ zo t.op = -2
  ·
   unfold zo at h
   repeat' split at h
   all_goals omega
  ·
   exfalso
   have := qK t.op
   have h3 := hf.1.1
   rw [ym (.inl (by omega))] at h3
   cases h3
 ·
  have h3 := hf.1.1
  unfold yE at h3
  rw [show zo t.op = 3 by unfold zo; rw [h]; rfl] at h3
  simp at h3; omega
 ·
  obtain ⟨h3, h4⟩ := hkid k hk
  obtain ⟨r', h5⟩ := Option.isSome_iff_exists.1 h4
  exact hin k h3 r' h5
def zhU (vals : List Int) (k : Tm) : Prop := ∀ (cs : List Value) (D Dv : Nat -> Prop) (w : World) (vv : Value), SlR 1 zv Dv w vv vals -> RTm D w k cs -> Calls Tryz.prog 148 #[vv, .agg cs.toArray] w (Ret fun r w' => r = .int .i64 (xj vals k) /\ Ext w w')
theorem zis (vals : List Int) (t : Tm) (i : Nat) (k : Tm) (hk : t.kids[i]? = some k) (b2 b3 : Nat) (vv kv : Value) (D Dv : Nat -> Prop) (w : World) (hB2 : Blk w b2 [vv] 31) (hB3 : Blk w b3 [.int .i64 t.op, .int .i64 t.n, kv] 132) (hks : SlR 3 RTm D w kv t.kids) (hvv : SlR 1 zv Dv w vv vals) (ih : zhU vals k) :
  Calls Tryz.prog 176 #[.int .i64 i, .pointer (some ⟨b2, 0, none⟩), .pointer (some ⟨b3, 0, none⟩)] w (Ret fun r w' => r = .int .i64 (xj vals k) /\ Ext w w') := by
 have hE := Keep.refl (fun _ => False) w
 have hi := (List.getElem?_eq_some_iff.1 hk).1
 obtain ⟨a3, c3, rfl⟩ := hks.form
 obtain ⟨bk, ok, ck, hak, _, hck, hRk⟩ := hks.at hk
 obtain ⟨kv', rfl, hkk⟩ := hRk.get
 refine G.in3 Tryz.func176 rfl Tryz.ntmps176 rfl (Gs 6 rfl (Dw (fun q => Ext w q) [] (fun wd1 hD _ => ?_)))
 refine WD.take 0 rfl (by kernel_rfl) rfl rfl rfl hD (fun w1 hw1 => R.load tg31 rfl ((hw1.blk hB2 (fun h => h)).cells 0 _ rfl)) (Ds [1] (by kernel_rfl) rfl (WD.take 2 rfl (by kernel_rfl) rfl rfl rfl hD (fun w1 hw1 => R.load tg130 rfl ((hw1.blk hB3 (fun h => h)).cells 2 _ rfl)) (Ds [3] (by kernel_rfl) rfl (WD.takeW 4 rfl (by kernel_rfl) rfl rfl rfl (fun w1 => R.indexS tR130 ts132 rfl rfl hak (by omega)) (WD.take 5 rfl (by kernel_rfl) rfl rfl rfl hD (fun w1 hw1 => R.loadK tg132 ts132 rfl (by rfl) (hw1.cells hck (fun h => h))) (WD.call 6 rfl (by kernel_rfl) rfl rfl rfl (F.call (vs := [_, _]) tc148 rfl) (ih _ D Dv _ _ (hvv.ext zb hD) (RTm.put (hkk.ext zk hD))) ?_))))))
 rintro _ wz2 ⟨rfl, hz2⟩
 replace hD := hD.ext hz2
 refine ⟨fun _ => hD, ?_⟩
 refine Ds [7] (by kernel_rfl) rfl (G.done (by kernel_rfl) ?_ _)
 replace hE := Tr1 hD hE
 refine Gs 2 rfl (G.ret1 Tryz.results176 rfl ⟨_, rfl, rfl, hE⟩)
theorem jF {vs : List Vr} {inp : Bool} (hv : ∀ v ∈ vs, yf (v.low, v.high)) {vals : List Int} (hV : InV vs vals) (t : Tm) : zz vs inp t = true -> (rng vs t).isSome = true -> zhU vals t := by
 induction t using Tm.ind with
 | h t ih =>
 intro hf hr cs D Dv w vv hvv ht
 obtain ⟨ok, hkf⟩ := zjc hv hV hf hr
 have ihk : ∀ k ∈ t.kids, zhU vals k := fun k hk => ih k hk (hkf k hk).1 (hkf k hk).2
 obtain ⟨kv, rfl, hks⟩ := ht.get
 obtain ⟨a3, c3, rfl⟩ := hks.form
 obtain ⟨av, cv, rfl⟩ := hvv.form
 have hve := zdt vals t
 have hops := ok.ops
 have hE := Keep.refl (fun _ => False) w
 refine G.in2 Tryz.func148 rfl Tryz.ntmps148 rfl (Gs 2 rfl (G.mem rfl rfl (M.box rfl rfl) ?_))
 rintro _ w_b2 ⟨b2, rfl, hg_b2, hs_b2, hB_b2, hk_b2⟩
 have hge_b2 : _ <= b2 := Nat.le_trans hE.size (Nat.le_of_eq hg_b2.symm)
 obtain ⟨hE, hks, hvv⟩ := Tr3 hk_b2 hE hks hvv
 refine G.mem rfl rfl (M.box rfl rfl) ?_
 rintro _ w_b3 ⟨b3, rfl, hg_b3, hs_b3, hB_b3, hk_b3⟩
 have hn_b2_b3 : b2 ≠ b3 := by have := hB_b2.lt; omega
 have hge_b3 : _ <= b3 := Nat.le_trans hE.size (Nat.le_of_eq hg_b3.symm)
 obtain ⟨hE, hks, hvv, hB_b2⟩ := Tr4 hk_b3 hE hks hvv hB_b2
 refine Gs 13 rfl (G.ld rfl tg129 (hB_b3.cells 0 _ rfl) (Gs 9 rfl ?_))
 have hkid : ∀ (i : Int) (j : Nat) (k : Tm), i = (j : Int) -> t.kids[j]? = some k -> ∀ w', Ext w_b3 w' -> Calls Tryz.prog 176 #[.int .i64 i, .pointer (some ⟨b2, 0, none⟩), .pointer (some ⟨b3, 0, none⟩)] w' (Ret fun r w'' => r = .int .i64 (xj vals k) /\ Ext w' w'') := fun i j k hij hk w' hw' => by
  subst hij
  exact zis vals t j k hk b2 b3 _ _ D Dv w' (hw'.blk hB_b2 (fun h => h)) (hw'.blk hB_b3 (fun h => h)) (hks.ext zk hw') (hvv.ext zb hw') (ihk k (List.mem_of_getElem? hk))
 have zm : ∀ i : Nat, i < t.kids.length -> ∃ k, t.kids[i]? = some k /\ lki (zgs vals t.kids) i = xj vals k /\ zct (xj vals k) := fun i hi => by
  obtain ⟨k, hk⟩ : ∃ k, t.kids[i]? = some k := ⟨_, List.getElem?_eq_getElem hi⟩
  exact ⟨k, hk, zbB hk, ok.kid k (List.mem_of_getElem? hk)⟩
 have hX := Keep.refl (fun _ => False) w_b3
 refine G.ite rfl (fun c0 => ?_) (fun c0 => ?_)
 . refine Gs 3 rfl (G.ld rfl tg3 (hB_b3.cells 1 _ rfl) (Gs 6 rfl (G.ret1 tr148 rfl ⟨_, rfl, by rw [hve, xM, if_pos c0], hE⟩)))
 ·
  refine Gs 6 rfl (G.ite rfl (fun c24 => ?_) (fun c24 => ?_))
  ·
   have hn := ok.var c24
   have hln := hV.len
   obtain ⟨bx, ox, cx, hax, _, hcx, rfl⟩ := hvv.at (zfv (l := vals) (i := t.n.toNat) (by omega))
   refine Gs 2 rfl (G.ld rfl tg31 (hB_b2.cells 0 _ rfl) (Gs 1 rfl (G.ld rfl tg3 (hB_b3.cells 1 _ rfl) (G.ops1 rfl rfl (R.indexS tR31 ts3 rfl rfl hax (by omega)) (G.ld rfl tg3 (hcx 0 _ rfl) (Gs 6 rfl (G.ret1 tr148 rfl ⟨_, rfl, by rw [hve, xM, if_neg c0, if_pos c24], hE⟩)))))))
  ·
   refine Gs 6 rfl (G.ite rfl (fun c6 => ?_) (fun c6 => ?_))
   ·
    have h1 := ok.k1 (.inl c6)
    obtain ⟨k0, hk0, hl0, hi0⟩ := zm 0 (by omega)
    refine Gs 3 rfl (G.callV rfl tc176 (hkid 0 0 k0 rfl hk0 _ hX) ?_)
    rintro _ wz1 ⟨rfl, hz1⟩
    obtain ⟨hE, hks, hvv, hB_b2, hB_b3, hX⟩ := Tr6 hz1 hE hks hvv hB_b2 hB_b3 hX
    refine Ga 7 rfl (by omega) (G.ret1 tr148 rfl ⟨_, rfl, by rw [hve, xM, if_neg c0, if_neg c24, if_pos c6, hl0], hE⟩)
   ·
    refine Gs 6 rfl (G.ite rfl (fun c7 => ?_) (fun c7 => ?_))
    ·
     have h1 := ok.k1 (.inr c7)
     obtain ⟨k0, hk0, hl0, hi0⟩ := zm 0 (by omega)
     refine Gs 3 rfl (G.callV rfl tc176 (hkid 0 0 k0 rfl hk0 _ hX) ?_)
     rintro _ wz2 ⟨rfl, hz2⟩
     obtain ⟨hE, hks, hvv, hB_b2, hB_b3, hX⟩ := Tr6 hz2 hE hks hvv hB_b2 hB_b3 hX
     refine Gs 1 rfl (G.call rfl tc177 (zU _ _) ?_)
     rintro _ wz3 ⟨rfl, hz3⟩
     obtain ⟨hE, hks, hvv, hB_b2, hB_b3, hX⟩ := Tr6 hz3 hE hks hvv hB_b2 hB_b3 hX
     refine Gs 6 rfl (G.ret1 tr148 rfl ⟨_, rfl, by rw [hve, xM, if_neg c0, if_neg c24, if_neg c6, if_pos c7, hl0]; rfl, hE⟩)
    ·
     refine Gs 6 rfl (G.ite rfl (fun c23 => ?_) (fun c23 => ?_))
     ·
      have h1 := ok.k3 c23
      obtain ⟨k0, hk0, hl0, hi0⟩ := zm 0 (by omega)
      obtain ⟨k1, hk1, hl1, hi1⟩ := zm 1 (by omega)
      obtain ⟨k2, hk2, hl2, hi2⟩ := zm 2 (by omega)
      refine Gs 4 rfl (G.callV rfl tc176 (hkid 0 0 k0 rfl hk0 _ hX) ?_)
      rintro _ wz4 ⟨rfl, hz4⟩
      obtain ⟨hE, hks, hvv, hB_b2, hB_b3, hX⟩ := Tr6 hz4 hE hks hvv hB_b2 hB_b3 hX
      refine Gs 3 rfl (G.ite rfl (fun z => ?_) (fun z => ?_))
      ·
       refine Gs 3 rfl (G.callV rfl tc176 (hkid 1 1 k1 rfl hk1 _ hX) ?_)
       rintro _ wz5 ⟨rfl, hz5⟩
       obtain ⟨hE, hks, hvv, hB_b2, hB_b3, hX⟩ := Tr6 hz5 hE hks hvv hB_b2 hB_b3 hX
       refine Gs 7 rfl (G.ret1 tr148 rfl ⟨_, rfl, by rw [hve, xM, if_neg c0, if_neg c24, if_neg c6, if_neg c7, if_pos c23, hl0, if_pos z, hl1], hE⟩)
      ·
       refine Gs 5 rfl (G.callV rfl tc176 (hkid 2 2 k2 rfl hk2 _ hX) ?_)
       rintro _ wz6 ⟨rfl, hz6⟩
       obtain ⟨hE, hks, hvv, hB_b2, hB_b3, hX⟩ := Tr6 hz6 hE hks hvv hB_b2 hB_b3 hX
       refine Gs 6 rfl (G.ret1 tr148 rfl ⟨_, rfl, by rw [hve, xM, if_neg c0, if_neg c24, if_neg c6, if_neg c7, if_pos c23, hl0, if_neg z, hl2], hE⟩)
     ·
      refine Gs 6 rfl (G.ite rfl (fun c25 => ?_) (fun c25 => ?_))
      ·
       have h1 := ok.k25 c25
       obtain ⟨k0, hk0, hl0, hi0⟩ := zm 0 (by omega)
       have hcl := xK (xj vals k0) (show (0 : Int) <= (t.kids.length : Int) - 2 by omega)
       obtain ⟨kj, hkj, hlj, hij⟩ := zm (1 + yV (xj vals k0) 0 ((t.kids.length : Int) - 2)).toNat (by omega)
       refine Gs 1 rfl (Dw (fun q => Ext w_b3 q) [] (fun wd7 hD _ => ?_))
       refine Ds [0, 1, 3] (by kernel_rfl) rfl (WD.take 4 rfl (by kernel_rfl) rfl rfl rfl hD (fun w1 hw1 => R.load tg130 rfl ((hw1.blk hB_b3 (fun h => h)).cells 2 _ rfl)) (Da [5, 6] (by kernel_rfl) rfl (by omega) (WD.call 2 rfl (by kernel_rfl) rfl rfl rfl (F.callV (vs := [_]) tc176 rfl rfl) (hkid 0 0 k0 rfl hk0 _ (hX.ext hD)) ?_)))
       rintro _ wz8 ⟨rfl, hz8⟩
       replace hD := hD.ext hz8
       refine ⟨fun _ => hD, ?_⟩
       refine WD.call 7 rfl (by kernel_rfl) rfl rfl rfl (F.call (vs := [_, _, _]) Tryz.call147 rfl) (qu _ _ _ _ (by omega)) ?_
       rintro _ wz9 ⟨rfl, hz9⟩
       replace hD := hD.ext hz9
       refine ⟨fun _ => hD, ?_⟩
       refine Da [8] (by kernel_rfl) rfl (by omega) (WD.call 9 rfl (by kernel_rfl) rfl rfl rfl (F.callV (vs := [_]) tc176 rfl rfl) (hkid _ _ kj (by omega) hkj _ (hX.ext hD)) ?_)
       rintro _ wz10 ⟨rfl, hz10⟩
       replace hD := hD.ext hz10
       refine ⟨fun _ => hD, ?_⟩
       refine Ds [10] (by kernel_rfl) rfl (G.done (by kernel_rfl) ?_ _)
       obtain ⟨hE, hks, hvv, hB_b2, hB_b3, hX⟩ := Tr6 hD hE hks hvv hB_b2 hB_b3 hX
       refine Gs 4 rfl (G.ret1 tr148 rfl ⟨_, rfl, by rw [hve, xM, if_neg c0, if_neg c24, if_neg c6, if_neg c7, if_neg c23, if_pos c25, hl0, zbA, hlj], hE⟩)
      ·
       have h1 := ok.k2 (by omega)
       obtain ⟨k0, hk0, hl0, hi0⟩ := zm 0 (by omega)
       obtain ⟨k1, hk1, hl1, hi1⟩ := zm 1 (by omega)
       refine Gs 4 rfl (Dw (fun q => Ext w_b3 q) [] (fun wd11 hD _ => ?_))
       refine Ds [0] (by kernel_rfl) rfl (WD.take 1 rfl (by kernel_rfl) rfl rfl rfl hD (fun w1 hw1 => R.load tg129 rfl ((hw1.blk hB_b3 (fun h => h)).cells 0 _ rfl)) (Ds [2, 4] (by kernel_rfl) rfl (WD.call 3 rfl (by kernel_rfl) rfl rfl rfl (F.callV (vs := [_]) tc176 rfl rfl) (hkid 0 0 k0 rfl hk0 _ (hX.ext hD)) ?_)))
       rintro _ wz12 ⟨rfl, hz12⟩
       replace hD := hD.ext hz12
       refine ⟨fun _ => hD, ?_⟩
       refine WD.call 5 rfl (by kernel_rfl) rfl rfl rfl (F.callV (vs := [_]) tc176 rfl rfl) (hkid 1 1 k1 rfl hk1 _ (hX.ext hD)) ?_
       rintro _ wz13 ⟨rfl, hz13⟩
       replace hD := hD.ext hz13
       refine ⟨fun _ => hD, ?_⟩
       refine WD.call 6 rfl (by kernel_rfl) rfl rfl rfl (F.call (vs := [_, _, _]) Tryz.call178 rfl) (zbD _ _ _ _ hi0 hi1) ?_
       rintro _ wz14 ⟨rfl, hz14⟩
       replace hD := hD.ext hz14
       refine ⟨fun _ => hD, ?_⟩
       refine Ds [7] (by kernel_rfl) rfl (G.done (by kernel_rfl) ?_ _)
       obtain ⟨hE, hks, hvv, hB_b2, hB_b3, hX⟩ := Tr6 hD hE hks hvv hB_b2 hB_b3 hX
       refine Gs 2 rfl (G.ret1 tr148 rfl ⟨_, rfl, by rw [hve, xM, if_neg c0, if_neg c24, if_neg c6, if_neg c7, if_neg c23, if_neg c25, hl0, hl1], hE⟩)
def ya (time : Int) (s : Int × Bool) (b : Int) : Int × Bool := if time <= b /\ (s.2 = false \/ b < s.1) then (b, true) else s
def xk (bounds : List Int) (time : Int) : Int := (bounds.foldl (ya time) (time, false)).1
theorem zb1 {α β : Type} (f : β -> α -> β) (b : β) {l : List α} {i : Nat} {x : α} (h : l[i]? = some x) : (l.take (i + 1)).foldl f b = f ((l.take i).foldl f b) x := by rw [zg h, List.foldl_append]; rfl
theorem zaR (l : List Int) (time : Int) (v : Value) (D : Nat -> Prop) (w : World) (hl : SlR 1 zv D w v l) : Calls Tryz.prog 151 #[v, .int .i64 time] w (Ret fun r w' => r = .int .i64 (xk l time) /\ Ext w w') := by
 have hmx := hl.max
 obtain ⟨al, cl, rfl⟩ := hl.form
 refine G.in2 Tryz.func151 rfl Tryz.ntmps151 rfl (Gs 21 rfl (G.loop (σ := Nat × Int × Bool) (fun ⟨i, b, fd⟩ => [(1, .int .i64 time), (5, .int .i64 b), (6, .bool fd), (10, .slice al l.length cl), (11, .int .i64 l.length), (12, .int .i64 i)]) (fun ⟨i, b, fd⟩ => fun w' => i <= l.length /\ (b, fd) = (l.take i).foldl (ya time) (time, false) /\ Ext w w') (fun ⟨i, b, fd⟩ => l.length - i) ((0, time, false)) (Sub.of rfl) (⟨Nat.zero_le _, rfl, Keep.refl _ _⟩) ?_))
 rintro ⟨i, b, fd⟩ w1 ⟨hi, hs, hL1⟩
 show G _ _ _ _ _ [(1, .int .i64 time), (5, .int .i64 b), (6, .bool fd), (10, .slice al l.length cl), (11, .int .i64 l.length), (12, .int .i64 i)] _
 replace hl := Tr1 hL1 hl
 refine Gs 6 rfl (G.ite rfl (fun hlt => ?_) (fun hge => ?_))
 ·
  obtain ⟨x, he_x⟩ : ∃ x, l[i]? = some x := ⟨_, List.getElem?_eq_getElem (by omega)⟩
  obtain ⟨bx, ox, cx, hax, _, hcx, rfl⟩ := hl.at he_x
  have hst := zb1 (ya time) (time, false) he_x
  rw [<- hs, show ya time (b, fd) x = if time <= x /\ (fd = false \/ x < b) then (x, true) else (b, fd) from rfl] at hst
  refine Gs 6 rfl (G.ops1 rfl rfl (R.indexS tR31 ts3 rfl rfl hax (by omega)) (G.ld rfl tg3 (hcx 0 _ rfl) (Gs 9 rfl (G.sp 19 rfl (fun h1 => ?_) (fun h1 => ?_)))))
  ·
   refine Gs 1 rfl (G.ops1 rfl rfl (R.notU rfl (by first | exact za | rfl)) (Gs 1 rfl (G.sb 22 rfl (fun h2 => ?_) (fun h2 => ?_))))
   ·
    have h2' : fd = false := by simpa using h2
    refine Ga 19 rfl (by omega) (G.back ((i + 1, x, true)) (Sub.cons rfl (Sub.cons rfl (Sub.cons (by first | rfl | (show some (Value.bool true) = some (Value.bool _); simp [*])) (Sub.of rfl)))) (⟨by omega, by rw [hst, if_pos ⟨h1, .inl h2'⟩], hL1⟩) (by first | omega | (dsimp only; omega)))
   ·
    have h2' : fd = true := by simpa using h2
    refine Gs 7 rfl (G.ite rfl (fun h3 => ?_) (fun h3 => ?_))
    . refine Ga 11 rfl (by omega) (G.back ((i + 1, x, true)) (Sub.cons rfl (Sub.cons rfl (Sub.cons (by first | rfl | (show some (Value.bool true) = some (Value.bool _); simp [*])) (Sub.of rfl)))) (⟨by omega, by rw [hst, if_pos ⟨h1, .inr h3⟩], hL1⟩) (by first | omega | (dsimp only; omega)))
    . refine Ga 7 rfl (by omega) (G.back ((i + 1, b, fd)) (Sub.of rfl) (⟨by omega, by rw [hst, if_neg (fun h => h.2.elim (fun h4 => by rw [h2'] at h4; cases h4) h3)], hL1⟩) (by first | omega | (dsimp only; omega)))
  . refine Ga 18 rfl (by omega) (G.back ((i + 1, b, fd)) (Sub.of rfl) (⟨by omega, by rw [hst, if_neg (fun h => h1 h.1)], hL1⟩) (by first | omega | (dsimp only; omega)))
 ·
  have : i = l.length := by omega
  subst this
  rw [List.take_length] at hs
  refine Gs 12 rfl (G.ret1 Tryz.results151 rfl ⟨_, rfl, by rw [xk, <- hs], hL1⟩)
theorem zbE (l : List Int) (time : Int) (v : Value) (D : Nat -> Prop) (w : World) (hl : SlR 1 zv D w v l) : Calls Tryz.prog 172 #[v, .int .i64 time] w (Ret fun r w' => r = .int .i64 (xk l time) /\ Ext w w') := by
 have hmx := hl.max
 obtain ⟨al, cl, rfl⟩ := hl.form
 refine G.in2 Tryz.func172 rfl Tryz.ntmps172 rfl (Gs 19 rfl (G.loop (σ := Nat × Int × Bool) (fun ⟨i, b, fd⟩ => [(0, .slice al l.length cl), (1, .int .i64 time), (5, .int .i64 b), (6, .bool fd), (7, .int .i64 i)]) (fun ⟨i, b, fd⟩ => fun w' => i <= l.length /\ (b, fd) = (l.take i).foldl (ya time) (time, false) /\ Ext w w') (fun ⟨i, b, fd⟩ => l.length - i) ((0, time, false)) (Sub.of rfl) (⟨Nat.zero_le _, rfl, Keep.refl _ _⟩) ?_))
 rintro ⟨i, b, fd⟩ w1 ⟨hi, hs, hL1⟩
 show G _ _ _ _ _ [(0, .slice al l.length cl), (1, .int .i64 time), (5, .int .i64 b), (6, .bool fd), (7, .int .i64 i)] _
 replace hl := Tr1 hL1 hl
 refine Gs 9 rfl (G.ite rfl (fun hlt => ?_) (fun hge => ?_))
 ·
  obtain ⟨x, he_x⟩ : ∃ x, l[i]? = some x := ⟨_, List.getElem?_eq_getElem (by omega)⟩
  obtain ⟨bx, ox, cx, hax, _, hcx, rfl⟩ := hl.at he_x
  have hst := zb1 (ya time) (time, false) he_x
  rw [<- hs, show ya time (b, fd) x = if time <= x /\ (fd = false \/ x < b) then (x, true) else (b, fd) from rfl] at hst
  refine Gs 8 rfl (G.ops1 rfl rfl (R.indexS tR31 ts3 rfl rfl hax (by omega)) (G.ld rfl tg3 (hcx 0 _ rfl) (Gs 3 rfl (G.sp 21 rfl (fun h1 => ?_) (fun h1 => ?_)))))
  ·
   refine Gs 1 rfl (G.ops1 rfl rfl (R.notU rfl (by first | exact za | rfl)) (Gs 1 rfl (G.sb 24 rfl (fun h2 => ?_) (fun h2 => ?_))))
   ·
    have h2' : fd = false := by simpa using h2
    refine Gs 14 rfl (G.ops1 rfl rfl (R.indexS tR31 ts3 rfl rfl hax (by omega)) (G.ld rfl tg3 (hcx 0 _ rfl) (Ga 10 rfl (by omega) (G.back ((i + 1, x, true)) (Sub.cons rfl (Sub.cons rfl (Sub.cons rfl (Sub.cons (by first | rfl | (show some (Value.bool true) = some (Value.bool _); simp [*])) (Sub.of rfl))))) (⟨by omega, by rw [hst, if_pos ⟨h1, .inl h2'⟩], hL1⟩) (by first | omega | (dsimp only; omega))))))
   ·
    have h2' : fd = true := by simpa using h2
    refine Gs 2 rfl (G.ops1 rfl rfl (R.indexS tR31 ts3 rfl rfl hax (by omega)) (G.ld rfl tg3 (hcx 0 _ rfl) (Gs 6 rfl (G.ite rfl (fun h3 => ?_) (fun h3 => ?_)))))
    . refine Gs 3 rfl (G.ops1 rfl rfl (R.indexS tR31 ts3 rfl rfl hax (by omega)) (G.ld rfl tg3 (hcx 0 _ rfl) (Ga 10 rfl (by omega) (G.back ((i + 1, x, true)) (Sub.cons rfl (Sub.cons rfl (Sub.cons rfl (Sub.cons (by first | rfl | (show some (Value.bool true) = some (Value.bool _); simp [*])) (Sub.of rfl))))) (⟨by omega, by rw [hst, if_pos ⟨h1, .inr h3⟩], hL1⟩) (by first | omega | (dsimp only; omega))))))
    . refine Ga 8 rfl (by omega) (G.back ((i + 1, b, fd)) (Sub.of rfl) (⟨by omega, by rw [hst, if_neg (fun h => h.2.elim (fun h4 => by rw [h2'] at h4; cases h4) h3)], hL1⟩) (by first | omega | (dsimp only; omega)))
  . refine Ga 22 rfl (by omega) (G.back ((i + 1, b, fd)) (Sub.of rfl) (⟨by omega, by rw [hst, if_neg (fun h => h1 h.1)], hL1⟩) (by first | omega | (dsimp only; omega)))
 ·
  have : i = l.length := by omega
  subst this
  rw [List.take_length] at hs
  refine Gs 12 rfl (G.ret1 Tryz.results172 rfl ⟨_, rfl, by rw [xk, <- hs], hL1⟩)
def zhu (vals : List Int) (k : Tm) : Prop := ∀ (cs : List Value) (D Dv : Nat -> Prop) (w : World) (vv : Value), SlR 1 zv Dv w vv vals -> RTm D w k cs -> Calls Tryz.prog 171 #[vv, .agg cs.toArray] w (Ret fun r w' => r = .int .i64 (xj vals k) /\ Ext w w')
theorem xC {vs : List Vr} {inp : Bool} (hv : ∀ v ∈ vs, yf (v.low, v.high)) {vals : List Int} (hV : InV vs vals) (t : Tm) : zz vs inp t = true -> (rng vs t).isSome = true -> zhu vals t := by
 induction t using Tm.ind with
 | h t ih =>
 intro hf hr cs D Dv w vv hvv ht
 obtain ⟨ok, hkf⟩ := zjc hv hV hf hr
 have ihk : ∀ k ∈ t.kids, zhu vals k := fun k hk => ih k hk (hkf k hk).1 (hkf k hk).2
 obtain ⟨kv, rfl, hks⟩ := ht.get
 obtain ⟨a3, c3, rfl⟩ := hks.form
 obtain ⟨av, cv, rfl⟩ := hvv.form
 have hve := zdt vals t
 have hops := ok.ops
 have hE := Keep.refl (fun _ => False) w
 refine G.in2 Tryz.func171 rfl Tryz.ntmps171 rfl (Gs 2 rfl (G.mem rfl rfl (M.box rfl rfl) ?_))
 rintro _ w_b3 ⟨b3, rfl, hg_b3, hs_b3, hB_b3, hk_b3⟩
 have hge_b3 : _ <= b3 := Nat.le_trans hE.size (Nat.le_of_eq hg_b3.symm)
 obtain ⟨hE, hks, hvv⟩ := Tr3 hk_b3 hE hks hvv
 refine Gs 7 rfl (G.ld rfl tg129 (hB_b3.cells 0 _ rfl) (Gs 9 rfl ?_))
 have zm : ∀ i : Nat, i < t.kids.length -> ∃ k, t.kids[i]? = some k /\ lki (zgs vals t.kids) i = xj vals k /\ zct (xj vals k) /\ ∃ b o c v, a3 = some ⟨b, o, none⟩ /\ Cells w_b3 b (o + i * 3) c /\ c = [.int .i64 k.op, .int .i64 k.n, v] /\ SlR 3 RTm D w_b3 v k.kids := fun i hi => by
  obtain ⟨k, hk⟩ : ∃ k, t.kids[i]? = some k := ⟨_, List.getElem?_eq_getElem hi⟩
  obtain ⟨b, o, c, h1, _, h2, h3⟩ := hks.at hk
  obtain ⟨v, h4, h5⟩ := h3.get
  exact ⟨k, hk, zbB hk, ok.kid k (List.mem_of_getElem? hk), b, o, c, v, h1, h2, h4, h5⟩
 have hX := Keep.refl (fun _ => False) w_b3
 refine G.ite rfl (fun c0 => ?_) (fun c0 => ?_)
 . refine Gs 3 rfl (G.ld rfl tg3 (hB_b3.cells 1 _ rfl) (Gs 6 rfl (G.ret1 tr171 rfl ⟨_, rfl, by rw [hve, xM, if_pos c0], hE⟩)))
 ·
  refine Gs 6 rfl (G.ite rfl (fun c24 => ?_) (fun c24 => ?_))
  ·
   have hn := ok.var c24
   have hln := hV.len
   obtain ⟨bx, ox, cx, hax, _, hcx, rfl⟩ := hvv.at (zfv (l := vals) (i := t.n.toNat) (by omega))
   refine Gs 4 rfl (G.ld rfl tg3 (hB_b3.cells 1 _ rfl) (G.ops1 rfl rfl (R.indexS tR31 ts3 rfl rfl hax (by omega)) (G.ld rfl tg3 (hcx 0 _ rfl) (Gs 6 rfl (G.ret1 tr171 rfl ⟨_, rfl, by rw [hve, xM, if_neg c0, if_pos c24], hE⟩)))))
  ·
   refine Gs 6 rfl (G.ite rfl (fun c6 => ?_) (fun c6 => ?_))
   ·
    have h1 := ok.k1 (.inl c6)
    obtain ⟨k0, hk0, hl0, hi0, b0, o0, _, v0, ha0, hc0, rfl, hs0⟩ := zm 0 (by omega)
    refine Gs 4 rfl (G.ld rfl tg130 (hB_b3.cells 2 _ rfl) (G.ops1 rfl rfl (R.indexS tR130 ts132 rfl rfl ha0 (by omega)) (G.ldK rfl tg132 ts132 (hX.cells hc0 (fun h => h)) rfl (G.call rfl tc171 (ihk k0 (List.mem_of_getElem? hk0) _ D Dv _ _ hvv (RTm.put (hs0.ext zk hX))) ?_))))
    rintro _ wz1 ⟨rfl, hz1⟩
    obtain ⟨hE, hks, hvv, hB_b3, hX⟩ := Tr5 hz1 hE hks hvv hB_b3 hX
    refine Ga 7 rfl (by omega) (G.ret1 tr171 rfl ⟨_, rfl, by rw [hve, xM, if_neg c0, if_neg c24, if_pos c6, hl0], hE⟩)
   ·
    refine Gs 6 rfl (G.ite rfl (fun c7 => ?_) (fun c7 => ?_))
    ·
     have h1 := ok.k1 (.inr c7)
     obtain ⟨k0, hk0, hl0, hi0, b0, o0, _, v0, ha0, hc0, rfl, hs0⟩ := zm 0 (by omega)
     refine Gs 4 rfl (G.ld rfl tg130 (hB_b3.cells 2 _ rfl) (G.ops1 rfl rfl (R.indexS tR130 ts132 rfl rfl ha0 (by omega)) (G.ldK rfl tg132 ts132 (hX.cells hc0 (fun h => h)) rfl (G.call rfl tc171 (ihk k0 (List.mem_of_getElem? hk0) _ D Dv _ _ hvv (RTm.put (hs0.ext zk hX))) ?_))))
     rintro _ wz2 ⟨rfl, hz2⟩
     obtain ⟨hE, hks, hvv, hB_b3, hX⟩ := Tr5 hz2 hE hks hvv hB_b3 hX
     refine Gs 1 rfl (G.call rfl tc101 (zZ _ _) ?_)
     rintro _ wz3 ⟨rfl, hz3⟩
     obtain ⟨hE, hks, hvv, hB_b3, hX⟩ := Tr5 hz3 hE hks hvv hB_b3 hX
     refine Gs 6 rfl (G.ret1 tr171 rfl ⟨_, rfl, by rw [hve, xM, if_neg c0, if_neg c24, if_neg c6, if_pos c7, hl0]; rfl, hE⟩)
    ·
     refine Gs 6 rfl (G.ite rfl (fun c23 => ?_) (fun c23 => ?_))
     ·
      have h1 := ok.k3 c23
      obtain ⟨k0, hk0, hl0, hi0, b0, o0, _, v0, ha0, hc0, rfl, hs0⟩ := zm 0 (by omega)
      obtain ⟨k1, hk1, hl1, hi1, b1, o1, _, v1, ha1, hc1, rfl, hs1⟩ := zm 1 (by omega)
      obtain ⟨k2, hk2, hl2, hi2, b2, o2, _, v2, ha2, hc2, rfl, hs2⟩ := zm 2 (by omega)
      refine Gs 5 rfl (G.ld rfl tg130 (hB_b3.cells 2 _ rfl) (G.ops1 rfl rfl (R.indexS tR130 ts132 rfl rfl ha0 (by omega)) (G.ldK rfl tg132 ts132 (hX.cells hc0 (fun h => h)) rfl (G.call rfl tc171 (ihk k0 (List.mem_of_getElem? hk0) _ D Dv _ _ hvv (RTm.put (hs0.ext zk hX))) ?_))))
      rintro _ wz4 ⟨rfl, hz4⟩
      obtain ⟨hE, hks, hvv, hB_b3, hX⟩ := Tr5 hz4 hE hks hvv hB_b3 hX
      refine Gs 3 rfl (G.ite rfl (fun z => ?_) (fun z => ?_))
      ·
       refine Gs 4 rfl (G.ld rfl tg130 (hB_b3.cells 2 _ rfl) (G.ops1 rfl rfl (R.indexS tR130 ts132 rfl rfl ha1 (by omega)) (G.ldK rfl tg132 ts132 (hX.cells hc1 (fun h => h)) rfl (G.call rfl tc171 (ihk k1 (List.mem_of_getElem? hk1) _ D Dv _ _ hvv (RTm.put (hs1.ext zk hX))) ?_))))
       rintro _ wz5 ⟨rfl, hz5⟩
       obtain ⟨hE, hks, hvv, hB_b3, hX⟩ := Tr5 hz5 hE hks hvv hB_b3 hX
       refine Gs 7 rfl (G.ret1 tr171 rfl ⟨_, rfl, by rw [hve, xM, if_neg c0, if_neg c24, if_neg c6, if_neg c7, if_pos c23, hl0, if_pos z, hl1], hE⟩)
      ·
       refine Gs 6 rfl (G.ld rfl tg130 (hB_b3.cells 2 _ rfl) (G.ops1 rfl rfl (R.indexS tR130 ts132 rfl rfl ha2 (by omega)) (G.ldK rfl tg132 ts132 (hX.cells hc2 (fun h => h)) rfl (G.call rfl tc171 (ihk k2 (List.mem_of_getElem? hk2) _ D Dv _ _ hvv (RTm.put (hs2.ext zk hX))) ?_))))
       rintro _ wz6 ⟨rfl, hz6⟩
       obtain ⟨hE, hks, hvv, hB_b3, hX⟩ := Tr5 hz6 hE hks hvv hB_b3 hX
       refine Gs 6 rfl (G.ret1 tr171 rfl ⟨_, rfl, by rw [hve, xM, if_neg c0, if_neg c24, if_neg c6, if_neg c7, if_pos c23, hl0, if_neg z, hl2], hE⟩)
     ·
      refine Gs 6 rfl (G.ite rfl (fun c25 => ?_) (fun c25 => ?_))
      ·
       have h1 := ok.k25 c25
       obtain ⟨k0, hk0, hl0, hi0, b0, o0, _, v0, ha0, hc0, rfl, hs0⟩ := zm 0 (by omega)
       have hcl := xK (xj vals k0) (show (0 : Int) <= (t.kids.length : Int) - 2 by omega)
       obtain ⟨kj, hkj, hlj, hij, bj, oj, _, vj, haj, hcj, rfl, hsj⟩ := zm (1 + yV (xj vals k0) 0 ((t.kids.length : Int) - 2)).toNat (by omega)
       refine Gs 1 rfl (Dw (fun q => Ext w_b3 q) [] (fun wd7 hD _ => ?_))
       refine Ds [0, 1] (by kernel_rfl) rfl (WD.take 2 rfl (by kernel_rfl) rfl rfl rfl hD (fun w1 hw1 => R.load tg130 rfl ((hw1.blk hB_b3 (fun h => h)).cells 2 _ rfl)) (Ds [3, 4] (by kernel_rfl) rfl (WD.take 5 rfl (by kernel_rfl) rfl rfl rfl hD (fun w1 hw1 => R.load tg130 rfl ((hw1.blk hB_b3 (fun h => h)).cells 2 _ rfl)) (WD.takeW 6 rfl (by kernel_rfl) rfl rfl rfl (fun w1 => R.indexS tR130 ts132 rfl rfl ha0 (by omega)) (WD.take 7 rfl (by kernel_rfl) rfl rfl rfl hD (fun w1 hw1 => R.loadK tg132 ts132 rfl (by rfl) ((hX.ext hw1).cells hc0 (fun h => h))) ?_)))))
       refine Ds [9] (by kernel_rfl) rfl (WD.take 10 rfl (by kernel_rfl) rfl rfl rfl hD (fun w1 hw1 => R.load tg130 rfl ((hw1.blk hB_b3 (fun h => h)).cells 2 _ rfl)) (Da [11, 12] (by kernel_rfl) rfl (by omega) (WD.call 8 rfl (by kernel_rfl) rfl rfl rfl (F.call (vs := [_, _]) tc171 rfl) (ihk k0 (List.mem_of_getElem? hk0) _ D Dv _ _ (hvv.ext zb hD) (RTm.put (hs0.ext zk (hX.ext hD)))) ?_)))
       rintro _ wz8 ⟨rfl, hz8⟩
       replace hD := hD.ext hz8
       refine ⟨fun _ => hD, ?_⟩
       refine WD.call 13 rfl (by kernel_rfl) rfl rfl rfl (F.call (vs := [_, _, _]) Tryz.call173 rfl) (jW _ _ _ _) ?_
       rintro _ wz9 ⟨rfl, hz9⟩
       replace hD := hD.ext hz9
       refine ⟨fun _ => hD, ?_⟩
       refine Da [14] (by kernel_rfl) rfl (by omega) (WD.takeW 15 rfl (by kernel_rfl) rfl rfl rfl (fun w1 => R.indexS tR130 ts132 rfl rfl haj (by omega)) (WD.take 16 rfl (by kernel_rfl) rfl rfl rfl hD (fun w1 hw1 => R.loadK tg132 ts132 rfl (by rfl) ((hX.ext hw1).cells hcj (fun h => h))) (WD.call 17 rfl (by kernel_rfl) rfl rfl rfl (F.call (vs := [_, _]) tc171 rfl) (ihk kj (List.mem_of_getElem? hkj) _ D Dv _ _ (hvv.ext zb hD) (RTm.put (hsj.ext zk (hX.ext hD)))) ?_)))
       rintro _ wz10 ⟨rfl, hz10⟩
       replace hD := hD.ext hz10
       refine ⟨fun _ => hD, ?_⟩
       refine Ds [18] (by kernel_rfl) rfl (G.done (by kernel_rfl) ?_ _)
       obtain ⟨hE, hks, hvv, hB_b3, hX⟩ := Tr5 hD hE hks hvv hB_b3 hX
       refine Gs 4 rfl (G.ret1 tr171 rfl ⟨_, rfl, by rw [hve, xM, if_neg c0, if_neg c24, if_neg c6, if_neg c7, if_neg c23, if_pos c25, hl0, zbA, hlj], hE⟩)
      ·
       have h1 := ok.k2 (by omega)
       obtain ⟨k0, hk0, hl0, hi0, b0, o0, _, v0, ha0, hc0, rfl, hs0⟩ := zm 0 (by omega)
       obtain ⟨k1, hk1, hl1, hi1, b1, o1, _, v1, ha1, hc1, rfl, hs1⟩ := zm 1 (by omega)
       refine Gs 4 rfl (Dw (fun q => Ext w_b3 q) [] (fun wd11 hD _ => ?_))
       refine Ds [0] (by kernel_rfl) rfl (WD.take 1 rfl (by kernel_rfl) rfl rfl rfl hD (fun w1 hw1 => R.load tg129 rfl ((hw1.blk hB_b3 (fun h => h)).cells 0 _ rfl)) (Ds [2, 3] (by kernel_rfl) rfl (WD.take 4 rfl (by kernel_rfl) rfl rfl rfl hD (fun w1 hw1 => R.load tg130 rfl ((hw1.blk hB_b3 (fun h => h)).cells 2 _ rfl)) (WD.takeW 5 rfl (by kernel_rfl) rfl rfl rfl (fun w1 => R.indexS tR130 ts132 rfl rfl ha0 (by omega)) (WD.take 6 rfl (by kernel_rfl) rfl rfl rfl hD (fun w1 hw1 => R.loadK tg132 ts132 rfl (by rfl) ((hX.ext hw1).cells hc0 (fun h => h))) ?_)))))
       refine Ds [8, 9] (by kernel_rfl) rfl (WD.take 10 rfl (by kernel_rfl) rfl rfl rfl hD (fun w1 hw1 => R.load tg130 rfl ((hw1.blk hB_b3 (fun h => h)).cells 2 _ rfl)) (WD.takeW 11 rfl (by kernel_rfl) rfl rfl rfl (fun w1 => R.indexS tR130 ts132 rfl rfl ha1 (by omega)) (WD.take 12 rfl (by kernel_rfl) rfl rfl rfl hD (fun w1 hw1 => R.loadK tg132 ts132 rfl (by rfl) ((hX.ext hw1).cells hc1 (fun h => h))) (WD.call 7 rfl (by kernel_rfl) rfl rfl rfl (F.call (vs := [_, _]) tc171 rfl) (ihk k0 (List.mem_of_getElem? hk0) _ D Dv _ _ (hvv.ext zb hD) (RTm.put (hs0.ext zk (hX.ext hD)))) ?_))))
       rintro _ wz12 ⟨rfl, hz12⟩
       replace hD := hD.ext hz12
       refine ⟨fun _ => hD, ?_⟩
       refine WD.call 13 rfl (by kernel_rfl) rfl rfl rfl (F.call (vs := [_, _]) tc171 rfl) (ihk k1 (List.mem_of_getElem? hk1) _ D Dv _ _ (hvv.ext zb hD) (RTm.put (hs1.ext zk (hX.ext hD)))) ?_
       rintro _ wz13 ⟨rfl, hz13⟩
       replace hD := hD.ext hz13
       refine ⟨fun _ => hD, ?_⟩
       refine WD.call 14 rfl (by kernel_rfl) rfl rfl rfl (F.call (vs := [_, _, _]) Tryz.call190 rfl) (zcv _ _ _ _ hi0 hi1) ?_
       rintro _ wz14 ⟨rfl, hz14⟩
       replace hD := hD.ext hz14
       refine ⟨fun _ => hD, ?_⟩
       refine Ds [15] (by kernel_rfl) rfl (G.done (by kernel_rfl) ?_ _)
       obtain ⟨hE, hks, hvv, hB_b3, hX⟩ := Tr5 hD hE hks hvv hB_b3 hX
       refine Gs 2 rfl (G.ret1 tr171 rfl ⟨_, rfl, by rw [hve, xM, if_neg c0, if_neg c24, if_neg c6, if_neg c7, if_neg c23, if_neg c25, hl0, hl1], hE⟩)
end Go.Proofs.YtbkhagigkglgoaaGreatDoor
namespace Go.GL
def xu (r : Ins) (k : Int) : List Int := if k = 1 then r.secret else if k = 2 then r.pub else r.random
structure StS where
 vals : List Int
 a : Nat
 b : Nat
 c : Nat
def jG (s : StS) (k : Int) : Nat := if k = 1 then s.a else if k = 2 then s.b else s.c
def je (s : StS) (k : Int) (n : Int) : StS := if k = 1 then ⟨s.vals ++ [n], s.a + 1, s.b, s.c⟩ else if k = 2 then ⟨s.vals ++ [n], s.a, s.b + 1, s.c⟩ else ⟨s.vals ++ [n], s.a, s.b, s.c + 1⟩
def zp (r : Ins) (o : Option StS) (v : Vr) : Option StS := o.bind fun s => if v.kind = 0 then some { s with vals := s.vals ++ [v.init] } else ((xu r v.kind)[jG s v.kind]?).map fun n => je s v.kind n
def jH (vs : List Vr) (r : Ins) : Option StS := vs.foldl (zp r) (some ⟨[], 0, 0, 0⟩)
def inB (p : Vr × Int) : Bool := decide (p.1.low <= p.2) && decide (p.2 <= p.1.high)
def yC (vs : List Vr) (r : Ins) (s : StS) : Int := if s.a ≠ r.secret.length \/ s.b ≠ r.pub.length \/ s.c ≠ r.random.length then 1 else if (vs.zip s.vals).all inB then 0 else 3
def zu (vs : List Vr) (r : Ins) : Int := match jH vs r with
 | none => 1
 | some s => yC vs r s
def yw (vs : List Vr) (r : Ins) : List Int := match jH vs r with
 | none => []
 | some s => s.vals
theorem zeG (r : Ins) (vs : List Vr) : vs.foldl (zp r) none = none := by
 induction vs with
 | nil => rfl
 | cons x t ih => rw [List.foldl_cons]; exact ih
theorem zaB {vs : List Vr} {r : Ins} {i : Nat} (h : (vs.take i).foldl (zp r) (some ⟨[], 0, 0, 0⟩) = none) : jH vs r = none := by
 have := List.take_append_drop i vs
 rw [jH, <- this, List.foldl_append, h, zeG]
theorem jf {vs : List Vr} {r : Ins} {i : Nat} {x : Vr} (h : vs[i]? = some x) {s : StS} (hs : (vs.take i).foldl (zp r) (some ⟨[], 0, 0, 0⟩) = some s) : (vs.take (i + 1)).foldl (zp r) (some ⟨[], 0, 0, 0⟩) = if x.kind = 0 then some { s with vals := s.vals ++ [x.init] } else ((xu r x.kind)[jG s x.kind]?).map fun n => je s x.kind n := by
 rw [zg h, List.foldl_append, hs]; rfl
theorem kh (s : StS) (k n : Int) : (je s k n).vals = s.vals ++ [n] := by
 unfold je
 (repeat' split); all_goals rfl
theorem ki {vs : List Vr} {r : Ins} : ∀ (i : Nat) (s : StS), i <= vs.length -> (vs.take i).foldl (zp r) (some ⟨[], 0, 0, 0⟩) = some s -> s.vals.length = i /\ s.a <= i /\ s.b <= i /\ s.c <= i := by
 intro i
 induction i with
 | zero => intro s _ h; simp at h; subst h; simp
 | succ i ih =>
  intro s hi h
  obtain ⟨x, hx⟩ : ∃ x, vs[i]? = some x := ⟨_, List.getElem?_eq_getElem (by omega)⟩
  cases h1 : (vs.take i).foldl (zp r) (some ⟨[], 0, 0, 0⟩) with
  | none => rw [zg hx, List.foldl_append, h1] at h; cases h
  | some s0 =>
   obtain ⟨e1, e2, e3, e4⟩ := ih s0 (by omega) h1
   rw [jf hx h1] at h
   split at h
   . cases h; simp; omega
   ·
    obtain ⟨n, _, rfl⟩ := Option.map_eq_some_iff.1 h
    unfold je
    (repeat' split); all_goals (simp; omega)
theorem zcw (s : StS) {k k' : Int} (hk : 1 <= k /\ k <= 3) (hk' : 1 <= k' /\ k' <= 3) (n : Int) : jG (je s k n) k' = if k' = k then jG s k' + 1 else jG s k' := by
 have h1 : k = 1 \/ k = 2 \/ k = 3 := by omega
 have h2 : k' = 1 \/ k' = 2 \/ k' = 3 := by omega
 rcases h1 with rfl | rfl | rfl <;> rcases h2 with rfl | rfl | rfl <;> simp [je, jG]
theorem zfz {vs : List Vr} {r : Ins} (hkd : ∀ v ∈ vs, 0 <= v.kind /\ v.kind <= 3) : ∀ (i : Nat) (s : StS), i <= vs.length -> (vs.take i).foldl (zp r) (some ⟨[], 0, 0, 0⟩) = some s -> ∀ k, 1 <= k -> k <= 3 -> jG s k <= (xu r k).length := by
 intro i
 induction i with
 | zero => intro s _ h k _ _; simp at h; subst h; unfold jG; (repeat' split); all_goals simp
 | succ i ih =>
  intro s hi h k hk1 hk3
  obtain ⟨x, hx⟩ : ∃ x, vs[i]? = some x := ⟨_, List.getElem?_eq_getElem (by omega)⟩
  have hkx := hkd x (List.mem_of_getElem? hx)
  cases h1 : (vs.take i).foldl (zp r) (some ⟨[], 0, 0, 0⟩) with
  | none => rw [zg hx, List.foldl_append, h1] at h; cases h
  | some s0 =>
   have e1 := ih s0 (by omega) h1 k hk1 hk3
   rw [jf hx h1] at h
   split at h
   . cases h; exact e1
   ·
    obtain ⟨n, hn, rfl⟩ := Option.map_eq_some_iff.1 h
    have := (List.getElem?_eq_some_iff.1 hn).1
    rw [zcw s0 (k := x.kind) (by omega) ⟨hk1, hk3⟩]
    split
    . rename_i h2; subst h2; omega
    . exact e1
theorem zcx {α : Type} [DecidableEq α] : ∀ {l l' : List α}, l.Nodup -> (∀ x ∈ l, x ∈ l') -> l.length <= l'.length
 | [], _, _, _ => Nat.zero_le _
 | x :: r, l', h, hs => by
  rw [List.nodup_cons] at h
  have h1 := hs x (List.mem_cons_self ..)
  have h2 := zcx (l := r) (l' := l'.erase x) h.2 (fun y hy => by
   refine (List.mem_erase_of_ne ?_).2 (hs y (List.mem_cons_of_mem _ hy))
   rintro rfl; exact h.1 hy)
  rw [List.length_erase_of_mem h1] at h2
  have := List.length_pos_of_mem h1
  simp only [List.length_cons]; omega
theorem RanI.len {w : World} {it m : Nat} {l : List (Int × Value)} {seen : List Int} {cur : Option (Int × Value)} (h : RanI w it m l seen cur) : seen.length <= l.length := by
 obtain ⟨es, c, since, sb, c0, h1, h2, h3, h4, h5, h6, h7, h8, h9, h10, h11, _⟩ := h
 have := zcx (l := seen) (l' := l.map (·.1)) h10 (fun k hk => by
  obtain ⟨v, hv⟩ := h11 k hk
  exact List.mem_map.2 ⟨(k, v), ze8 hv, rfl⟩)
 simpa using this
theorem zgQ {vs : List Vr} {i : Nat} {x : Vr} (hx : vs[i]? = some x) (vals : List Int) (hv : vals.length = i) (n : Int) : ((vs.take (i + 1)).zip (vals ++ [n])).all inB = (((vs.take i).zip vals).all inB && inB (x, n)) := by
 have hi := (List.getElem?_eq_some_iff.1 hx).1
 rw [zg hx, List.zip_append (by rw [List.length_take]; omega), List.all_append]; simp
end Go.GL
namespace Go.Proofs.YtbkhagigkglgoaaGreatDoor
open Go.GL
def RestI (D : Nat -> Prop) (r : Ins) (s : StS) (w : World) (m : Nat) (l : List (Int × Value)) : Prop :=
 MapI w m l /\ (∀ k, 1 <= k -> k <= 3 -> ∃ v, ze7 l k = some v /\ SlR 1 zv D w v ((xu r k).drop (jG s k))) /\ ∀ p ∈ l, 1 <= p.1 /\ p.1 <= 3
theorem RestI.ext {D : Nat -> Prop} {r : Ins} {s : StS} {w w' : World} {m : Nat} {l : List (Int × Value)} (h : RestI D r s w m l) (hk : Ext w w') : RestI D r s w' m l :=
 ⟨h.1.ext hk, fun k h1 h3 => by obtain ⟨v, h4, h5⟩ := h.2.1 k h1 h3; exact ⟨v, h4, h5.ext zb hk⟩, h.2.2⟩
theorem RestI.keep {D : Nat -> Prop} {r : Ins} {s : StS} {w w' : World} {S : Nat -> Prop} {m : Nat} {l : List (Int × Value)} (h : RestI D r s w m l) (hk : Keep S w w') (hm : ¬ S m) (hD : ∀ q, D q -> ¬ S q) : RestI D r s w' m l :=
 ⟨h.1.keep hk hm, fun k h1 h3 => by obtain ⟨v, h4, h5⟩ := h.2.1 k h1 h3; exact ⟨v, h4, h5.keep zb hk (fun q hq _ => hD q hq)⟩, h.2.2⟩
end Go.Proofs.YtbkhagigkglgoaaGreatDoor
namespace Go.GL
structure Sg where
 vals : List Int
 outs : List Int
 time : Int
end Go.GL
namespace Go.Proofs.YtbkhagigkglgoaaGreatDoor
open Go.GL
abbrev ze : Int -> Value := .int .i64
structure WkV where
 (W m : Nat) (v1 v2 v3 sv vv hv ov : Value) (rm : List (Int × Value))
def jg (vs : List Vr) (vals : List Int) (v n : Int) : List Int := match vs[v.toNat]? with
 | some x => vals.set v.toNat (yV n x.low x.high)
 | none => vals
theorem InV.set {vs : List Vr} {vals : List Int} (hg : ∀ v ∈ vs, yf (v.low, v.high)) (h : InV vs vals) (v n : Int) : InV vs (jg vs vals v n) := by
 unfold jg
 cases hx : vs[v.toNat]? with
 | none => exact h
 | some x =>
  have hgx := hg x (List.mem_of_getElem? hx)
  unfold yf at hgx
  have hc := xK n (show x.low <= x.high from hgx.2.1)
  refine ⟨by simp [h.len], fun i y hy => ?_⟩
  simp only [lki, List.getElem?_set]
  by_cases hi : v.toNat = i
  ·
   subst hi
   rw [hx] at hy; cases hy
   have := (List.getElem?_eq_some_iff.1 hx).1
   rw [if_pos rfl, if_pos (by rw [h.len]; exact this)]
   exact hc
  ·
   rw [if_neg hi]
   exact h.at_ i y hy
def xS (f : Fl) (hs : List Int) (s : St) (σ : Sg) : Sg :=
 if s.act = 0 then { σ with vals := jg f.vars σ.vals s.var (xj σ.vals s.term), time := σ.time + s.cost }
 else if s.act = 1 then { σ with outs := σ.outs ++ [xj σ.vals s.term], time := σ.time + s.cost }
 else if s.act = 5 then { σ with vals := jg f.vars σ.vals s.var (lki hs s.n.toNat), time := σ.time + s.cost }
 else if s.act = 6 then { σ with time := xk s.bounds (σ.time + s.cost) }
 else { σ with time := σ.time + s.cost }
structure StepOk (f : Fl) (s : St) : Prop where
 formed : zz f.vars false s.term = true
 ranged : (rng f.vars s.term).isSome = true
 small : s.term.nodes <= 1000000
 cost : 0 <= s.cost /\ s.cost <= 67108864
 var : s.act = 0 \/ s.act = 5 -> 0 <= s.var /\ s.var < f.vars.length
 num : s.act = 5 -> 0 <= s.n /\ s.n < f.hatches.length
structure WkM (w : World) (z z' : WkV) : Prop where
 W : z'.W = z.W
 m : z'.m = z.m
 vv : z'.vv = z.vv
 v1 : z'.v1 = z.v1
 sv : z'.sv = z.sv
 hv : z'.hv = z.hv
 ov : z'.ov.ownBlock = z.ov.ownBlock \/ ∃ g, z'.ov.ownBlock = some g /\ w.heap.size <= g
theorem WkM.refl (w : World) (z : WkV) : WkM w z z := ⟨rfl, rfl, rfl, rfl, rfl, rfl, .inl rfl⟩
def zii (rd : Int -> Int) (k n : Int) : Int -> Int := fun j => if j = k then n else rd j
def zhV (f : Fl) (hs : List Int) (x : Nd) (s : St) (σ : Sg) (rd : Int -> Int) : Int × Sg × (Int -> Int) :=
 if x.kind = 0 then (x.next, σ, rd)
 else if x.kind = 2 then (x.next, xS f hs s σ, rd)
 else if x.kind = 4 then (x.next, σ, zii rd x.at_ 0)
 else if x.kind = 5 /\ rd x.at_ = s.n then (x.other, σ, rd)
 else (if xj σ.vals s.term ≠ 0 then x.next else x.other, { σ with time := σ.time + s.cost }, if x.kind = 5 then zii rd x.at_ (rd x.at_ + 1) else rd)
def RdM (rm : List (Int × Value)) (rd : Int -> Int) : Prop := ∀ k, (ze7 rm k).getD (.int .i64 0) = .int .i64 (rd k)
theorem RdM.upd {rm : List (Int × Value)} {rd : Int -> Int} (h : RdM rm rd) (hn : (rm.map (·.1)).Nodup) (k n : Int) : RdM (zhT rm k (.int .i64 n)) (zii rd k n) := by
 intro j
 rw [zft hn]
 unfold zii
 by_cases e : j = k
 . rw [if_pos e, if_pos e]; rfl
 . rw [if_neg e, if_neg e]; exact h j
def xl (body : Sg -> Sg) (cost : Int) (t : Tm) : Nat -> Sg -> Sg
 | 0, σ => σ
 | k + 1, σ => if xj σ.vals t = 0 then { σ with time := σ.time + cost } else xl body cost t k (body { σ with time := σ.time + cost })
section
variable (f : Fl) (hs : List Int)
mutual
def exS : St -> Sg -> Sg
 | .mk a c v n t th el b, σ =>
  if a = 3 then (if xj σ.vals t ≠ 0 then exL th { σ with time := σ.time + c } else exL el { σ with time := σ.time + c })
  else if a = 4 then xl (fun σ => exL th σ) c t n.toNat σ
  else xS f hs (.mk a c v n t th el b) σ
def exL : List St -> Sg -> Sg
 | [], σ => σ
 | s :: r, σ => exL r (exS s σ)
end
theorem xo (s : St) (σ : Sg) : exS f hs s σ = if s.act = 3 then (if xj σ.vals s.term ≠ 0 then exL f hs s.thn { σ with time := σ.time + s.cost } else exL f hs s.els { σ with time := σ.time + s.cost })
  else if s.act = 4 then xl (exL f hs s.thn) s.cost s.term s.n.toNat σ else xS f hs s σ := by cases s; rw [exS]; rfl
structure Mc where
 at_ : Int
 σ : Sg
 rd : Int -> Int
def noSt : St := .mk 0 0 0 0 (.mk 0 0 []) [] [] []
def zij (g : List Nd) (k : Int) : Nd := g[k.toNat]?.getD ⟨1, -1, -1, -1⟩
def zhW (f : Fl) (k : Int) : St := (jU f.body)[k.toNat]?.getD noSt
def zhX (g : List Nd) (m : Mc) : Mc :=
 ⟨(zhV f hs (zij g m.at_) (zhW f (zij g m.at_).at_) m.σ m.rd).1, (zhV f hs (zij g m.at_) (zhW f (zij g m.at_).at_) m.σ m.rd).2.1, (zhV f hs (zij g m.at_) (zhW f (zij g m.at_).at_) m.σ m.rd).2.2⟩
def zdu (g : List Nd) : Nat -> Mc -> Mc
 | 0, m => m
 | k + 1, m => zdu g k (zhX f hs g m)
theorem zaC (g : List Nd) : ∀ (a b : Nat) (m : Mc), zdu f hs g (a + b) m = zdu f hs g b (zdu f hs g a m)
 | 0, b, m => by rw [Nat.zero_add]; rfl
 | a + 1, b, m => by rw [show a + 1 + b = (a + b) + 1 by omega]; exact zaC g a b (zhX f hs g m)
def Goes (g : List Nd) (lo hi : Int) (k : Nat) (m m' : Mc) : Prop := zdu f hs g k m = m' /\ ∀ j, j < k -> lo <= (zdu f hs g j m).at_ /\ (zdu f hs g j m).at_ < hi
end
section
variable {f : Fl} {hs : List Int} {g : List Nd} {lo hi : Int} {k k' : Nat} {m m' m'' : Mc}
theorem Goes.refl (m : Mc) : Goes f hs g lo hi 0 m m := ⟨rfl, fun _ h => absurd h (Nat.not_lt_zero _)⟩
theorem Goes.trans (h : Goes f hs g lo hi k m m') (h' : Goes f hs g lo hi k' m' m'') : Goes f hs g lo hi (k + k') m m'' := by
 refine ⟨by rw [zaC, h.1, h'.1], fun j hj => ?_⟩
 by_cases hjk : j < k
 . exact h.2 j hjk
 ·
  obtain ⟨i, rfl⟩ : ∃ i, j = k + i := ⟨j - k, by omega⟩
  rw [zaC, h.1]
  exact h'.2 i (by omega)
theorem Goes.one (h : zhX f hs g m = m') (h1 : lo <= m.at_ /\ m.at_ < hi) : Goes f hs g lo hi 1 m m' := by
 refine ⟨h, fun j hj => ?_⟩
 obtain rfl : j = 0 := by omega
 exact h1
end
mutual
def nbS : St -> Nat
 | .mk a _ _ n _ th el _ => if a = 3 then 1 + max (nbL th) (nbL el) else if a = 4 then 2 + n.toNat * (1 + nbL th) else 1
def nbL : List St -> Nat
 | [] => 0
 | s :: r => nbS s + nbL r
end
theorem zcy (s : St) : nbS s = if s.act = 3 then 1 + max (nbL s.thn) (nbL s.els) else if s.act = 4 then 2 + s.n.toNat * (1 + nbL s.thn) else 1 := by cases s; rw [nbS]; rfl
theorem zit {vs : List Vr} {nh : Nat} (l : List St) : ∀ top, zc vs nh l top = 0 -> (nbL l : Int) <= 2 * (bds l).1 := by
 induction l using Sts.ind with
 | h l ih =>
 intro top h
 have hm := xh l top h
 have key : ∀ r : List St, (∀ x ∈ r, x ∈ l) -> (nbL r : Int) <= 2 * (bds r).1 := by
  intro r
  induction r with
  | nil => intro _; simp [nbL, bds]
  | cons x r ihr =>
   intro hx
   have h1 := ihr (fun y hy => hx y (List.mem_cons_of_mem _ hy))
   obtain ⟨last, h2⟩ := hm x (hx x (List.mem_cons_self ..))
   obtain ⟨h3, _, _, h4, h5⟩ := xL h2
   have h6 := (ih x (hx x (List.mem_cons_self ..))).1 _ h4
   have h7 := (ih x (hx x (List.mem_cons_self ..))).2 _ h5
   have b4 := yL x.thn _ h4
   have b5 := yL x.els _ h5
   rw [nbL, bds]
   have : (nbS x : Int) <= 2 * (yv x).1 := by
    rw [zcy, yc]
    by_cases a4 : x.act = 4
    ·
     rw [if_neg (show ¬ x.act = 3 by omega), if_pos a4, if_pos a4]
     obtain ⟨n, hn⟩ := Int.eq_ofNat_of_zero_le (h3.rep a4).1
     rw [hn, Int.toNat_natCast]
     have : ((n * (1 + nbL x.thn) : Nat) : Int) <= (n : Int) * (2 * (1 + (bds x.thn).1)) := by
      rw [Int.natCast_mul]
      exact Int.mul_le_mul_of_nonneg_left (by omega) (by omega)
     have e : (n : Int) * (2 * (1 + (bds x.thn).1)) = 2 * ((n : Int) * (1 + (bds x.thn).1)) := by rw [Int.mul_left_comm]
     simp only
     omega
    ·
     rw [if_neg a4, if_neg a4]
     by_cases a3 : x.act = 3
     . rw [if_pos a3]; simp only; omega
     . rw [if_neg a3]; simp only; omega
   simp only
   omega
 exact key l (fun x h => h)
def CtxG (g : List Nd) (n : Nat) (ns : List Nd) : Prop := ∀ (i : Nat) x, ns[i]? = some x -> g[n + i]? = some x
def CtxP (P : List St) (a : Nat) (ps : List St) : Prop := ∀ (i : Nat) x, ps[i]? = some x -> P[a + i]? = some x
theorem CtxG.left {g : List Nd} {n : Nat} {a b : List Nd} (h : CtxG g n (a ++ b)) : CtxG g n a := fun i x hx => h i x (by rw [List.getElem?_append_left (List.getElem?_eq_some_iff.1 hx).1]; exact hx)
theorem CtxG.right {g : List Nd} {n m : Nat} {a b : List Nd} (h : CtxG g n (a ++ b)) (hm : m = n + a.length) : CtxG g m b := fun i x hx => by
 rw [hm, Nat.add_assoc]; exact h _ x (by rw [List.getElem?_append_right (by omega)]; simpa using hx)
theorem CtxG.head {g : List Nd} {n : Nat} {x : Nd} {b : List Nd} (h : CtxG g n (x :: b)) : g[n]? = some x := h 0 x rfl
theorem CtxP.left {P : List St} {n : Nat} {a b : List St} (h : CtxP P n (a ++ b)) : CtxP P n a := fun i x hx => h i x (by rw [List.getElem?_append_left (List.getElem?_eq_some_iff.1 hx).1]; exact hx)
theorem CtxP.right {P : List St} {n m : Nat} {a b : List St} (h : CtxP P n (a ++ b)) (hm : m = n + a.length) : CtxP P m b := fun i x hx => by
 rw [hm, Nat.add_assoc]; exact h _ x (by rw [List.getElem?_append_right (by omega)]; simpa using hx)
theorem CtxP.head {P : List St} {n : Nat} {x : St} {b : List St} (h : CtxP P n (x :: b)) : P[n]? = some x := h 0 x rfl
def SameR (a n : Nat) (rd rd' : Int -> Int) : Prop := ∀ k : Int, ¬ ((a : Int) <= k /\ k < (a + n : Nat)) -> rd' k = rd k
theorem SameR.refl (a n : Nat) (rd : Int -> Int) : SameR a n rd rd := fun _ _ => rfl
theorem SameR.trans {a n : Nat} {r1 r2 r3 : Int -> Int} (h : SameR a n r1 r2) (h' : SameR a n r2 r3) : SameR a n r1 r3 := fun k hk => (h' k hk).trans (h k hk)
theorem SameR.upd {a n : Nat} {rd : Int -> Int} {k v : Int} (h : (a : Int) <= k /\ k < (a + n : Nat)) : SameR a n rd (zii rd k v) := fun j hj => by
 unfold zii; rw [if_neg (fun e => hj (by rw [e]; exact h))]
open Go.GL
theorem zfA {vs : List Vr} {nh : Nat} (l : List St) : ∀ top, zc vs nh l top = 0 -> ∀ s ∈ jU l, ∃ last, zF vs nh s last = 0 := by
 induction l using Sts.ind with
 | h l ih =>
 intro top h
 have hm := xh l top h
 have key : ∀ r : List St, (∀ x ∈ r, x ∈ l) -> ∀ s ∈ jU r, ∃ last, zF vs nh s last = 0 := by
  intro r
  induction r with
  | nil => intro _ s hs; simp [jU] at hs
  | cons x r ihr =>
   intro hx s hs
   obtain ⟨last, h2⟩ := hm x (hx x (List.mem_cons_self ..))
   obtain ⟨_, _, _, h4, h5⟩ := xL h2
   rw [jU, x.pre_eq, List.mem_append, List.mem_cons, List.mem_append] at hs
   rcases hs with (rfl | hs | hs) | hs
   . exact ⟨last, h2⟩
   . exact (ih x (hx x (List.mem_cons_self ..))).1 _ h4 s hs
   . exact (ih x (hx x (List.mem_cons_self ..))).2 _ h5 s hs
   . exact ihr (fun y hy => hx y (List.mem_cons_of_mem _ hy)) s hs
 exact key l (fun x h => h)
theorem zfB (l : List St) : ∀ s ∈ jU l, s.nodes <= zl l := by
 induction l using Sts.ind with
 | h l ih =>
 have key : ∀ r : List St, (∀ x ∈ r, x ∈ l) -> ∀ s ∈ jU r, s.nodes <= zl r := by
  intro r
  induction r with
  | nil => intro _ s hs; simp [jU] at hs
  | cons x r ihr =>
   intro hx s hs
   have h1 := (ih x (hx x (List.mem_cons_self ..))).1
   have h2 := (ih x (hx x (List.mem_cons_self ..))).2
   have h3 := x.nodes_eq
   rw [jU, x.pre_eq, List.mem_append, List.mem_cons, List.mem_append] at hs
   rw [zl]
   rcases hs with (rfl | hs | hs) | hs
   . omega
   . have := h1 s hs; omega
   . have := h2 s hs; omega
   . have := ihr (fun y hy => hx y (List.mem_cons_of_mem _ hy)) s hs; omega
 exact key l (fun x h => h)
theorem zfC {f : Fl} {s : St} {last : Bool} (h : zF f.vars f.hatches.length s last = 0) (hn : s.nodes <= 100000) : StepOk f s := by
 obtain ⟨h1, h2, h3, _, _⟩ := xL h
 have hse := s.nodes_eq
 unfold zJ at h2
 split at h2
 ·
  rename_i hf
  split at h2
  ·
   rename_i hr
   refine ⟨hf, hr, by omega, h1.cost, fun ha => ?_, fun ha => ?_⟩
   ·
    unfold zh at h3
    rcases ha with ha | ha
    ·
     simp [ha, yQ] at h3
     omega
    ·
     simp [ha, yQ] at h3
     omega
   ·
    unfold zh at h3
    simp [ha, yQ] at h3
    omega
  . cases h2
 . cases h2
def jI (s : St) : Prop := s.act = 6 -> ∀ b ∈ s.bounds, b <= 67108864
theorem zfD {l : List Int} (h : yP l = true) : ∀ (d i : Nat) x y, l[i]? = some x -> l[i + d]? = some y -> x <= y := by
 intro d
 induction d with
 | zero => intro i x y hx hy; rw [Nat.add_zero, hx] at hy; cases hy; exact Int.le_refl _
 | succ d ih =>
  intro i x y hx hy
  have hlt := (List.getElem?_eq_some_iff.1 hy).1
  obtain ⟨z, hz⟩ : ∃ z, l[i + d]? = some z := ⟨_, List.getElem?_eq_getElem (by omega)⟩
  have h1 := ih i x z hx hz
  have h2 := (yX l).1 h (i + d) z y hz hy
  omega
theorem zdv {vs : List Vr} {nh : Nat} {s : St} {last : Bool} (h : zF vs nh s last = 0) : jI s := by
 intro a6 b hb
 obtain ⟨h1, h2, h3, _, _⟩ := xL h
 have h4 : zV s = true := by
  rw [zD] at h
  split at h
  . cases h
  split at h
  . cases h
  . rename_i h5; simpa using h5
 unfold zh at h3
 simp [a6, yn] at h3
 unfold zV at h4
 simp [a6] at h4
 have hr := h3.2.2
 obtain ⟨i, hi⟩ := List.mem_iff_getElem?.1 hb
 have hlt := (List.getElem?_eq_some_iff.1 hi).1
 obtain ⟨y, hy⟩ : ∃ y, s.bounds[s.bounds.length - 1]? = some y := ⟨_, List.getElem?_eq_getElem (by omega)⟩
 have h5 := zfD hr (s.bounds.length - 1 - i) i b y hi (by rw [show i + (s.bounds.length - 1 - i) = s.bounds.length - 1 by omega]; exact hy)
 rw [hy] at h4
 simp at h4
 omega
theorem zcz (l : List Int) (t : Int) : xk l t = t \/ (xk l t ∈ l /\ t <= xk l t) := by
 have key : ∀ (l : List Int) (s : Int × Bool), (l.foldl (ya t) s).1 = s.1 \/ ((l.foldl (ya t) s).1 ∈ l /\ t <= (l.foldl (ya t) s).1) := by
  intro l
  induction l with
  | nil => intro s; exact .inl rfl
  | cons b r ih =>
   intro s
   rw [List.foldl_cons]
   rcases ih (ya t s b) with h | h
   ·
    rw [h]
    unfold ya
    split
    . rename_i h1; exact .inr ⟨List.mem_cons_self .., h1.1⟩
    . exact .inl rfl
   . exact .inr ⟨List.mem_cons_of_mem _ h.1, h.2⟩
 exact key l (t, false)
structure Valid (f : Fl) : Prop where
 ok : zQ f = 0
 size : zl f.body + zH f.hatches <= 1024
 bulk : zy f.body <= 1000000
section
variable {f : Fl} (V : Valid f)
include V
theorem Valid.plain : qT f.body = true := zdr V.ok
theorem Valid.good : ∀ v ∈ f.vars, yf (v.low, v.high) := zaA (yh V.ok).2.1
theorem Valid.kinds : ∀ v ∈ f.vars, 0 <= v.kind /\ v.kind <= 3 := by
 have h := (yh V.ok).2.1
 have h1 : ∀ j, j < f.vars.length -> jB f.vars j = 0 := by
  unfold zx at h
  split at h
  . rename_i h2; exact absurd h h2
  ·
   rename_i h2
   intro j hj
   exact xg f.vars.length 0 (by simpa using h2) j (Nat.zero_le _) (by omega)
 exact fun v hv => (xJ h1 v hv).2
theorem Valid.lens : f.vars.length <= 64 /\ f.hatches.length <= 8 := by
 have h := (yh V.ok).1
 unfold xn at h
 simp at h
 omega
theorem Valid.ssize : ssize f.body <= 1024 := zds V.size
theorem Valid.step : ∀ s ∈ jU f.body, StepOk f s /\ jI s /\ (s.act = 4 -> 0 <= s.n /\ s.n <= 4096) := by
 intro s hs
 obtain ⟨last, h⟩ := zfA f.body true (yh V.ok).2.2.2.1 s hs
 have hn := zfB f.body s hs
 have := V.size
 exact ⟨zfC h (by omega), zdv h, fun a4 => ⟨((xL h).1.rep a4).1, ((xL h).1.rep a4).2.1⟩⟩
theorem Valid.nb : nbL f.body <= 8192 := by
 have h1 := zit f.body true (yh V.ok).2.2.2.1
 have h2 := (yh V.ok).2.2.2.2
 unfold zbw at h2
 simp at h2
 omega
end
theorem zfE {f : Fl} {hs : List Int} {s : St} {σ : Sg} {j : Nat} (hg : ∀ v ∈ f.vars, yf (v.low, v.high)) (ho : StepOk f s) (hset : jI s) (hV : InV f.vars σ.vals) (ht : 0 <= σ.time /\ σ.time <= (j : Int) * 67108864) (hol : σ.outs.length <= j) :
  InV f.vars (xS f hs s σ).vals /\ (0 <= (xS f hs s σ).time /\ (xS f hs s σ).time <= ((j + 1 : Nat) : Int) * 67108864) /\ (xS f hs s σ).outs.length <= j + 1 := by
 have hc := ho.cost
 unfold xS
 split
 . exact ⟨hV.set hg _ _, by dsimp only; omega, by dsimp only; omega⟩
 split
 . exact ⟨hV, by dsimp only; omega, by simp; omega⟩
 split
 . exact ⟨hV.set hg _ _, by dsimp only; omega, by dsimp only; omega⟩
 split
 ·
  rename_i a6
  refine ⟨hV, ?_, by dsimp only; omega⟩
  dsimp only
  rcases zcz s.bounds (σ.time + s.cost) with h | h
  . rw [h]; omega
  ·
   have := hset a6 _ h.1
   omega
 . exact ⟨hV, by dsimp only; omega, by dsimp only; omega⟩
open Go.GL
def zjd (f : Fl) (x : Nd) : Bool := decide (x.kind = 2) && (decide ((zhW f x.at_).act = 0) || decide ((zhW f x.at_).act = 5))
def varD (f : Fl) (d : Int) : Int := if ((jU f.body).length : Int) <= d then d - (jU f.body).length else (zhW f d).var
def zje (f : Fl) (x : Nd) (d : Int) : Prop := (x.kind = 0 /\ ((jU f.body).length : Int) <= d /\ d < (jU f.body).length + f.vars.length) \/ (x.kind ≠ 0 /\ zjd f x = true /\ d = x.at_)
def ziu (f : Fl) (x : Nd) (d : Int) : Prop := x.kind ≠ 0 /\ (zjd f x = true -> varD f d ≠ (zhW f x.at_).var)
inductive Rch (f : Fl) (g : List Nd) : Int -> Int -> Prop
 | gen {i : Nat} {x : Nd} {to d : Int} : g[i]? = some x -> (to = x.next \/ to = x.other) -> 0 <= to -> zje f x d -> Rch f g to d
 | thru {i : Nat} {x : Nd} {to d : Int} : g[i]? = some x -> (to = x.next \/ to = x.other) -> 0 <= to -> Rch f g i d -> ziu f x d -> Rch f g to d
theorem Rch.step {f : Fl} {g : List Nd} {i : Nat} {x : Nd} {to d : Int} (hx : g[i]? = some x) (ht : to = x.next \/ to = x.other) (h0 : 0 <= to) (h : zje f x d \/ (Rch f g i d /\ ziu f x d)) : Rch f g to d :=
 h.elim (Rch.gen hx ht h0) (fun h => Rch.thru hx ht h0 h.1 h.2)
theorem zhY (l : List Int) (v : Value) (D : Nat -> Prop) (w : World) (i : Nat) (h : SlR 1 zv D w v l) :
  Calls Tryz.prog 168 #[v, .int .i64 i] w (Ret fun r w' => r = .tuple #[.int .i64 (l[i]?.getD 0), .bool (decide (i < l.length))] /\ Ext w w') := by
 obtain ⟨av, cv, rfl⟩ := h.form
 refine G.in2 Tryz.func168 rfl Tryz.ntmps168 rfl (V.inn ?_)
 refine Vs 15 rfl ?_
 refine V.ite rfl (fun hge => ?_) (fun hge => ?_)
 ·
  refine Vs 8 rfl ?_
  refine V.ret2 Tryz.results168 rfl rfl (fun w hI => ⟨_, rfl, by rw [decide_eq_false (by omega), List.getElem?_eq_none (by omega)]; rfl, hI.k0⟩)
 ·
  refine Vs 6 rfl ?_
  obtain ⟨x, he_x⟩ : ∃ z_, l[i]? = some z_ := ⟨_, List.getElem?_eq_getElem (by omega)⟩
  have hm_x := List.mem_of_getElem? he_x
  obtain ⟨b_x, o_x, c_x, ha_x, _, hc_x, hR_x⟩ := h.at he_x
  obtain rfl := hR_x
  refine V.fr 1000 0 rfl rfl hc_x ?_
  refine V.ix 1000 tR31 ts3 rfl ha_x (by omega) (_) (rfl) rfl ?_
  refine Vs 6 rfl ?_
  refine V.ret2 Tryz.results168 rfl rfl (fun w hI => ⟨_, rfl, by rw [decide_eq_true (by omega), he_x]; rfl, hI.k0⟩)
theorem zdw (vs : List Vr) (r : Ins) (vv s1 s2 s3 : Value) (Dv D1 D2 D3 : Nat -> Prop) (w : World) (hvs : SlR 5 RVr Dv w vv vs) (hlen : vs.length <= 1000000) (hkv : ∀ v ∈ vs, 0 <= v.kind /\ v.kind <= 3) (hi1 : SlR 1 zv D1 w s1 r.secret) (hi2 : SlR 1 zv D2 w s2 r.pub) (hi3 : SlR 1 zv D3 w s3 r.random) :
  Calls Tryz.prog 140 #[vv, .agg #[s1, s2, s3]] w (Ret fun rr w' => (∃ u, rr = .tuple #[u, .int .i64 (zu vs r)] /\ (zu vs r ≠ 0 -> u = .slice none 0 0) /\ (zu vs r = 0 -> w'.ownsRow 0 3 1 u (yw vs r).length ((yw vs r).map ze) /\ ∀ g, u.ownBlock = some g -> w.heap.size <= g)) /\ Ext w w') := by
 obtain ⟨av, cv, rfl⟩ := hvs.form
 obtain ⟨a1, c1, rfl⟩ := hi1.form
 obtain ⟨a2, c2, rfl⟩ := hi2.form
 obtain ⟨a3, c3, rfl⟩ := hi3.form
 refine G.in2 Tryz.func140 rfl Tryz.ntmps140 rfl (V.inn ?_)
 refine Vs 2 rfl ?_
 refine V.box 3 rfl rfl (fun b3 => ?_)
 refine Vs 13 rfl ?_
 refine V.bs0 15 tR31 ts3 rfl (fun b15 => ?_)
 refine Vs 15 rfl ?_
 refine V.loopK (σ := Nat × StS × Value × Bool) [0, 3] [3] [3] rfl (fun e ⟨i, s, u, b⟩ => (6, .int .i64 s.a) :: (7, .int .i64 s.b) :: (8, .int .i64 s.c) :: (9, u) :: (10, .bool b) :: (11, .int .i64 i) :: e) (fun e ⟨i, s, u, b⟩ => (15, .row 3 1 u s.vals.length (s.vals.map ze)) :: e) (fun ⟨i, s, u, b⟩ => i <= vs.length /\ (vs.take i).foldl (zp r) (some ⟨[], 0, 0, 0⟩) = some s /\ b = ((vs.take i).zip s.vals).all inB) (fun ⟨i, s, u, b⟩ => vs.length - i) ((0, ⟨[], 0, 0, 0⟩, .slice (some ⟨b15, 0, none⟩) 0 0, true)) (Sub.of rfl) (Has.of rfl) (fun _ => rfl) (fun _ => rfl) (fun _ => rfl) (⟨Nat.zero_le _, rfl, rfl⟩) ?_
 rintro ⟨i, s, u, b⟩ ⟨hi, hs, hb⟩
 show V _ _ _ _ _ ((6, .int .i64 s.a) :: (7, .int .i64 s.b) :: (8, .int .i64 s.c) :: (9, u) :: (10, .bool b) :: (11, .int .i64 i) :: _) _ ((15, .row 3 1 u s.vals.length (s.vals.map ze)) :: _) _
 obtain ⟨hv1, ha, hb1, hc⟩ := ki i s hi hs
 refine Vs 9 rfl ?_
 refine V.ite rfl (fun hlt => ?_) (fun hlt => ?_)
 ·
  refine Vs 8 rfl ?_
  obtain ⟨x, he_x⟩ : ∃ z_, vs[i]? = some z_ := ⟨_, List.getElem?_eq_getElem (by omega)⟩
  have hm_x := List.mem_of_getElem? he_x
  obtain ⟨b_x, o_x, c_x, ha_x, _, hc_x, hR_x⟩ := hvs.at he_x
  obtain rfl := hR_x
  refine V.fr 1000 0 rfl rfl hc_x ?_
  refine V.ix 1000 tR52 ts120 rfl ha_x (by omega) (_) (rfl) rfl ?_
  have hst := jf he_x hs
  refine Vs 1 rfl ?_
  refine V.alloc 12 tz120 rfl rfl (fun b12 => ?_)
  refine Vs 18 rfl ?_
  have hkx := hkv x hm_x
  refine V.cutK (σ := Bool × Int × Nat × Nat × Nat) [0, 3, 9, 10, 11, 12] [3, 12, 15] [3, 12] rfl (fun e ⟨ok, n, a', b', c'⟩ => (13, .int .i64 n) :: (14, .bool ok) :: (6, .int .i64 a') :: (7, .int .i64 b') :: (8, .int .i64 c') :: e) (fun e ⟨ok, n, a', b', c'⟩ => e) (fun ⟨ok, n, a', b', c'⟩ => (vs.take (i + 1)).foldl (zp r) (some ⟨[], 0, 0, 0⟩) = if ok then some ⟨s.vals ++ [n], a', b', c'⟩ else none) (fun _ => rfl) (fun _ => rfl) ?_ ?_
  ·
   refine Vs 7 rfl ?_
   refine V.ite rfl (fun k1 => ?_) (fun k1 => ?_)
   ·
    refine Vs 5 rfl ?_
    refine V.call1 Tryz.call168 rfl (fun w hI => zhY r.secret _ D1 w s.a (Tr1 hI.k0 hi1)) ?_
    rw [if_neg (by omega), show xu r x.kind = r.secret by unfold xu; rw [if_pos k1], show jG s x.kind = s.a by unfold jG; rw [if_pos k1]] at hst
    have hq : (vs.take (i + 1)).foldl (zp r) (some ⟨[], 0, 0, 0⟩) = if decide (s.a < r.secret.length) then some ⟨s.vals ++ [r.secret[s.a]?.getD 0], s.a + 1, s.b, s.c⟩ else none := by
     rw [hst]
     by_cases hl : s.a < r.secret.length
     . rw [if_pos (decide_eq_true hl), List.getElem?_eq_getElem hl]; simp [je, k1]
     . rw [if_neg (by simp [hl]), List.getElem?_eq_none (by omega)]; rfl
    refine Va 13 rfl (by omega) ?_
    refine V.meet (⟨_, _, s.a + 1, s.b, s.c⟩) (Sub.of rfl) (Has.of rfl) (hq) 0 rfl rfl
   ·
    refine Vs 6 rfl ?_
    refine V.ite rfl (fun k2 => ?_) (fun k2 => ?_)
    ·
     refine Vs 5 rfl ?_
     refine V.call1 Tryz.call168 rfl (fun w hI => zhY r.pub _ D2 w s.b (Tr1 hI.k0 hi2)) ?_
     rw [if_neg (by omega), show xu r x.kind = r.pub by unfold xu; rw [if_neg k1, if_pos k2], show jG s x.kind = s.b by unfold jG; rw [if_neg k1, if_pos k2]] at hst
     have hq : (vs.take (i + 1)).foldl (zp r) (some ⟨[], 0, 0, 0⟩) = if decide (s.b < r.pub.length) then some ⟨s.vals ++ [r.pub[s.b]?.getD 0], s.a, s.b + 1, s.c⟩ else none := by
      rw [hst]
      by_cases hl : s.b < r.pub.length
      . rw [if_pos (decide_eq_true hl), List.getElem?_eq_getElem hl]; simp [je, k2]
      . rw [if_neg (by simp [hl]), List.getElem?_eq_none (by omega)]; rfl
     refine Va 13 rfl (by omega) ?_
     refine V.meet (⟨_, _, s.a, s.b + 1, s.c⟩) (Sub.of rfl) (Has.of rfl) (hq) 0 rfl rfl
    ·
     refine Vs 6 rfl ?_
     refine V.ite rfl (fun k3 => ?_) (fun k3 => ?_)
     ·
      refine Vs 5 rfl ?_
      refine V.call1 Tryz.call168 rfl (fun w hI => zhY r.random _ D3 w s.c (Tr1 hI.k0 hi3)) ?_
      rw [if_neg (by omega), show xu r x.kind = r.random by unfold xu; rw [if_neg k1, if_neg k2], show jG s x.kind = s.c by unfold jG; rw [if_neg k1, if_neg k2]] at hst
      have hq : (vs.take (i + 1)).foldl (zp r) (some ⟨[], 0, 0, 0⟩) = if decide (s.c < r.random.length) then some ⟨s.vals ++ [r.random[s.c]?.getD 0], s.a, s.b, s.c + 1⟩ else none := by
       rw [hst]
       by_cases hl : s.c < r.random.length
       . rw [if_pos (decide_eq_true hl), List.getElem?_eq_getElem hl]; simp [je, k1, k2]
       . rw [if_neg (by simp [hl]), List.getElem?_eq_none (by omega)]; rfl
      refine Va 13 rfl (by omega) ?_
      refine V.meet (⟨_, _, s.a, s.b, s.c + 1⟩) (Sub.of rfl) (Has.of rfl) (hq) 0 rfl rfl
     ·
      rw [if_pos (by omega)] at hst
      refine Vs 2 rfl ?_
      refine V.meet (⟨true, x.init, s.a, s.b, s.c⟩) (Sub.of rfl) (Has.of rfl) (by rw [hst]; rfl) 0 rfl rfl
  rintro ⟨ok, n, a', b', c'⟩ hq
  show V _ _ _ _ _ ((13, .int .i64 n) :: (14, .bool ok) :: (6, .int .i64 a') :: (7, .int .i64 b') :: (8, .int .i64 c') :: _) _ (_) _
  dsimp only at hq
  refine Vs 5 rfl ?_
  refine V.ops1 rfl (fun w hI => R.notU rfl (by first | exact za | rfl)) ?_
  refine Vs 2 rfl ?_
  refine V.bool rfl (fun hok => ?_) (fun hok => ?_)
  ·
   have hok' : ok = false := by simpa using hok
   have hN : zu vs r = 1 := by unfold zu; rw [zaB (by rw [hq, hok']; rfl)]
   refine Vs 13 rfl ?_
   refine V.ret2 tr140 rfl rfl (fun w hI => ⟨_, rfl, ⟨_, by rw [hN], fun _ => rfl, fun h => by omega⟩, hI.k0⟩)
  ·
   have hok' : ok = true := by simpa using hok
   rw [hok', if_pos rfl] at hq
   have hz : ∀ c, c = inB (x, n) -> (b && c) = ((vs.take (i + 1)).zip (s.vals ++ [n])).all inB := by
    intro c hc
    rw [zg he_x, List.zip_append (by rw [hv1, List.length_take]; omega), List.all_append, <- hb, hc]
    simp
   refine Vs 10 rfl ?_
   refine V.sp 69 rfl (fun g1 => ?_) (fun g1 => ?_)
   ·
    refine Vs 15 rfl ?_
    refine V.bs 77 [(0, _)] tR31 ts3 tz3 (by decide) rfl rfl (by kernel_rfl) (fun b77 => ?_)
    refine V.ap 15 77 tu31 Tryz.el3 rfl (by decide) rfl rfl (by omega) (by omega) (fun u15 => ?_)
    refine Va 9 rfl (by omega) ?_
    refine V.heq 15 rfl (e' := .row 3 1 u15 (s.vals ++ [n]).length ((s.vals ++ [n]).map ze)) (by simp [ze]) ?_
    refine V.back (⟨i + 1, ⟨s.vals ++ [n], a', b', c'⟩, u15, false⟩) (Sub.of rfl) (Has.of rfl) (⟨by omega, hq, by rw [<- hz false (by unfold inB; rw [decide_eq_false (p := x.low <= n) (by omega)]; rfl), Bool.and_false]⟩) (by first | omega | (dsimp only; omega)) 0 rfl rfl
   ·
    refine Vs 7 rfl ?_
    refine V.ite rfl (fun t1 => ?_) (fun t1 => ?_)
    ·
     refine Vs 7 rfl ?_
     refine V.bs 1077 [(0, _)] tR31 ts3 tz3 (by decide) rfl rfl (by kernel_rfl) (fun b1077 => ?_)
     refine V.ap 15 1077 tu31 Tryz.el3 rfl (by decide) rfl rfl (by omega) (by omega) (fun u15 => ?_)
     refine Va 9 rfl (by omega) ?_
     refine V.heq 15 rfl (e' := .row 3 1 u15 (s.vals ++ [n]).length ((s.vals ++ [n]).map ze)) (by simp [ze]) ?_
     refine V.back (⟨i + 1, ⟨s.vals ++ [n], a', b', c'⟩, u15, false⟩) (Sub.of rfl) (Has.of rfl) (⟨by omega, hq, by rw [<- hz false (by unfold inB; rw [decide_eq_false (p := n <= x.high) (by omega), Bool.and_false]), Bool.and_false]⟩) (by first | omega | (dsimp only; omega)) 0 rfl rfl
    ·
     refine Vs 5 rfl ?_
     refine V.bs 2077 [(0, _)] tR31 ts3 tz3 (by decide) rfl rfl (by kernel_rfl) (fun b2077 => ?_)
     refine V.ap 15 2077 tu31 Tryz.el3 rfl (by decide) rfl rfl (by omega) (by omega) (fun u15 => ?_)
     refine Va 9 rfl (by omega) ?_
     refine V.heq 15 rfl (e' := .row 3 1 u15 (s.vals ++ [n]).length ((s.vals ++ [n]).map ze)) (by simp [ze]) ?_
     refine V.back (⟨i + 1, ⟨s.vals ++ [n], a', b', c'⟩, u15, b⟩) (Sub.of rfl) (Has.of rfl) (⟨by omega, hq, by rw [<- hz true (by unfold inB; rw [decide_eq_true (p := x.low <= n) (by omega), decide_eq_true (p := n <= x.high) (by omega)]; rfl), Bool.and_true]⟩) (by first | omega | (dsimp only; omega)) 0 rfl rfl
 ·
  have hii : i = vs.length := by omega
  rw [hii, List.take_length] at hs hb
  have hS : jH vs r = some s := hs
  have hC : zu vs r = yC vs r s := by unfold zu; rw [hS]
  have hV : yw vs r = s.vals := by unfold yw; rw [hS]
  rw [hC, hV]
  refine Vs 14 rfl ?_
  refine V.sp 84 rfl (fun e1 => ?_) (fun e1 => ?_)
  ·
   have hF : yC vs r s = 1 := by unfold yC; rw [if_pos (.inl (by omega))]
   rw [hF]
   refine Vs 24 rfl ?_
   refine V.ret2 tr140 rfl rfl (fun w hI => ⟨_, rfl, ⟨_, rfl, fun _ => rfl, fun h => by omega⟩, hI.k0⟩)
  ·
   refine Vs 7 rfl ?_
   refine V.sp 91 rfl (fun e2 => ?_) (fun e2 => ?_)
   ·
    have hF : yC vs r s = 1 := by unfold yC; rw [if_pos (.inr (.inl (by omega)))]
    rw [hF]
    refine Vs 17 rfl ?_
    refine V.ret2 tr140 rfl rfl (fun w hI => ⟨_, rfl, ⟨_, rfl, fun _ => rfl, fun h => by omega⟩, hI.k0⟩)
   ·
    refine Vs 8 rfl ?_
    refine V.ite rfl (fun e3 => ?_) (fun e3 => ?_)
    ·
     have hF : yC vs r s = 1 := by unfold yC; rw [if_pos (.inr (.inr (by omega)))]
     rw [hF]
     refine Vs 8 rfl ?_
     refine V.ret2 tr140 rfl rfl (fun w hI => ⟨_, rfl, ⟨_, rfl, fun _ => rfl, fun h => by omega⟩, hI.k0⟩)
    ·
     have hF : yC vs r s = if b = true then 0 else 3 := by unfold yC; rw [if_neg (by omega), hb]
     rw [hF]
     refine Vs 6 rfl ?_
     refine V.ops1 rfl (fun w hI => R.notU rfl (by first | exact za | rfl)) ?_
     refine Vs 2 rfl ?_
     refine V.bool rfl (fun hb3 => ?_) (fun hb3 => ?_)
     ·
      have hb' : b = false := by simpa using hb3
      rw [hb', if_neg (by decide)]
      refine Vs 8 rfl ?_
      refine V.ret2 tr140 rfl rfl (fun w hI => ⟨_, rfl, ⟨_, rfl, fun _ => rfl, fun h => by omega⟩, hI.k0⟩)
     ·
      have hb' : b = true := by simpa using hb3
      rw [hb', if_pos rfl]
      refine Vs 10 rfl ?_
      refine V.ret2 tr140 rfl rfl (fun w hI => ⟨_, rfl, ⟨_, rfl, fun h => absurd rfl h, fun _ => ⟨hI.at 15 rfl, hI.own 15 0 rfl rfl⟩⟩, hI.k0⟩)
theorem zdx {vs : List Vr} (t : Tm) : zz vs true t = true -> zz vs false t = true := by
 induction t using Tm.ind with
 | h t ih =>
  intro h
  rw [yJ, Bool.and_eq_true, Bool.and_eq_true] at h ⊢
  refine ⟨⟨h.1.1, ?_⟩, ?_⟩
  ·
   have h2 := h.1.2
   unfold xQ at h2 ⊢
   split
   ·
    rename_i e
    rw [if_pos e, Bool.and_eq_true] at h2
    rw [h2.1]; rfl
   ·
    rename_i e
    rw [if_neg e] at h2
    exact h2
  ·
   have key : ∀ l : List Tm, (∀ k ∈ l, k ∈ t.kids) -> zY vs true l = true -> zY vs false l = true := by
    intro l
    induction l with
    | nil => intro _ _; rfl
    | cons x r ihr =>
     intro hm hf
     rw [zY, Bool.and_eq_true] at hf ⊢
     exact ⟨ih x (hm x (List.mem_cons_self ..)) hf.1, ihr (fun k hk => hm k (List.mem_cons_of_mem _ hk)) hf.2⟩
   exact key t.kids (fun k h => h) h.2
theorem Valid.hatch {f : Fl} (V : Valid f) : ∀ h ∈ f.hatches, zz f.vars false h.term = true /\ (rng f.vars h.term).isSome = true /\ h.term.nodes <= 1000000 /\ h.low <= h.high := by
 intro h hm
 obtain ⟨i, hi⟩ := List.mem_iff_getElem?.1 hm
 have hlt := (List.getElem?_eq_some_iff.1 hi).1
 have h0 := (yh V.ok).2.2.1
 have h1 := xg f.hatches.length 0 h0 i (Nat.zero_le _) (by omega)
 rw [kg hi] at h1
 have hn := xd hi
 have := V.size
 unfold zN at h1
 split at h1
 . cases h1
 split at h1
 . cases h1
 split at h1
 . cases h1
 ·
  rename_i hb
  unfold zJ at h1
  split at h1
  ·
   rename_i hf
   split at h1
   ·
    rename_i hr
    refine ⟨zdx _ hf, hr, by omega, ?_⟩
    have hb' : zaP h.low h.high = true := by simpa using hb
    unfold zaP at hb'
    exact (of_decide_eq_true hb').1
   . cases h1
  . cases h1
def zea (vals : List Int) (hs : List Ht) : List Int := hs.map fun h => yV (xj vals h.term) h.low h.high
theorem zcA {vals : List Int} {hs : List Ht} {i : Nat} {x : Ht} (h : hs[i]? = some x) : zea vals (hs.take (i + 1)) = zea vals (hs.take i) ++ [yV (xj vals x.term) x.low x.high] := by
 unfold zea; rw [zg h, List.map_append]; rfl
theorem zaD {vs : List Vr} {r : Ins} (h : zu vs r = 0) : InV vs (yw vs r) := by
 unfold zu at h
 cases hs : jH vs r with
 | none => rw [hs] at h; cases h
 | some s =>
  rw [hs] at h
  have hv : yw vs r = s.vals := by unfold yw; rw [hs]
  have hl := ki (vs := vs) (r := r) vs.length s (Nat.le_refl _) (by rw [List.take_length]; exact hs)
  simp only at h
  unfold yC at h
  split at h
  . cases h
  split at h
  ·
   rename_i ha
   rw [hv]
   refine ⟨hl.1, fun i v hi => ?_⟩
   have hlt := (List.getElem?_eq_some_iff.1 hi).1
   rw [List.all_eq_true] at ha
   have := ha (v, lki s.vals i) (List.mem_iff_getElem?.2 ⟨i, by
    rw [List.getElem?_zip_eq_some]
    exact ⟨hi, zfv (by omega)⟩⟩)
   unfold inB at this
   simp at this
   exact this
  . cases h
abbrev qX (f : Fl) (r : Ins) : List Int := zea (yw f.vars r) f.hatches
abbrev jh (f : Fl) (r : Ins) : Sg := ⟨yw f.vars r, [], 0⟩
def xF (f : Fl) (r : Ins) : Sg := exL f (qX f r) f.body (jh f r)
theorem zb2 (l : List Int) : l.flatMap (fun x => [ze x]) = l.map ze := (zgA l).symm
theorem zbF : ∀ (D : Nat -> Prop) (w : World) (x : Int) (cs : List Value), zv D w x cs -> cs = [ze x] := fun _ _ _ _ h => h
theorem zcB (vs : List Vr) (vals : List Int) (n i : Int) (v1 v2 v3 sv : Value) (Dv D : Nat -> Prop) (w : World) (hvs : SlR 5 RVr Dv w v1 vs) (hs : SlR 1 zv D w sv vals) (hlen : vals.length = vs.length) (hmx : vs.length <= 1000000) (hi : 0 <= i /\ i < vs.length) :
  Calls Tryz.prog 170 #[.agg #[v1, v2, v3], sv, .int .i64 i, .int .i64 n] w (Ret fun rr w' => (w'.ownsRow 0 3 1 rr vals.length ((jg vs vals i n).map ze) /\ ∀ g, rr.ownBlock = some g -> w.heap.size <= g) /\ Ext w w') := by
 obtain ⟨av, cv, rfl⟩ := hvs.form
 obtain ⟨asl, csl, rfl⟩ := hs.form
 obtain ⟨i, rfl⟩ : ∃ j : Nat, i = j := ⟨i.toNat, by omega⟩
 refine G.in4 Tryz.func170 rfl Tryz.ntmps170 rfl (V.inn ?_)
 refine Vs 2 rfl ?_
 refine V.box 4 rfl rfl (fun b4 => ?_)
 refine Vs 5 rfl ?_
 refine V.bs0 10 tR31 ts3 rfl (fun b10 => ?_)
 refine Vs 1 rfl ?_
 refine V.apS 10 (fun x => [ze x]) (fun _ => rfl) (by simp [Value.oneCell']) zbF tu31 Tryz.el3 rfl (by decide) rfl (fun w hI => ⟨_, Tr1 hI.k0 hs⟩) (by omega) (by omega) (fun u10 => ?_)
 refine V.heq 10 rfl (e' := .row 3 1 u10 vals.length (vals.map ze)) (by rw [zb2, Nat.zero_add]; rfl) ?_
 refine V.opened 10 rfl (by omega) ?_
 rintro b c rfl hcap_10
 refine Vs 4 rfl ?_
 obtain ⟨x, he_x⟩ : ∃ z_, vs[i]? = some z_ := ⟨_, List.getElem?_eq_getElem (by omega)⟩
 have hm_x := List.mem_of_getElem? he_x
 obtain ⟨b_x, o_x, c_x, ha_x, _, hc_x, hR_x⟩ := hvs.at he_x
 obtain rfl := hR_x
 refine V.fr 1000 0 rfl rfl hc_x ?_
 refine Vw [4, 1000] [] rfl ?_
 refine Vd [0, 1, 2, 3, 4, 5, 9, 10, 11] 0 (by kernel_rfl) rfl rfl rfl ?_
 refine VD.ix 6 1000 tR52 ts120 rfl (by kernel_rfl) rfl ha_x (by omega) (_) (rfl) rfl ?_
 refine Vd [7, 8] 0 (by kernel_rfl) rfl rfl rfl ?_
 refine VD.ix 12 1000 tR52 ts120 rfl (by kernel_rfl) rfl ha_x (by omega) (_) (rfl) rfl ?_
 refine Vd [13, 14] 0 (by kernel_rfl) rfl rfl rfl ?_
 refine VD.call1 15 0 Tryz.call173 rfl (by kernel_rfl) rfl rfl (fun w hI => jW n x.low x.high w) ?_
 refine Vb [16] 0 (by kernel_rfl) rfl rfl rfl (by omega) ?_
 refine VD.rs 17 10 0 (i) ts3 rfl (by kernel_rfl) rfl rfl (by omega) (by simp; omega) ?_
 refine VD.done (by kernel_rfl) ?_
 refine Vs 8 rfl ?_
 have hx : jg vs vals i n = vals.set i (yV n x.low x.high) := by unfold jg; rw [Int.toNat_natCast, he_x]
 refine V.heq 10 rfl (e' := .row 3 1 (.slice (some ⟨b, 0, none⟩) vals.length c) vals.length ((jg vs vals i n).map ze)) (by rw [hx, List.map_set]) ?_
 refine V.ret1 Tryz.results170 rfl (fun w hI => ⟨_, rfl, ⟨hI.at 10 rfl, hI.own 10 0 rfl rfl⟩, hI.k0⟩)
theorem zbG (f : Fl) (vals : List Int) (v1 v2 v3 sv : Value) (D Ds : Nat -> Prop) (w : World) (hf : RFl D w f v1 v2 v3) (hs : SlR 1 zv Ds w sv vals) (hg : ∀ v ∈ f.vars, yf (v.low, v.high)) (hV : InV f.vars vals) (hh : ∀ h ∈ f.hatches, zz f.vars false h.term = true /\ (rng f.vars h.term).isSome = true) (hmx : f.hatches.length <= 1000000) :
  Calls Tryz.prog 142 #[.agg #[v1, v2, v3], sv] w (Ret fun rr w' => (w'.ownsRow 0 3 1 rr f.hatches.length ((zea vals f.hatches).map ze) /\ ∀ g, rr.ownBlock = some g -> w.heap.size <= g) /\ Ext w w') := by
 obtain ⟨hf1, hf2, hf3⟩ := hf
 obtain ⟨ah, ch, rfl⟩ := hf2.form
 refine G.in2 Tryz.func142 rfl Tryz.ntmps142 rfl (V.inn ?_)
 refine Vs 2 rfl ?_
 refine V.box 2 rfl rfl (fun b2 => ?_)
 refine Vs 5 rfl ?_
 refine V.bs0 8 tR31 ts3 rfl (fun b8 => ?_)
 refine Vs 10 rfl ?_
 refine V.loopK (σ := Nat × Value) [1, 2] [2] [2] rfl (fun e ⟨i, u⟩ => (5, u) :: (6, .int .i64 i) :: e) (fun e ⟨i, u⟩ => (8, .row 3 1 u i ((zea vals (f.hatches.take i)).map ze)) :: e) (fun ⟨i, u⟩ => i <= f.hatches.length) (fun ⟨i, u⟩ => f.hatches.length - i) ((0, .slice (some ⟨b8, 0, none⟩) 0 0)) (Sub.of rfl) (Has.of rfl) (fun _ => rfl) (fun _ => rfl) (fun _ => rfl) (Nat.zero_le _) ?_
 rintro ⟨i, u⟩ hi
 show V _ _ _ _ _ ((5, u) :: (6, .int .i64 i) :: _) _ ((8, .row 3 1 u i ((zea vals (f.hatches.take i)).map ze)) :: _) _
 refine Vs 10 rfl ?_
 refine V.ite rfl (fun hlt => ?_) (fun hlt => ?_)
 ·
  refine Vs 9 rfl ?_
  obtain ⟨x, he_x⟩ : ∃ z_, f.hatches[i]? = some z_ := ⟨_, List.getElem?_eq_getElem (by omega)⟩
  have hm_x := List.mem_of_getElem? he_x
  obtain ⟨b_x, o_x, c_x, ha_x, _, hc_x, hR_x⟩ := hf2.at he_x
  obtain ⟨v1_x, rfl, hk_x⟩ := hR_x
  obtain ⟨a1_x, n1_x, rfl⟩ := hk_x.form
  refine V.fr 1000 0 rfl rfl hc_x ?_
  refine V.ix 1000 tR53 ts137 rfl ha_x (by omega) (_) (rfl) rfl ?_
  obtain ⟨t1, t2⟩ := hh x hm_x
  refine Vs 1 rfl ?_
  refine V.alloc 7 tz137 rfl rfl (fun b7 => ?_)
  refine Vs 3 rfl ?_
  refine Vw [2, 1000, 7] [] rfl ?_
  refine Vd [0, 1, 2, 3, 5, 6, 7, 8] 0 (by kernel_rfl) rfl rfl rfl ?_
  refine VD.call1 4 0 tc171 rfl (by kernel_rfl) rfl rfl (fun w hI => xC hg hV x.term t1 t2 _ D Ds w _ (Tr1 hI.k0 hs) (RTm.put (Tr1 hI.k0 hk_x))) ?_
  refine VD.call1 9 0 Tryz.call173 rfl (by kernel_rfl) rfl rfl (fun w hI => jW _ x.low x.high w) ?_
  refine VD.bs 10 31 0 [(0, _)] tR31 ts3 tz3 (by decide) rfl (by kernel_rfl) rfl rfl (by kernel_rfl) (fun b31 => ?_)
  refine VD.ap 11 8 31 0 tu31 Tryz.el3 rfl (by decide) rfl (by kernel_rfl) rfl rfl rfl (by omega) (by omega) (fun u8 => ?_)
  refine Vd [12] 0 (by kernel_rfl) rfl rfl rfl ?_
  refine VD.done (by kernel_rfl) ?_
  refine Va 7 rfl (by omega) ?_
  refine V.heq 8 rfl (e' := .row 3 1 u8 (i + 1) ((zea vals (f.hatches.take (i + 1))).map ze)) (by rw [zcA he_x, List.map_append]; rfl) ?_
  refine V.back ((i + 1, u8)) (Sub.of rfl) (Has.of rfl) (Nat.succ_le_of_lt (by omega)) (by first | omega | (dsimp only; omega)) 0 rfl rfl
 ·
  have hii : i = f.hatches.length := by omega
  subst hii
  refine Vs 12 rfl ?_
  refine V.ret1 Tryz.results142 rfl (fun w hI => ⟨_, rfl, ⟨by have h := hI.at 8 rfl; rwa [List.take_length] at h, hI.own 8 0 rfl rfl⟩, hI.k0⟩)
theorem zeb (vs : List Vr) (vals : List Int) (i n : Int) : (jg vs vals i n).length = vals.length := by
 unfold jg; split
 . rw [List.length_set]
 . rfl
structure SgB (f : Fl) (N : Nat) (σ : Sg) : Prop where
 inv : InV f.vars σ.vals
 t0 : 0 <= σ.time
 t1 : σ.time <= (N : Int) * 67108864
 ol : σ.outs.length <= N
theorem SgB.mono {f : Fl} {N M : Nat} {σ : Sg} (h : SgB f N σ) (hm : N <= M) : SgB f M σ := ⟨h.inv, h.t0, by have := h.t1; omega, by have := h.ol; omega⟩
theorem SgB.cost {f : Fl} {N : Nat} {σ : Sg} {s : St} (h : SgB f N σ) (ho : StepOk f s) : SgB f (N + 1) { σ with time := σ.time + s.cost } := by
 have := ho.cost
 exact ⟨h.inv, by have := h.t0; dsimp only; omega, by have := h.t1; dsimp only; omega, by have := h.ol; dsimp only; omega⟩
abbrev PreOk (f : Fl) (l : List St) : Prop := ∀ s ∈ jU l, StepOk f s /\ jI s /\ (s.act = 4 -> 0 <= s.n)
theorem PreOk.kids {f : Fl} {l : List St} (h : PreOk f l) {x : St} (hx : x ∈ l) : (StepOk f x /\ jI x /\ (x.act = 4 -> 0 <= x.n)) /\ PreOk f x.thn /\ PreOk f x.els := by
 have hm : ∀ s ∈ x.pre, s ∈ jU l := by
  intro s hs
  induction l with
  | nil => cases hx
  | cons y r ih =>
   rw [jU, List.mem_append]
   rcases List.mem_cons.1 hx with rfl | hx
   . exact .inl hs
   ·
    refine .inr (ih (fun s hs => h s ?_) hx)
    rw [jU, List.mem_append]; exact .inr hs
 rw [x.pre_eq] at hm
 exact ⟨h x (hm x (by simp)), fun s hs => h s (hm s (by simp [hs])), fun s hs => h s (hm s (by simp [hs]))⟩
theorem zcC {f : Fl} {body : Sg -> Sg} {s : St} (ho : StepOk f s) {b : Nat} (hb : ∀ N σ, SgB f N σ -> SgB f (N + b) (body σ)) : ∀ (k N : Nat) (σ : Sg), SgB f N σ -> SgB f (N + k * (1 + b)) (xl body s.cost s.term k σ)
 | 0, N, σ, h => by simpa [xl] using h
 | k + 1, N, σ, h => by
  unfold xl
  have h1 := h.cost ho
  rw [Nat.succ_mul]
  split
  . exact h1.mono (by omega)
  . exact (zcC ho hb k _ _ (hb _ _ h1)).mono (by omega)
theorem ji {f : Fl} {hs : List Int} (hg : ∀ v ∈ f.vars, yf (v.low, v.high)) (l : List St) : PreOk f l -> ∀ N σ, SgB f N σ -> SgB f (N + nbL l) (exL f hs l σ) := by
 induction l using Sts.ind with
 | h l ih =>
 intro hp
 have key : ∀ r : List St, (∀ x ∈ r, x ∈ l) -> ∀ N σ, SgB f N σ -> SgB f (N + nbL r) (exL f hs r σ) := by
  intro r
  induction r with
  | nil => intro _ N σ h; exact h
  | cons x r ihr =>
   intro hm N σ h
   obtain ⟨⟨ho, hse, hn4⟩, hp1, hp2⟩ := hp.kids (hm x (List.mem_cons_self ..))
   obtain ⟨i1, i2⟩ := ih x (hm x (List.mem_cons_self ..))
   rw [exL, nbL, <- Nat.add_assoc]
   refine ihr (fun y hy => hm y (List.mem_cons_of_mem _ hy)) _ _ ?_
   rw [xo, zcy]
   split
   ·
    split
    . exact (i1 hp1 _ _ (h.cost ho)).mono (by omega)
    . exact (i2 hp2 _ _ (h.cost ho)).mono (by omega)
   ·
    split
    . exact (zcC ho (i1 hp1) _ _ _ h).mono (by omega)
    ·
     obtain ⟨h1, h2, h3⟩ := zfE (hs := hs) hg ho hse h.inv ⟨h.t0, h.t1⟩ h.ol
     exact ⟨h1, h2.1, h2.2, h3⟩
 exact key l (fun x h => h)
theorem km (f : Fl) (hs : List Int) : ∀ (a b : List St) (σ : Sg), exL f hs (a ++ b) σ = exL f hs b (exL f hs a σ)
 | [], _, _ => rfl
 | x :: r, b, σ => by rw [List.cons_append, exL, exL, km f hs r b]
theorem qN : ∀ (a b : List St), nbL (a ++ b) = nbL a + nbL b
 | [], b => by rw [List.nil_append]; simp [nbL]
 | x :: r, b => by rw [List.cons_append, nbL, nbL, qN r b, Nat.add_assoc]
theorem zec (l : List St) (i : Nat) : nbL (l.take i) <= nbL l := by
 have := qN (l.take i) (l.drop i)
 rw [List.take_append_drop] at this
 omega
theorem zfF (s : St) : 1 <= nbS s := by
 rw [zcy]
 split
 . omega
 . split <;> omega
abbrev sgV (σ : Sg) (a1 : Option Addr) (c1 : Nat) (a2 : Option Addr) (c2 : Nat) : Value := .agg #[.slice a1 σ.vals.length c1, .slice a2 σ.outs.length c2, .int .i64 σ.time]
abbrev SlI (D : Nat -> Prop) (w : World) (a : Option Addr) (c : Nat) (l : List Int) : Prop := SlR 1 zv D w (.slice a l.length c) l
def ziv (D : Nat -> Prop) (w w' : World) (σ : Sg) (r : Value) : Prop := ∃ a1 c1 a2 c2, r = sgV σ a1 c1 a2 c2 /\ SlI (fun b => D b \/ w.heap.size <= b) w' a1 c1 σ.vals /\ SlI (fun b => D b \/ w.heap.size <= b) w' a2 c2 σ.outs
def zfG (f : Fl) (hs : List Int) (l : List St) : Prop := ∀ (N : Nat) (σ : Sg), SgB f N σ -> N + nbL l <= 100000 -> ∀ (D Df Dh : Nat -> Prop) (w : World) (v1 v2 v3 hv lv : Value) (a1 : Option Addr) (c1 : Nat) (a2 : Option Addr) (c2 : Nat), (∀ b, D b -> b < w.heap.size) -> RFl Df w f v1 v2 v3 -> SlR 1 zv Dh w hv hs -> SlR 10 RSt Df w lv l -> SlI D w a1 c1 σ.vals -> SlI D w a2 c2 σ.outs ->
 Calls Tryz.prog 141 #[.agg #[v1, v2, v3], hv, lv, sgV σ a1 c1 a2 c2] w (Ret fun r w' => ziv D w w' (exL f hs l σ) r /\ Ext w w')
theorem zfH (f : Fl) (hs : List Int) (hg : ∀ v ∈ f.vars, yf (v.low, v.high)) (x : St) (ho : StepOk f x) (hn : 0 <= x.n) (hp : PreOk f x.thn) (ih : zfG f hs x.thn) (N : Nat) (σ : Sg) (hB : SgB f N σ) (hN : N + x.n.toNat * (1 + nbL x.thn) <= 100000) (D Df Dh : Nat -> Prop) (w : World) (v1 v2 v3 hv : Value) (a1 : Option Addr) (c1 : Nat) (a2 : Option Addr) (c2 : Nat) (_ : ∀ b, D b -> b < w.heap.size) (hf : RFl Df w f v1 v2 v3) (hh : SlR 1 zv Dh w hv hs) (ax : Option Addr) (nx : Nat) (bx : Option Addr) (mx : Nat) (ex : Option Addr) (ox : Nat) (fx : Option Addr) (px : Nat)
  (hk : SlR 3 RTm Df w (.slice ax x.term.kids.length nx) x.term.kids) (ht : SlR 10 RSt Df w (.slice bx x.thn.length mx) x.thn) (hs1 : SlI D w a1 c1 σ.vals) (hs2 : SlI D w a2 c2 σ.outs) :
  Calls Tryz.prog 169 #[.agg #[v1, v2, v3], hv, .agg #[.int .i64 x.act, .int .i64 x.cost, .int .i64 x.var, .int .i64 x.n, .int .i64 x.term.op, .int .i64 x.term.n, .slice ax x.term.kids.length nx, .slice bx x.thn.length mx, .slice ex x.els.length ox, .slice fx x.bounds.length px], sgV σ a1 c1 a2 c2] w
   (Ret fun r w' => ziv D w w' (xl (exL f hs x.thn) x.cost x.term x.n.toNat σ) r /\ Ext w w') := by
 refine G.in4 Tryz.func169 rfl Tryz.ntmps169 rfl (V.inn ?_)
 refine Vs 2 rfl ?_
 refine V.box 4 rfl rfl (fun b4 => ?_)
 refine V.box 6 rfl rfl (fun b6 => ?_)
 refine V.box 7 rfl rfl (fun b7 => ?_)
 refine V.alloc 8 tz160 rfl rfl (fun b8 => ?_)
 refine Vs 9 rfl ?_
 refine V.dat 900 0 rfl rfl rfl (hs1) (fun _ _ _ h => h) ?_
 refine V.dat 901 0 rfl rfl rfl (hs2) (fun _ _ _ h => h) ?_
 refine V.loopK (σ := Nat × Sg × Option Addr × Nat × Option Addr × Nat × (Nat -> Prop) × (Nat -> Prop)) [1, 4, 6, 7, 8] [4, 6, 8] [4, 6, 7, 8] rfl (fun e ⟨k, s, p1, q1, p2, q2, F1, F2⟩ => (9, .int .i64 k) :: e) (fun e ⟨k, s, p1, q1, p2, q2, F1, F2⟩ => (7, .own b7 [.slice p1 s.vals.length q1, .slice p2 s.outs.length q2, .int .i64 s.time] 160) :: (900, .dat F1 (fun w => SlI F1 w p1 q1 s.vals)) :: (901, .dat F2 (fun w => SlI F2 w p2 q2 s.outs)) :: e) (fun ⟨k, s, p1, q1, p2, q2, F1, F2⟩ => k <= x.n.toNat /\ xl (exL f hs x.thn) x.cost x.term x.n.toNat σ = xl (exL f hs x.thn) x.cost x.term (x.n.toNat - k) s /\ SgB f (N + k * (1 + nbL x.thn)) s /\ (∀ b, F1 b -> D b \/ w.heap.size <= b) /\ (∀ b, F2 b -> D b \/ w.heap.size <= b)) (fun ⟨k, s, p1, q1, p2, q2, F1, F2⟩ => x.n.toNat - k) ((0, σ, a1, c1, a2, c2, fun b => D b /\ b < w.heap.size, fun b => D b /\ b < w.heap.size)) (Sub.of rfl) (Has.of rfl) (fun _ => rfl) (fun _ => rfl) (fun _ => rfl) (⟨Nat.zero_le _, rfl, by simpa using hB, fun b h => .inl h.1, fun b h => .inl h.1⟩) ?_
 rintro ⟨k, s, p1, q1, p2, q2, F1, F2⟩ ⟨hk1, hall, hsB, hF1, hF2⟩
 show V _ _ _ _ _ ((9, .int .i64 k) :: _) _ ((7, .own b7 [.slice p1 s.vals.length q1, .slice p2 s.outs.length q2, .int .i64 s.time] 160) :: (900, .dat F1 (fun w => SlI F1 w p1 q1 s.vals)) :: (901, .dat F2 (fun w => SlI F2 w p2 q2 s.outs)) :: _) _
 have hcost := ho.cost
 have ht0 := hsB.t0
 have ht1 := hsB.t1
 refine Vs 9 rfl ?_
 refine V.ite rfl (fun hlt => ?_) (fun hlt => ?_)
 ·
  obtain ⟨m, hm⟩ : ∃ m, x.n.toNat - k = m + 1 := ⟨x.n.toNat - k - 1, by omega⟩
  have hm' : x.n.toNat - (k + 1) = m := by omega
  have hkn : (k + 1) * (1 + nbL x.thn) <= x.n.toNat * (1 + nbL x.thn) := Nat.mul_le_mul_right _ (by omega)
  rw [Nat.succ_mul] at hkn
  have hkb : k <= k * (1 + nbL x.thn) := Nat.le_mul_of_pos_right _ (by omega)
  rw [hm, xl] at hall
  have hs1' := hsB.cost ho
  refine Va 22 rfl (by omega) ?_
  refine V.call1 tc171 rfl (fun w hI => xC hg hsB.inv x.term ho.formed ho.ranged _ Df F1 w _ (hI.at 900 rfl).1 (RTm.put (Tr1 hI.k0 hk))) ?_
  refine Vs 3 rfl ?_
  refine V.ite rfl (fun z => ?_) (fun z => ?_)
  ·
   rw [if_pos z] at hall
   rw [hall]
   refine Vs 13 rfl ?_
   refine V.retC Tryz.results169 tg160 ts160 rfl rfl rfl (fun w hI => ⟨_, rfl, ⟨_, _, _, _, rfl, (hI.at 900 rfl).1.wide zb hF1, (hI.at 901 rfl).1.wide zb hF2⟩, hI.k0⟩)
  ·
   rw [if_neg z] at hall
   refine Vs 8 rfl ?_
   refine V.call2 Tryz.call141 rfl (fun w hI => ih _ { s with time := s.time + x.cost } hs1' (by omega) (fun b => F1 b \/ F2 b) Df Dh w v1 v2 v3 hv _ p1 q1 p2 q2 (fun b hb => hb.elim ((hI.at 900 rfl).2 b) ((hI.at 901 rfl).2 b)) (Tr1 hI.k0 hf) (Tr1 hI.k0 hh) (Tr1 hI.k0 ht) ((hI.at 900 rfl).1.wide zb (fun _ h => .inl h)) ((hI.at 901 rfl).1.wide zb (fun _ h => .inr h))) ?_
   rintro r w1 w2 hI1 hk12 ⟨p1', q1', p2', q2', rfl, hr1, hr2⟩ hlow
   have hoff : ∀ b, ((F1 b \/ F2 b) \/ w1.heap.size <= b) -> b < w2.heap.size -> ¬ HS _ b := fun b hb _ => hb.elim (fun h => h.elim (hI1.offF 900 rfl b) (hI1.offF 901 rfl b)) (fun h hs => by have := hlow b hs; omega)
   have hsz : w.heap.size <= w1.heap.size := hI1.k0.size
   refine Va 9 rfl (by omega) ?_
   refine V.del 900 rfl ?_
   refine V.dat 900 0 rfl rfl rfl (hr1) (hoff) ?_
   refine V.del 901 rfl ?_
   refine V.dat 901 0 rfl rfl rfl (hr2) (hoff) ?_
   have hFF : ∀ b, ((F1 b \/ F2 b) \/ w1.heap.size <= b) /\ b < w2.heap.size -> D b \/ w.heap.size <= b := fun b hb => hb.1.elim (fun h => h.elim (hF1 b) (hF2 b)) (fun h => .inr (by omega))
   refine V.back (⟨k + 1, _, p1', q1', p2', q2', _, _⟩) (Sub.of rfl) (Has.of rfl) (⟨by omega, by rw [hm']; exact hall, (ji hg x.thn hp _ _ hs1').mono (by rw [Nat.succ_mul]; omega), hFF, hFF⟩) (by first | omega | (dsimp only; omega)) 1 rfl rfl
 ·
  have hkk : k = x.n.toNat := by omega
  rw [hkk, Nat.sub_self, xl] at hall
  rw [hall]
  refine Vs 12 rfl ?_
  refine V.retC Tryz.results169 tg160 ts160 rfl rfl rfl (fun w hI => ⟨_, rfl, ⟨_, _, _, _, rfl, (hI.at 900 rfl).1.wide zb hF1, (hI.at 901 rfl).1.wide zb hF2⟩, hI.k0⟩)
theorem zgR (f : Fl) (hs : List Int) (hg : ∀ v ∈ f.vars, yf (v.low, v.high)) (hlen : hs.length = f.hatches.length) (hvl : f.vars.length <= 1000) (l : List St) : PreOk f l -> zfG f hs l := by
 induction l using Sts.ind with
 | h l ih =>
 intro hp N σ hB hN D Df Dh w v1 v2 v3 hv lv a1 c1 a2 c2 hD hf hh hl hs1 hs2
 obtain ⟨al, cl, rfl⟩ := hl.form
 obtain ⟨ahv, chv, rfl⟩ := hh.form
 have hlm := hl.max
 refine G.in4 Tryz.func141 rfl Tryz.ntmps141 rfl (V.inn ?_)
 refine Vs 2 rfl ?_
 refine V.box 4 rfl rfl (fun b4 => ?_)
 refine V.box 7 rfl rfl (fun b7 => ?_)
 refine V.alloc 8 tz160 rfl rfl (fun b8 => ?_)
 refine Vs 9 rfl ?_
 refine V.dat 900 0 rfl rfl rfl (hs1) (fun _ _ _ h => h) ?_
 refine V.dat 901 0 rfl rfl rfl (hs2) (fun _ _ _ h => h) ?_
 refine V.loopK (σ := Nat × Sg × Option Addr × Nat × Option Addr × Nat × (Nat -> Prop) × (Nat -> Prop)) [1, 2, 4, 7, 8] [4, 8] [4, 7, 8] rfl (fun e ⟨i, s, p1, q1, p2, q2, F1, F2⟩ => (9, .int .i64 i) :: e) (fun e ⟨i, s, p1, q1, p2, q2, F1, F2⟩ => (7, .own b7 [.slice p1 s.vals.length q1, .slice p2 s.outs.length q2, .int .i64 s.time] 160) :: (900, .dat F1 (fun w => SlI F1 w p1 q1 s.vals)) :: (901, .dat F2 (fun w => SlI F2 w p2 q2 s.outs)) :: e) (fun ⟨i, s, p1, q1, p2, q2, F1, F2⟩ => i <= l.length /\ s = exL f hs (l.take i) σ /\ SgB f (N + nbL (l.take i)) s /\ (∀ b, F1 b -> D b \/ w.heap.size <= b) /\ (∀ b, F2 b -> D b \/ w.heap.size <= b)) (fun ⟨i, s, p1, q1, p2, q2, F1, F2⟩ => l.length - i) ((0, σ, a1, c1, a2, c2, fun b => D b /\ b < w.heap.size, fun b => D b /\ b < w.heap.size)) (Sub.of rfl) (Has.of rfl) (fun _ => rfl) (fun _ => rfl) (fun _ => rfl) (⟨Nat.zero_le _, rfl, by simpa [nbL] using hB, fun b h => .inl h.1, fun b h => .inl h.1⟩) ?_
 rintro ⟨i, s, p1, q1, p2, q2, F1, F2⟩ ⟨hi, hall, hsB, hF1, hF2⟩
 show V _ _ _ _ _ ((9, .int .i64 i) :: _) _ ((7, .own b7 [.slice p1 s.vals.length q1, .slice p2 s.outs.length q2, .int .i64 s.time] 160) :: (900, .dat F1 (fun w => SlI F1 w p1 q1 s.vals)) :: (901, .dat F2 (fun w => SlI F2 w p2 q2 s.outs)) :: _) _
 have ht0 := hsB.t0
 have ht1 := hsB.t1
 have hol := hsB.ol
 refine Vs 9 rfl ?_
 refine V.ite rfl (fun hlt => ?_) (fun hlt => ?_)
 ·
  refine Vs 8 rfl ?_
  obtain ⟨x, he_x⟩ : ∃ z_, l[i]? = some z_ := ⟨_, List.getElem?_eq_getElem (by omega)⟩
  have hm_x := List.mem_of_getElem? he_x
  obtain ⟨b_x, o_x, c_x, ha_x, _, hc_x, hR_x⟩ := hl.at he_x
  obtain ⟨v1_x, v2_x, v3_x, v4_x, rfl, hk_x, ht_x, hs_x, hb_x⟩ := hR_x.get
  obtain ⟨a1_x, n1_x, rfl⟩ := hk_x.form
  obtain ⟨a2_x, n2_x, rfl⟩ := ht_x.form
  obtain ⟨a3_x, n3_x, rfl⟩ := hs_x.form
  obtain ⟨a4_x, n4_x, rfl⟩ := hb_x.form
  refine V.fr 1000 0 rfl rfl hc_x ?_
  refine V.ix 1000 tR54 ts134 rfl ha_x (by omega) (_) (rfl) rfl ?_
  obtain ⟨⟨ho, hse, hn4⟩, hp1, hp2⟩ := hp.kids hm_x
  obtain ⟨i1, i2⟩ := ih x hm_x
  have hcost := ho.cost
  have hnx : nbL (l.take (i + 1)) = nbL (l.take i) + nbS x := by rw [zg he_x, qN]; rfl
  have hnl : nbL (l.take (i + 1)) <= nbL l := zec l (i + 1)
  have hnx1 := zfF x
  have hex : exL f hs (l.take (i + 1)) σ = exS f hs x s := by rw [zg he_x, km, <- hall]; rfl
  have hnS := zcy x
  have hinv : SgB f (N + nbL (l.take (i + 1))) (exS f hs x s) := by
   rw [<- hex]
   exact ji hg _ (fun s hs => hp s (by rw [<- List.take_append_drop (i + 1) l, qh]; simp [hs])) N σ hB
  have hs1' := hsB.cost ho
  have hi1 : i + 1 <= l.length := by omega
  refine Vs 1 rfl ?_
  refine V.alloc 10 tz134 rfl rfl (fun b10 => ?_)
  refine Vs 11 rfl ?_
  refine V.ite rfl (fun a4 => ?_) (fun a4 => ?_)
  ·
   rw [if_neg (by omega), if_pos a4] at hnS
   have hx : exS f hs x s = xl (exL f hs x.thn) x.cost x.term x.n.toNat s := by rw [xo, if_neg (by omega), if_pos a4]
   refine Vs 6 rfl ?_
   refine V.call2 Tryz.call169 rfl (fun w hI => zfH f hs hg x ho (hn4 a4) hp1 (i1 hp1) _ s hsB (by omega) (fun b => F1 b \/ F2 b) Df Dh w v1 v2 v3 _ p1 q1 p2 q2 (fun b hb => hb.elim ((hI.at 900 rfl).2 b) ((hI.at 901 rfl).2 b)) (Tr1 hI.k0 hf) (Tr1 hI.k0 hh) _ _ _ _ _ _ _ _ (Tr1 hI.k0 hk_x) (Tr1 hI.k0 ht_x) ((hI.at 900 rfl).1.wide zb (fun _ h => .inl h)) ((hI.at 901 rfl).1.wide zb (fun _ h => .inr h))) ?_
   rintro r w1 w2 hI1 hk12 ⟨p1', q1', p2', q2', rfl, hr1, hr2⟩ hlow
   have hoff : ∀ b, ((F1 b \/ F2 b) \/ w1.heap.size <= b) -> b < w2.heap.size -> ¬ HS _ b := fun b hb _ => hb.elim (fun h => h.elim (hI1.offF 900 rfl b) (hI1.offF 901 rfl b)) (fun h hs => by have := hlow b hs; omega)
   have hsz : w.heap.size <= w1.heap.size := hI1.k0.size
   have hFF : ∀ b, ((F1 b \/ F2 b) \/ w1.heap.size <= b) /\ b < w2.heap.size -> D b \/ w.heap.size <= b := fun b hb => hb.1.elim (fun h => h.elim (hF1 b) (hF2 b)) (fun h => .inr (by omega))
   refine Va 12 rfl (by omega) ?_
   refine V.del 900 rfl ?_
   refine V.dat 900 0 rfl rfl rfl (hr1) (hoff) ?_
   refine V.del 901 rfl ?_
   refine V.dat 901 0 rfl rfl rfl (hr2) (hoff) ?_
   refine V.back (⟨i + 1, _, p1', q1', p2', q2', _, _⟩) (Sub.of rfl) (Has.of rfl) (⟨hi1, by rw [hex, hx], by rw [<- hx]; exact hinv, hFF, hFF⟩) (by first | omega | (dsimp only; omega)) 1 rfl rfl
  ·
   refine Va 26 rfl (by omega) ?_
   refine V.ite rfl (fun a0 => ?_) (fun a0 => ?_)
   ·
    have hx : exS f hs x s = { s with vals := jg f.vars s.vals x.var (xj s.vals x.term), time := s.time + x.cost } := by rw [xo, if_neg (by omega), if_neg a4]; unfold xS; rw [if_pos a0]
    have hvar := ho.var (.inl a0)
    refine Vw [4, 8, 7, 1000, 10] [12] rfl ?_
    refine Vd [0, 1, 2, 3, 4, 5, 6, 7, 8] 0 (by kernel_rfl) rfl rfl rfl ?_
    refine VD.call1 9 0 tc171 rfl (by kernel_rfl) rfl rfl (fun w hI => xC hg hsB.inv x.term ho.formed ho.ranged _ Df F1 w _ (hI.at 900 rfl).1 (RTm.put (Tr1 hI.k0 hk_x))) ?_
    refine VD.call2 10 0 Tryz.call170 rfl (by kernel_rfl) rfl rfl (fun w hI => zcB f.vars s.vals _ x.var v1 v2 v3 _ Df F1 w (Tr1 hI.k0 hf.vars) (hI.at 900 rfl).1 hsB.inv.len (by omega) hvar) ?_
    rintro r w1 w2 hI1 hk12 ⟨hr1, hr2⟩ hlow
    rw [<- zeb f.vars s.vals x.var (xj s.vals x.term)] at hr1
    obtain ⟨ar, cr, rfl⟩ := qG hr1
    have hsz : w.heap.size <= w1.heap.size := hI1.k0.size
    refine Vd [11] 1 (by kernel_rfl) rfl rfl rfl ?_
    refine Vl 12 rfl (by kernel_rfl) rfl ?_
    refine VDx.done (by kernel_rfl) ?_
    refine Va 8 rfl (by omega) ?_
    refine V.del 900 rfl ?_
    refine V.dat 900 0 rfl rfl rfl (SlR.ofRow1 (R := zv) (D := fun b => w1.heap.size <= b) ze (fun _ _ => rfl) hr1 hr2) (fun b hb _ hs => by have := hlow b hs; omega) ?_
    refine V.back (⟨i + 1, { s with vals := jg f.vars s.vals x.var (xj s.vals x.term), time := s.time + x.cost }, ar, cr, p2, q2, _, F2⟩) (Sub.of rfl) (Has.of rfl) (⟨hi1, by rw [hex, hx], by rw [<- hx]; exact hinv, fun b hb => .inr (by omega), hF2⟩) (by first | omega | (dsimp only; omega)) 1 rfl rfl
   ·
    refine Vs 6 rfl ?_
    refine V.ite rfl (fun a1 => ?_) (fun a1 => ?_)
    ·
     have hx : exS f hs x s = { s with outs := s.outs ++ [xj s.vals x.term], time := s.time + x.cost } := by rw [xo, if_neg (by omega), if_neg a4]; unfold xS; rw [if_neg a0, if_pos a1]
     refine Vw [4, 8, 7, 1000, 10] [12] rfl ?_
     refine Vd [1, 2, 4, 5, 6, 7] 0 (by kernel_rfl) rfl rfl rfl ?_
     refine VD.bs0 0 53 0 tR31 ts3 rfl (by kernel_rfl) rfl (fun b53 => ?_)
     refine VD.apS 3 53 0 (fun x => [ze x]) (fun _ => rfl) (by simp [Value.oneCell']) zbF tu31 Tryz.el3 rfl (by decide) rfl (by kernel_rfl) rfl rfl (fun w hI => ⟨_, (hI.at 901 rfl).1⟩) (by omega) (by omega) (fun u53 => ?_)
     refine VD.call1 8 0 tc171 rfl (by kernel_rfl) rfl rfl (fun w hI => xC hg hsB.inv x.term ho.formed ho.ranged _ Df F1 w _ (hI.at 900 rfl).1 (RTm.put (Tr1 hI.k0 hk_x))) ?_
     refine VD.bs 9 62 0 [(0, _)] tR31 ts3 tz3 (by decide) rfl (by kernel_rfl) rfl rfl (by kernel_rfl) (fun b62 => ?_)
     refine VD.ap 10 53 62 0 tu31 Tryz.el3 rfl (by decide) rfl (by kernel_rfl) rfl rfl rfl (by omega) (by omega) (fun u53 => ?_)
     refine Vd [11] 0 (by kernel_rfl) rfl rfl rfl ?_
     refine VD.opened 53 rfl (by omega) ?_
     rintro bo co rfl hcap_53
     refine Vl 12 rfl (by kernel_rfl) rfl ?_
     refine VDx.done (by kernel_rfl) ?_
     refine Va 8 rfl (by omega) ?_
     refine V.heq 7 rfl (e' := .own b7 [.slice p1 s.vals.length q1, .slice (some ⟨bo, 0, none⟩) (s.outs ++ [xj s.vals x.term]).length co, .int .i64 (s.time + x.cost)] 160) (by rw [List.length_append, Nat.zero_add]; rfl) ?_
     refine V.heq 53 rfl (e' := .row 3 1 (.slice (some ⟨bo, 0, none⟩) (s.outs ++ [xj s.vals x.term]).length co) (s.outs ++ [xj s.vals x.term]).length ((s.outs ++ [xj s.vals x.term]).map ze)) (by rw [List.length_append, Nat.zero_add, zb2, List.map_append]; rfl) ?_
     refine V.fact (p := w.heap.size <= bo) (fun w hI => hI.own 53 0 rfl rfl bo rfl) (fun hbo => ?_)
     refine V.del 901 rfl ?_
     refine V.frz1 53 901 (R := zv) ze (fun _ _ _ => rfl) rfl rfl ?_
     refine V.back (⟨i + 1, { s with outs := s.outs ++ [xj s.vals x.term], time := s.time + x.cost }, p1, q1, some ⟨bo, 0, none⟩, co, F1, _⟩) (Sub.of rfl) (Has.of rfl) (⟨hi1, by rw [hex, hx], by rw [<- hx]; exact hinv, hF1, fun b hb => .inr (by have hb : some bo = some b := hb; cases hb; exact hbo)⟩) (by first | omega | (dsimp only; omega)) 0 rfl rfl
    ·
     refine Vs 6 rfl ?_
     refine V.ite rfl (fun a5 => ?_) (fun a5 => ?_)
     ·
      have hx : exS f hs x s = { s with vals := jg f.vars s.vals x.var (lki hs x.n.toNat), time := s.time + x.cost } := by rw [xo, if_neg (by omega), if_neg a4]; unfold xS; rw [if_neg a0, if_neg a1, if_pos a5]
      have hvar := ho.var (.inr a5)
      have hnum := ho.num a5
      obtain ⟨y, he_y⟩ : ∃ z_, hs[x.n.toNat]? = some z_ := ⟨_, List.getElem?_eq_getElem (by omega)⟩
      have hm_y := List.mem_of_getElem? he_y
      obtain ⟨b_y, o_y, c_y, ha_y, _, hc_y, hR_y⟩ := hh.at he_y
      obtain rfl := hR_y
      refine V.fr 2000 0 rfl rfl hc_y ?_
      have hy : lki hs x.n.toNat = y := zfu he_y
      rw [hy] at hx
      refine Vw [4, 8, 7, 1000, 10, 2000] [12] rfl ?_
      refine Vd [0, 1, 2, 3, 4, 5, 6, 7] 0 (by kernel_rfl) rfl rfl rfl ?_
      refine VD.ix 8 2000 tR31 ts3 rfl (by kernel_rfl) rfl ha_y (by omega) (x.n.toNat) (by omega) rfl ?_
      refine Vd [9] 0 (by kernel_rfl) rfl rfl rfl ?_
      refine VD.call2 10 0 Tryz.call170 rfl (by kernel_rfl) rfl rfl (fun w hI => zcB f.vars s.vals y x.var v1 v2 v3 _ Df F1 w (Tr1 hI.k0 hf.vars) (hI.at 900 rfl).1 hsB.inv.len (by omega) hvar) ?_
      rintro r w1 w2 hI1 hk12 ⟨hr1, hr2⟩ hlow
      rw [<- zeb f.vars s.vals x.var y] at hr1
      obtain ⟨ar, cr, rfl⟩ := qG hr1
      have hsz : w.heap.size <= w1.heap.size := hI1.k0.size
      refine Vd [11] 1 (by kernel_rfl) rfl rfl rfl ?_
      refine Vl 12 rfl (by kernel_rfl) rfl ?_
      refine VDx.done (by kernel_rfl) ?_
      refine Va 8 rfl (by omega) ?_
      refine V.del 900 rfl ?_
      refine V.dat 900 0 rfl rfl rfl (SlR.ofRow1 (R := zv) (D := fun b => w1.heap.size <= b) ze (fun _ _ => rfl) hr1 hr2) (fun b hb _ hs => by have := hlow b hs; omega) ?_
      refine V.back (⟨i + 1, { s with vals := jg f.vars s.vals x.var y, time := s.time + x.cost }, ar, cr, p2, q2, _, F2⟩) (Sub.of rfl) (Has.of rfl) (⟨hi1, by rw [hex, hx], by rw [<- hx]; exact hinv, fun b hb => .inr (by omega), hF2⟩) (by first | omega | (dsimp only; omega)) 1 rfl rfl
     ·
      refine Vs 6 rfl ?_
      refine V.ite rfl (fun a3 => ?_) (fun a3 => ?_)
      ·
       have hx := xo f hs x s
       rw [if_pos a3] at hx
       rw [if_pos a3] at hnS
       refine Vs 6 rfl ?_
       refine V.call1 tc171 rfl (fun w hI => xC hg hsB.inv x.term ho.formed ho.ranged _ Df F1 w _ (hI.at 900 rfl).1 (RTm.put (Tr1 hI.k0 hk_x))) ?_
       refine Vs 3 rfl ?_
       refine V.ite rfl (fun z => ?_) (fun z => ?_)
       ·
        rw [if_pos z] at hx
        refine Vs 6 rfl ?_
        refine V.call2 Tryz.call141 rfl (fun w hI => i1 hp1 _ { s with time := s.time + x.cost } hs1' (by omega) (fun b => F1 b \/ F2 b) Df Dh w v1 v2 v3 _ _ p1 q1 p2 q2 (fun b hb => hb.elim ((hI.at 900 rfl).2 b) ((hI.at 901 rfl).2 b)) (Tr1 hI.k0 hf) (Tr1 hI.k0 hh) (Tr1 hI.k0 ht_x) ((hI.at 900 rfl).1.wide zb (fun _ h => .inl h)) ((hI.at 901 rfl).1.wide zb (fun _ h => .inr h))) ?_
        rintro r w1 w2 hI1 hk12 ⟨p1', q1', p2', q2', rfl, hr1, hr2⟩ hlow
        have hoff : ∀ b, ((F1 b \/ F2 b) \/ w1.heap.size <= b) -> b < w2.heap.size -> ¬ HS _ b := fun b hb _ => hb.elim (fun h => h.elim (hI1.offF 900 rfl b) (hI1.offF 901 rfl b)) (fun h hs => by have := hlow b hs; omega)
        have hsz : w.heap.size <= w1.heap.size := hI1.k0.size
        have hFF : ∀ b, ((F1 b \/ F2 b) \/ w1.heap.size <= b) /\ b < w2.heap.size -> D b \/ w.heap.size <= b := fun b hb => hb.1.elim (fun h => h.elim (hF1 b) (hF2 b)) (fun h => .inr (by omega))
        refine Va 10 rfl (by omega) ?_
        refine V.del 900 rfl ?_
        refine V.dat 900 0 rfl rfl rfl (hr1) (hoff) ?_
        refine V.del 901 rfl ?_
        refine V.dat 901 0 rfl rfl rfl (hr2) (hoff) ?_
        refine V.back (⟨i + 1, _, p1', q1', p2', q2', _, _⟩) (Sub.of rfl) (Has.of rfl) (⟨hi1, by rw [hex, hx], by rw [<- hx]; exact hinv, hFF, hFF⟩) (by first | omega | (dsimp only; omega)) 1 rfl rfl
       ·
        rw [if_neg z] at hx
        refine Vs 6 rfl ?_
        refine V.call2 Tryz.call141 rfl (fun w hI => i2 hp2 _ { s with time := s.time + x.cost } hs1' (by omega) (fun b => F1 b \/ F2 b) Df Dh w v1 v2 v3 _ _ p1 q1 p2 q2 (fun b hb => hb.elim ((hI.at 900 rfl).2 b) ((hI.at 901 rfl).2 b)) (Tr1 hI.k0 hf) (Tr1 hI.k0 hh) (Tr1 hI.k0 hs_x) ((hI.at 900 rfl).1.wide zb (fun _ h => .inl h)) ((hI.at 901 rfl).1.wide zb (fun _ h => .inr h))) ?_
        rintro r w1 w2 hI1 hk12 ⟨p1', q1', p2', q2', rfl, hr1, hr2⟩ hlow
        have hoff : ∀ b, ((F1 b \/ F2 b) \/ w1.heap.size <= b) -> b < w2.heap.size -> ¬ HS _ b := fun b hb _ => hb.elim (fun h => h.elim (hI1.offF 900 rfl b) (hI1.offF 901 rfl b)) (fun h hs => by have := hlow b hs; omega)
        have hsz : w.heap.size <= w1.heap.size := hI1.k0.size
        have hFF : ∀ b, ((F1 b \/ F2 b) \/ w1.heap.size <= b) /\ b < w2.heap.size -> D b \/ w.heap.size <= b := fun b hb => hb.1.elim (fun h => h.elim (hF1 b) (hF2 b)) (fun h => .inr (by omega))
        refine Va 10 rfl (by omega) ?_
        refine V.del 900 rfl ?_
        refine V.dat 900 0 rfl rfl rfl (hr1) (hoff) ?_
        refine V.del 901 rfl ?_
        refine V.dat 901 0 rfl rfl rfl (hr2) (hoff) ?_
        refine V.back (⟨i + 1, _, p1', q1', p2', q2', _, _⟩) (Sub.of rfl) (Has.of rfl) (⟨hi1, by rw [hex, hx], by rw [<- hx]; exact hinv, hFF, hFF⟩) (by first | omega | (dsimp only; omega)) 1 rfl rfl
      ·
       refine Vs 6 rfl ?_
       refine V.ite rfl (fun a6 => ?_) (fun a6 => ?_)
       ·
        have hx : exS f hs x s = { s with time := xk x.bounds (s.time + x.cost) } := by rw [xo, if_neg (by omega), if_neg a4]; unfold xS; rw [if_neg a0, if_neg a1, if_neg a5, if_pos a6]
        refine Vs 5 rfl ?_
        refine V.call1 Tryz.call172 rfl (fun w hI => zbE x.bounds (s.time + x.cost) _ Df w (Tr1 hI.k0 hb_x)) ?_
        refine Va 11 rfl (by omega) ?_
        refine V.back (⟨i + 1, { s with time := xk x.bounds (s.time + x.cost) }, p1, q1, p2, q2, F1, F2⟩) (Sub.of rfl) (Has.of rfl) (⟨hi1, by rw [hex, hx], by rw [<- hx]; exact hinv, hF1, hF2⟩) (by first | omega | (dsimp only; omega)) 0 rfl rfl
       ·
        have hx : exS f hs x s = { s with time := s.time + x.cost } := by rw [xo, if_neg (by omega), if_neg a4]; unfold xS; rw [if_neg a0, if_neg a1, if_neg a5, if_neg a6]
        refine Va 9 rfl (by omega) ?_
        refine V.back (⟨i + 1, { s with time := s.time + x.cost }, p1, q1, p2, q2, F1, F2⟩) (Sub.of rfl) (Has.of rfl) (⟨hi1, by rw [hex, hx], by rw [<- hx]; exact hinv, hF1, hF2⟩) (by first | omega | (dsimp only; omega)) 0 rfl rfl
 ·
  have hii : i = l.length := by omega
  subst hii
  rw [List.take_length] at hall
  subst hall
  refine Vs 12 rfl ?_
  refine V.retC Tryz.results141 tg160 ts160 rfl rfl rfl (fun w hI => ⟨_, rfl, ⟨_, _, _, _, rfl, (hI.at 900 rfl).1.wide zb hF1, (hI.at 901 rfl).1.wide zb hF2⟩, hI.k0⟩)
def zA (f : Fl) (r : Ins) : Int := if zQ f ≠ 0 then zQ f else zu f.vars r
theorem kW {f : Fl} (vd : Valid f) : PreOk f f.body := fun s hs => by
 obtain ⟨h1, h2, h3⟩ := vd.step s hs
 exact ⟨h1, h2, fun h => (h3 h).1⟩
theorem jJ {f : Fl} {r : Ins} (h : zu f.vars r = 0) : SgB f 0 (jh f r) := ⟨zaD h, by dsimp only; omega, by dsimp only; omega, Nat.le_refl _⟩
theorem zhZ (f : Fl) (r : Ins) (v1 v2 v3 s1 s2 s3 : Value) (D D1 D2 D3 : Nat -> Prop) (W : World) (hf : RFl D W f v1 v2 v3) (hi1 : SlR 1 zv D1 W s1 r.secret) (hi2 : SlR 1 zv D2 W s2 r.pub) (hi3 : SlR 1 zv D3 W s3 r.random) (hsz : zl f.body + zH f.hatches <= 1024) (hbk : zy f.body <= 1000000) :
  Calls Tryz.prog 102 #[.agg #[v1, v2, v3], .agg #[s1, s2, s3]] W (Ret fun rr w' => (∃ st, rr = .tuple #[st, .int .i64 (zA f r)] /\ (zA f r ≠ 0 -> st = .agg #[.slice none 0 0, .slice none 0 0, .int .i64 0]) /\ (zA f r = 0 -> ∃ a1 c1 a2 c2, st = sgV (xF f r) a1 c1 a2 c2 /\ SlI (fun b => W.heap.size <= b) w' a1 c1 (xF f r).vals /\ SlI (fun b => W.heap.size <= b) w' a2 c2 (xF f r).outs)) /\ Ext W w') := by
 refine G.in2 Tryz.func102 rfl Tryz.ntmps102 rfl (V.inn ?_)
 refine Vs 2 rfl ?_
 refine V.box 2 rfl rfl (fun b2 => ?_)
 refine V.box 3 rfl rfl (fun b3 => ?_)
 refine V.alloc 4 tz160 rfl rfl (fun b4 => ?_)
 refine Vs 6 rfl ?_
 refine V.call1 Tryz.call42 rfl (fun w hI => qg f v1 v2 v3 D w (Tr1 hI.k0 hf) hsz hbk) ?_
 refine Vs 10 rfl ?_
 refine V.ite rfl (fun c0 => ?_) (fun c0 => ?_)
 ·
  have hc : zA f r = zQ f := if_pos c0
  refine Vs 2 rfl ?_
  refine V.bld [Value.slice none 0 0, Value.slice none 0 0, Value.int IntKind.i64 0] [(0, 1), (1, 1), (2, 1)] [] rfl rfl (fun _ => by kernel_rfl) ?_
  refine Vs 7 rfl ?_
  refine V.retCT Tryz.results102 tg160 ts160 rfl rfl rfl rfl (fun w hI => ⟨_, rfl, ⟨_, by rw [hc], fun _ => rfl, fun h => absurd (hc ▸ h) c0⟩, hI.k0⟩)
 ·
  have c0' : zQ f = 0 := by omega
  have vd : Valid f := ⟨c0', hsz, hbk⟩
  have hc : zA f r = zu f.vars r := if_neg c0
  have hl := vd.lens
  have hnb := vd.nb
  rw [hc]
  refine Vs 7 rfl ?_
  refine V.call2 Tryz.call140 rfl (fun w hI => zdw f.vars r v1 s1 s2 s3 D D1 D2 D3 w (Tr1 hI.k0 hf.vars) (by omega) vd.kinds (Tr1 hI.k0 hi1) (Tr1 hI.k0 hi2) (Tr1 hI.k0 hi3)) ?_
  rintro rr w1 w2 hI1 hk12 ⟨u, rfl, hu1, hu2⟩ hlow
  refine Vs 14 rfl ?_
  refine V.ite rfl (fun e0 => ?_) (fun e0 => ?_)
  ·
   refine Vs 2 rfl ?_
   refine V.bld [Value.slice none 0 0, Value.slice none 0 0, Value.int IntKind.i64 0] [(0, 1), (1, 1), (2, 1)] [] rfl rfl (fun _ => by kernel_rfl) ?_
   refine Vs 7 rfl ?_
   refine V.retCT Tryz.results102 tg160 ts160 rfl rfl rfl rfl (fun w hI => ⟨_, rfl, ⟨_, rfl, fun _ => rfl, fun h => absurd h e0⟩, hI.k1⟩)
  ·
   have e0' : zu f.vars r = 0 := by omega
   obtain ⟨hrow, hfr⟩ := hu2 e0'
   obtain ⟨au, cu, rfl⟩ := qG hrow
   have hsz1 : W.heap.size <= w1.heap.size := hI1.k0.size
   refine Vs 3 rfl ?_
   refine V.dat 900 0 rfl rfl rfl (SlR.ofRow1 (R := zv) (D := fun b => w1.heap.size <= b) ze (fun _ _ => rfl) hrow hfr) (fun b hb _ hs => by have := hlow b hs; omega) ?_
   refine Vw [2, 3, 4] [9] rfl ?_
   refine Vd [0, 1, 2, 4, 5, 6] 0 (by kernel_rfl) rfl rfl rfl ?_
   refine VD.bld 7 [Value.slice none 0 0, Value.slice none 0 0, Value.int IntKind.i64 0] [(0, 1), (1, 1), (2, 1)] [(0, _)] rfl (by kernel_rfl) rfl rfl (fun _ => by kernel_rfl) ?_
   refine VD.call2 3 0 Tryz.call142 rfl (by kernel_rfl) rfl rfl (fun w hI => zbG f (yw f.vars r) v1 v2 v3 _ D _ w (Tr1 hI.k1 hf) (hI.at 900 rfl).1 vd.good (zaD e0') (fun h hh => ⟨(vd.hatch h hh).1, (vd.hatch h hh).2.1⟩) (by omega)) ?_
   rintro hv w3 w4 hI3 hk34 ⟨hh1, hh2⟩ hlow2
   refine VD.call2 8 1 Tryz.call141 rfl (by kernel_rfl) rfl rfl (fun w hI => zgR f (qX f r) vd.good (by simp [zea]) (by omega) f.body (kW vd) 0 (jh f r) (jJ e0') (by omega) (fun b => w1.heap.size <= b /\ b < w2.heap.size) D (fun b => w3.heap.size <= b) w v1 v2 v3 hv _ au cu none 0 (fun b hb => by have : w2.heap.size <= w.heap.size := hI.k1.size; omega) (Tr1 hI.k2 hf) (SlR.ofRow1 (R := zv) ze (fun _ _ => rfl) (zR hh1 hI.k0 (fun g hg hs => by have := hlow2 g hs; have := hh2 g hg; omega)) hh2) (Tr1 hI.k2 hf.body) (hI.at 900 rfl).1 SlR.nil) ?_
   rintro rs w5 w6 hI5 hk56 ⟨a1, c1, a2, c2, rfl, hr1, hr2⟩ hlow3
   refine Vl 9 rfl (by kernel_rfl) rfl ?_
   refine Vx [10] (by kernel_rfl) rfl ?_
   refine VDx.done (by kernel_rfl) ?_
   refine Vs 2 rfl ?_
   have hsz5 : w1.heap.size <= w5.heap.size := by have h1 := hk12.size; have h2 : w2.heap.size <= w5.heap.size := hI5.k1.size; omega
   have hoff : ∀ b, ((w1.heap.size <= b /\ b < w2.heap.size) \/ w5.heap.size <= b) -> b < w6.heap.size -> ¬ HS _ b := fun b hb _ => hb.elim (hI5.offF 900 rfl b) (fun h hs => by have := hlow3 b hs; omega)
   refine V.dat 901 0 rfl rfl rfl (hr1) (hoff) ?_
   refine V.dat 902 0 rfl rfl rfl (hr2) (hoff) ?_
   have hFF : ∀ b, ((w1.heap.size <= b /\ b < w2.heap.size) \/ w5.heap.size <= b) /\ b < w6.heap.size -> W.heap.size <= b := fun b hb => by omega
   refine V.retCT Tryz.results102 tg160 ts160 rfl rfl rfl rfl (fun w hI => ⟨_, rfl, ⟨_, by rw [e0']; rfl, fun h => absurd e0' h, fun _ => ⟨_, _, _, _, rfl, (hI.at 901 rfl).1.wide zb hFF, (hI.at 902 rfl).1.wide zb hFF⟩⟩, hI.k3⟩)
theorem zfI (f : Fl) (r : Ins) (v1 v2 v3 s1 s2 s3 : Value) (D D1 D2 D3 : Nat -> Prop) (W : World) (hf : RFl D W f v1 v2 v3) (hi1 : SlR 1 zv D1 W s1 r.secret) (hi2 : SlR 1 zv D2 W s2 r.pub) (hi3 : SlR 1 zv D3 W s3 r.random) (hsz : zl f.body + zH f.hatches <= 1024) (hbk : zy f.body <= 1000000) :
  Calls Tryz.prog 75 #[.agg #[v1, v2, v3], .agg #[s1, s2, s3]] W (Ret fun rr w' => (∃ ov t, rr = .tuple #[.agg #[ov, .int .i64 t], .int .i64 (zA f r)] /\ (zA f r ≠ 0 -> ov = .slice none 0 0 /\ t = 0) /\ (zA f r = 0 -> t = (xF f r).time /\ SlR 1 zv (fun b => W.heap.size <= b) w' ov (xF f r).outs)) /\ Ext W w') := by
 refine G.in2 Tryz.func75 rfl Tryz.ntmps75 rfl (V.inn ?_)
 refine Vs 2 rfl ?_
 refine V.box 2 rfl rfl (fun b2 => ?_)
 refine V.box 3 rfl rfl (fun b3 => ?_)
 refine V.alloc 4 tz60 rfl rfl (fun b4 => ?_)
 refine Vs 7 rfl ?_
 refine V.call2 Tryz.call102 rfl (fun w hI => zhZ f r v1 v2 v3 s1 s2 s3 D D1 D2 D3 w (Tr1 hI.k0 hf) (Tr1 hI.k0 hi1) (Tr1 hI.k0 hi2) (Tr1 hI.k0 hi3) hsz hbk) ?_
 rintro rr w1 w2 hI1 hk12 ⟨st, rfl, hu1, hu2⟩ hlow
 have hsz1 : W.heap.size <= w1.heap.size := hI1.k0.size
 by_cases c0 : zA f r = 0
 ·
  obtain ⟨a1, c1, a2, c2, rfl, hr1, hr2⟩ := hu2 c0
  rw [c0] at *
  refine Vs 3 rfl ?_
  refine V.alloc 6 tz160 rfl rfl (fun b6 => ?_)
  refine Vs 11 rfl ?_
  refine V.ite rfl (fun e => ?_) (fun e => ?_)
  . exact absurd rfl e
  ·
   refine V.dat 901 0 rfl rfl rfl (hr2) (fun b hb _ hs => by have := hlow b hs; omega) ?_
   refine Vs 8 rfl ?_
   refine V.bld [Value.slice none 0 0, Value.int IntKind.i64 0] [(0, 1), (1, 1)] [(0, _), (1, _)] rfl rfl (fun _ => by kernel_rfl) ?_
   refine Vs 5 rfl ?_
   refine V.retCT Tryz.results75 tg60 ts60 rfl rfl rfl rfl (fun w hI => ⟨_, rfl, ⟨_, _, rfl, fun h => absurd rfl h, fun _ => ⟨rfl, (hI.at 901 rfl).1.wide zb (fun b hb => by omega)⟩⟩, hI.k1⟩)
 ·
  obtain rfl := hu1 c0
  refine Vs 3 rfl ?_
  refine V.alloc 1006 tz160 rfl rfl (fun b1006 => ?_)
  refine Vs 11 rfl ?_
  refine V.ite rfl (fun e => ?_) (fun e => ?_)
  ·
   refine Vs 2 rfl ?_
   refine V.bld [Value.slice none 0 0, Value.int IntKind.i64 0] [(0, 1), (1, 1)] [] rfl rfl (fun _ => by kernel_rfl) ?_
   refine Vs 7 rfl ?_
   refine V.retCT Tryz.results75 tg60 ts60 rfl rfl rfl rfl (fun w hI => ⟨_, rfl, ⟨_, _, rfl, fun _ => ⟨rfl, rfl⟩, fun h => absurd h c0⟩, hI.k1⟩)
  . omega
end Go.Proofs.YtbkhagigkglgoaaGreatDoor
namespace Go.GL
theorem RFl.keep {D S : Nat -> Prop} {w w' : World} {f : Fl} {v1 v2 v3 : Value} (h : RFl D w f v1 v2 v3) (hk : Keep S w w') (hD : ∀ q, D q -> q < w.heap.size -> ¬ S q) : RFl D w' f v1 v2 v3 := ⟨h.vars.keep xa hk hD, h.hatches.keep xb hk hD, h.body.keep zf hk hD⟩
end Go.GL
namespace Go.Proofs.YtbkhagigkglgoaaGreatDoor
open Go.GL
structure MachOk (w : World) (bm : Nat) (v1 v2 v3 vv hv ov : Value) (σ : Sg) : Prop where
 box : Blk w bm [v1, v2, v3, vv, hv, ov, .int .i64 σ.time] 180
 vals : w.ownsRow 0 3 1 vv σ.vals.length (σ.vals.map ze)
 outs : w.ownsRow 0 3 1 ov σ.outs.length (σ.outs.map ze)
 a1 : vv.ownBlock ≠ some bm
 a2 : ov.ownBlock ≠ some bm
 a3 : ∀ q, vv.ownBlock = some q -> ov.ownBlock ≠ some q
def qQ (bm : Nat) (vv ov : Value) (q : Nat) : Prop := q = bm \/ vv.ownBlock = some q \/ ov.ownBlock = some q
abbrev jj (bm : Nat) (v1 v2 v3 vv hv ov : Value) (σ : Sg) : Hp := [(900, .own bm [v1, v2, v3, vv, hv, ov, .int .i64 σ.time] 180), (901, .row 3 1 vv σ.vals.length (σ.vals.map ze)), (902, .row 3 1 ov σ.outs.length (σ.outs.map ze))]
def MachPost (w w' : World) (bm : Nat) (v1 v2 v3 vv hv ov : Value) (σ' : Sg) : Prop := ∃ ov', MachOk w' bm v1 v2 v3 vv hv ov' σ' /\ Keep (qQ bm vv ov) w w' /\ (ov'.ownBlock = ov.ownBlock \/ ∃ g, ov'.ownBlock = some g /\ w.heap.size <= g)
section
variable {w w' : World} {bm : Nat} {v1 v2 v3 vv hv ov : Value} {σ σ' : Sg}
theorem MachOk.lent (h : MachOk w bm v1 v2 v3 vv hv ov σ) : (∀ x ∈ jj bm v1 v2 v3 vv hv ov σ, x.2.holds w /\ x.2.loc /\ (∀ b, ¬ x.2.fz b) /\ ∀ q, x.2.S q -> q < w.heap.size) /\ (jj bm v1 v2 v3 vv hv ov σ).Pairwise (fun x y => ∀ q, x.2.S q -> ¬ y.2.S q) := by
 refine ⟨?_, ?_⟩
 ·
  intro x hx
  simp only [List.mem_cons, List.not_mem_nil, or_false] at hx
  rcases hx with rfl | rfl | rfl
  . exact ⟨h.box, trivial, fun _ h => h, fun q hq => by have hq : q = bm := hq; rw [hq]; exact h.box.lt⟩
  . exact ⟨h.vals, trivial, fun _ h => h, fun q hq => xm h.vals hq⟩
  . exact ⟨h.outs, trivial, fun _ h => h, fun q hq => xm h.outs hq⟩
 ·
  refine List.pairwise_cons.2 ⟨fun x hx q hq hs => ?_, List.pairwise_cons.2 ⟨fun x hx q hq hs => ?_, List.pairwise_singleton _ _⟩⟩
  ·
   have hq : q = bm := hq
   subst hq
   simp only [List.mem_cons, List.not_mem_nil, or_false] at hx
   rcases hx with rfl | rfl
   . exact h.a1 hs
   . exact h.a2 hs
  ·
   simp only [List.mem_cons, List.not_mem_nil, or_false] at hx
   subst hx
   exact h.a3 q hq hs
theorem machHS {q : Nat} : HS (jj bm v1 v2 v3 vv hv ov σ) q ↔ qQ bm vv ov q := by
 unfold HS qQ
 constructor
 ·
  rintro ⟨x, hx, hq⟩
  simp only [List.mem_cons, List.not_mem_nil, or_false] at hx
  rcases hx with rfl | rfl | rfl
  . exact .inl hq
  . exact .inr (.inl hq)
  . exact .inr (.inr hq)
 ·
  rintro (hq | hq | hq)
  . exact ⟨_, List.mem_cons_self .., hq⟩
  . exact ⟨_, List.mem_cons_of_mem _ (List.mem_cons_self ..), hq⟩
  . exact ⟨_, List.mem_cons_of_mem _ (List.mem_cons_of_mem _ (List.mem_cons_self ..)), hq⟩
theorem kG {Bs : yk} {H : Hp} (hI : VI Bs H w) (h0 : zm H 900 = some (.own bm [v1, v2, v3, vv, hv, ov, .int .i64 σ.time] 180)) (h1 : zm H 901 = some (.row 3 1 vv σ.vals.length (σ.vals.map ze))) (h2 : zm H 902 = some (.row 3 1 ov σ.outs.length (σ.outs.map ze))) : MachOk w bm v1 v2 v3 vv hv ov σ :=
 ⟨hI.at 900 h0, hI.at 901 h1, hI.at 902 h2, fun h => zC hI.apart h0 h1 rfl bm rfl h, fun h => zC hI.apart h0 h2 rfl bm rfl h, fun q hq hs => zC hI.apart h1 h2 rfl q hq hs⟩
theorem kX {H : Hp} {σ0 : Sg} {ov0 : Value} {w0 : World} (hI : VI [(w0, HS (jj bm v1 v2 v3 vv hv ov0 σ0))] H w) (h0 : zm H 900 = some (.own bm [v1, v2, v3, vv, hv, ov, .int .i64 σ.time] 180)) (h1 : zm H 901 = some (.row 3 1 vv σ.vals.length (σ.vals.map ze))) (h2 : zm H 902 = some (.row 3 1 ov σ.outs.length (σ.outs.map ze))) (ho : ov.ownBlock = ov0.ownBlock \/ ∃ g, ov.ownBlock = some g /\ w0.heap.size <= g) : MachPost w0 w bm v1 v2 v3 vv hv ov0 σ :=
 ⟨ov, kG hI h0 h1 h2, hI.k0.mono fun _ _ hq => machHS.1 hq, ho⟩
theorem MachPost.hands {H : Hp} (hp : MachOk w' bm v1 v2 v3 vv hv ov σ') {ov0 : Value} (hk : Keep (qQ bm vv ov0) w w') (ho : ov.ownBlock = ov0.ownBlock \/ ∃ g, ov.ownBlock = some g /\ w.heap.size <= g) (h0 : zm H 900 = some (.own bm [v1, v2, v3, vv, hv, ov0, .int .i64 σ.time] 180)) (h1 : zm H 901 = some (.row 3 1 vv σ.vals.length (σ.vals.map ze))) (h2 : zm H 902 = some (.row 3 1 ov0 σ.outs.length (σ.outs.map ze))) : Hands H [900, 901, 902] (jj bm v1 v2 v3 vv hv ov σ') w w' := by
 obtain ⟨g1, g2⟩ := hp.lent
 have i0 : ∀ q, q = bm -> InS H [900, 901, 902] q := fun q hq => ⟨_, zn h0, rfl, hq⟩
 have i1 : ∀ q, vv.ownBlock = some q -> InS H [900, 901, 902] q := fun q hq => ⟨_, zn h1, rfl, hq⟩
 have i2 : ∀ q, ov0.ownBlock = some q -> InS H [900, 901, 902] q := fun q hq => ⟨_, zn h2, rfl, hq⟩
 refine ⟨hk.mono fun q _ hq => hq.elim (i0 q) fun hq => hq.elim (i1 q) (i2 q), fun x hx => ?_, g2⟩
 obtain ⟨k1, k2, k3, k4⟩ := g1 x hx
 refine ⟨k1, k2, k3, fun q hq => ⟨?_, k4 q hq⟩⟩
 simp only [List.mem_cons, List.not_mem_nil, or_false] at hx
 rcases hx with rfl | rfl | rfl
 . exact .inl (i0 q hq)
 . exact .inl (i1 q hq)
 ·
  rcases ho with ho | ⟨g, ho, hg⟩
  . exact .inl (i2 q (ho ▸ hq))
  ·
   have hq : ov.ownBlock = some q := hq
   rw [ho] at hq
   cases hq
   exact .inr hg
theorem jk {H : Hp} {f : FuncId} {args : Array Value} {n0 : Nat} {ov0 : Value} (hc : Calls Tryz.prog f args w (Ret fun r w' => r = .tuple #[] /\ MachPost w w' bm v1 v2 v3 vv hv ov0 σ')) (hsz : n0 <= w.heap.size) (h0 : zm H 900 = some (.own bm [v1, v2, v3, vv, hv, ov0, .int .i64 σ.time] 180)) (h1 : zm H 901 = some (.row 3 1 vv σ.vals.length (σ.vals.map ze))) (h2 : zm H 902 = some (.row 3 1 ov0 σ.outs.length (σ.outs.map ze))) : Calls Tryz.prog f args w (Ret fun r w' => ∃ ov', (r = .tuple #[] /\ (ov'.ownBlock = ov0.ownBlock \/ ∃ g, ov'.ownBlock = some g /\ n0 <= g)) /\ Hands H [900, 901, 902] (jj bm v1 v2 v3 vv hv ov' σ') w w') := by
 refine hc.mono ?_
 rintro e w' ⟨r, rfl, rfl, ov', hM, hk, ho⟩
 exact ⟨_, rfl, ov', ⟨rfl, ho.imp id fun ⟨g, h1, h2⟩ => ⟨g, h1, by omega⟩⟩, MachPost.hands hM hk ho h0 h1 h2⟩
theorem ziw {H : Hp} {σ0 : Sg} {ov0 : Value} {w0 : World} {bo : Nat} (hI : VI [(w0, HS (jj bm v1 v2 v3 vv hv ov0 σ0))] H w) (h0 : zm H 900 = some (.own bm [v1, v2, v3, vv, hv, ov, .int .i64 σ.time] 180)) (h1 : zm H 901 = some (.row 3 1 vv σ.vals.length (σ.vals.map ze))) (h2 : zm H 902 = some (.row 3 1 ov σ.outs.length (σ.outs.map ze))) (hb : ov.ownBlock = some bo) : ov.ownBlock = ov0.ownBlock \/ ∃ g, ov.ownBlock = some g /\ w0.heap.size <= g := by
 rcases (hI.base _ (List.mem_cons_self ..)).2 _ (zn h2) bo hb with h | h
 ·
  rcases machHS.1 h with h | h | h
  . exact absurd h (fun e => zC hI.apart h0 h2 rfl bm rfl (e ▸ hb))
  . exact absurd hb (zC hI.apart h1 h2 rfl bo h)
  . exact .inl (hb.trans h.symm)
 . exact .inr ⟨bo, hb, h⟩
def zix (f : Fl) (hs : List Int) (l : List St) : Prop := ∀ (N : Nat) (σ : Sg), SgB f N σ -> N + nbL l <= 100000 -> ∀ (Df Dh : Nat -> Prop) (w : World) (bm : Nat) (v1 v2 v3 vv hv ov lv : Value), (∀ q, Df q \/ Dh q -> q < w.heap.size) -> RFl Df w f v1 v2 v3 -> SlR 1 zv Dh w hv hs -> SlR 10 RSt Df w lv l -> MachOk w bm v1 v2 v3 vv hv ov σ -> (∀ q, qQ bm vv ov q -> ¬ Df q /\ ¬ Dh q) ->
 Calls Tryz.prog 120 #[.pointer (some ⟨bm, 0, none⟩), lv] w (Ret fun r w' => r = .tuple #[] /\ MachPost w w' bm v1 v2 v3 vv hv ov (exL f hs l σ))
end
open Go.GL
theorem zfJ (f : Fl) (σ : Sg) (i0 : Int) (n : Int) (v1 v2 v3 vv hv ov : Value) (Df : Nat -> Prop) (bm : Nat) (W : World) (hf : RFl Df W f v1 v2 v3) (hM : MachOk W bm v1 v2 v3 vv hv ov σ) (hD : ∀ q, qQ bm vv ov q -> ¬ Df q) (hi0 : 0 <= i0 /\ i0 < f.vars.length) (hl : σ.vals.length = f.vars.length) (hg : ∀ v ∈ f.vars, yf (v.low, v.high)) :
  Calls Tryz.prog 150 #[.pointer (some ⟨bm, 0, none⟩), .int .i64 i0, .int .i64 n] W (Ret fun r w' => r = .tuple #[] /\ MachPost W w' bm v1 v2 v3 vv hv ov { σ with vals := jg f.vars σ.vals i0 n }) := by
 obtain ⟨i, rfl⟩ : ∃ i : Nat, i0 = (i : Int) := ⟨i0.toNat, by omega⟩
 have hi : i < f.vars.length := by omega
 have hvs := hf.vars
 obtain ⟨av, cv, rfl⟩ := hvs.form
 have hmx := hvs.max
 have hlow : ∀ q, HS (jj bm (.slice av f.vars.length cv) v2 v3 vv hv ov σ) q -> ¬ Df q := fun q h => hD q (machHS.1 h)
 refine G.in3 Tryz.func150 rfl Tryz.ntmps150 rfl (V.inH [(900, .own bm [.slice av f.vars.length cv, v2, v3, vv, hv, ov, .int .i64 σ.time] 180), (901, .row 3 1 vv σ.vals.length (σ.vals.map ze)), (902, .row 3 1 ov σ.outs.length (σ.outs.map ze))] hM.lent.1 hM.lent.2 ?_)
 refine V.tag 0 900 0 rfl rfl ?_
 obtain ⟨x, he_x⟩ : ∃ z_, f.vars[i]? = some z_ := ⟨_, List.getElem?_eq_getElem (by omega)⟩
 have hm_x := List.mem_of_getElem? he_x
 obtain ⟨b_x, o_x, c_x, ha_x, hd_x, hc_x, hR_x⟩ := hvs.atD he_x
 obtain rfl := hR_x
 refine V.frS 1000 0 rfl rfl (fun h_ => by have h1_ := hlow _ h_; have h2_ := hd_x; first | omega | exact h1_ h2_) hc_x ?_
 have hgx := hg x hm_x
 have hse : jg f.vars σ.vals i n = σ.vals.set i (yV n x.low x.high) := by unfold jg; rw [Int.toNat_natCast, he_x]
 refine V.opened 901 rfl (by omega) ?_
 rintro bv cq rfl hcap_901
 refine Vw [900, 1000] [] rfl ?_
 refine Vd [0, 1, 2, 3, 4, 5, 6, 7, 8, 9, 10, 11, 15, 16, 17, 18, 19, 20] 0 (by kernel_rfl) rfl rfl rfl ?_
 refine VD.ix 12 1000 tR52 ts120 rfl (by kernel_rfl) rfl ha_x (by omega) (i) (rfl) rfl ?_
 refine Vd [13, 14] 0 (by kernel_rfl) rfl rfl rfl ?_
 refine VD.ix 21 1000 tR52 ts120 rfl (by kernel_rfl) rfl ha_x (by omega) (i) (rfl) rfl ?_
 refine Vd [22, 23] 0 (by kernel_rfl) rfl rfl rfl ?_
 refine VD.call1 24 0 Tryz.call147 rfl (by kernel_rfl) rfl rfl (fun w hI => qu n x.low x.high w hgx.2.1) ?_
 refine Vb [25] 0 (by kernel_rfl) rfl rfl rfl (by omega) ?_
 refine VD.rs 26 901 0 (i) ts3 rfl (by kernel_rfl) rfl rfl (by omega) (by simp; omega) ?_
 refine VD.done (by kernel_rfl) ?_
 refine V.heq 901 rfl (e' := .row 3 1 (.slice (some ⟨bv, 0, none⟩) σ.vals.length cq) (jg f.vars σ.vals i n).length ((jg f.vars σ.vals i n).map ze)) (by rw [hse, List.map_set, List.length_set]) ?_
 refine V.end0 Tryz.results150 (fun w hI => ⟨_, rfl, rfl, kX hI rfl rfl rfl (.inl rfl)⟩)
theorem xx {a b c : Value} {n : Nat} (h : b.ownBlock = a.ownBlock \/ ∃ g, b.ownBlock = some g /\ n <= g) (h' : c.ownBlock = b.ownBlock \/ ∃ g, c.ownBlock = some g /\ n <= g) : c.ownBlock = a.ownBlock \/ ∃ g, c.ownBlock = some g /\ n <= g := by
 rcases h' with h' | h'
 . rw [h']; exact h
 . exact .inr h'
theorem yZ {bm : Nat} {vv ov ov' : Value} {n : Nat} {D : Nat -> Prop} (h : ∀ q, qQ bm vv ov q -> ¬ D q) (hD : ∀ q, D q -> q < n) (ho : ov'.ownBlock = ov.ownBlock \/ ∃ g, ov'.ownBlock = some g /\ n <= g) : ∀ q, qQ bm vv ov' q -> ¬ D q := by
 rintro q (hq | hq | hq)
 . exact h q (.inl hq)
 . exact h q (.inr (.inl hq))
 ·
  rcases ho with ho | ⟨g, ho, hg⟩
  . exact h q (.inr (.inr (ho ▸ hq)))
  ·
   rw [ho] at hq
   cases hq
   exact fun hd => by have := hD q hd; omega
theorem zgS (f : Fl) (hs : List Int) (hg : ∀ v ∈ f.vars, yf (v.low, v.high)) (x : St) (ho : StepOk f x) (hn : 0 <= x.n) (hp : PreOk f x.thn) (ih : zix f hs x.thn) (N : Nat) (σ : Sg) (hB : SgB f N σ) (hN : N + x.n.toNat * (1 + nbL x.thn) <= 100000) (Df Dh : Nat -> Prop) (W : World) (bm : Nat) (v1 v2 v3 vv hv ov : Value) (hDb : ∀ q, Df q \/ Dh q -> q < W.heap.size) (hf : RFl Df W f v1 v2 v3) (hh : SlR 1 zv Dh W hv hs) (hM : MachOk W bm v1 v2 v3 vv hv ov σ) (hD : ∀ q, qQ bm vv ov q -> ¬ Df q /\ ¬ Dh q)
  (ax : Option Addr) (nx : Nat) (bx : Option Addr) (mx : Nat) (ex : Option Addr) (ox : Nat) (fx : Option Addr) (px : Nat) (hk : SlR 3 RTm Df W (.slice ax x.term.kids.length nx) x.term.kids) (ht : SlR 10 RSt Df W (.slice bx x.thn.length mx) x.thn) :
  Calls Tryz.prog 149 #[.pointer (some ⟨bm, 0, none⟩), .agg #[.int .i64 x.act, .int .i64 x.cost, .int .i64 x.var, .int .i64 x.n, .int .i64 x.term.op, .int .i64 x.term.n, .slice ax x.term.kids.length nx, .slice bx x.thn.length mx, .slice ex x.els.length ox, .slice fx x.bounds.length px]] W (Ret fun r w' => r = .tuple #[] /\ MachPost W w' bm v1 v2 v3 vv hv ov (xl (exL f hs x.thn) x.cost x.term x.n.toNat σ)) := by
 have hDf : ∀ q, Df q -> q < W.heap.size := fun q h => hDb q (.inl h)
 have hDh : ∀ q, Dh q -> q < W.heap.size := fun q h => hDb q (.inr h)
 have hlow : ∀ q, Df q -> q < W.heap.size -> ¬ HS (jj bm v1 v2 v3 vv hv ov σ) q := fun q h _ h' => (hD q (machHS.1 h')).1 h
 have hlow2 : ∀ q, Dh q -> q < W.heap.size -> ¬ HS (jj bm v1 v2 v3 vv hv ov σ) q := fun q h _ h' => (hD q (machHS.1 h')).2 h
 refine G.in2 Tryz.func149 rfl Tryz.ntmps149 rfl (V.inH [(900, .own bm [v1, v2, v3, vv, hv, ov, .int .i64 (σ).time] 180), (901, .row 3 1 vv (σ).vals.length ((σ).vals.map ze)), (902, .row 3 1 ov (σ).outs.length ((σ).outs.map ze))] hM.lent.1 hM.lent.2 ?_)
 refine V.tag 0 900 0 rfl rfl ?_
 refine Vs 2 rfl ?_
 refine V.box 3 rfl rfl (fun b3 => ?_)
 refine Vs 10 rfl ?_
 refine V.loopK (σ := Nat × Sg × Value) [0, 3, 5] [3] [0, 3] rfl (fun e ⟨k, s, ov'⟩ => (6, .int .i64 k) :: e) (fun e ⟨k, s, ov'⟩ => (900, .own bm [v1, v2, v3, vv, hv, ov', .int .i64 (s).time] 180) :: (901, .row 3 1 vv (s).vals.length ((s).vals.map ze)) :: (902, .row 3 1 ov' (s).outs.length ((s).outs.map ze)) :: e) (fun ⟨k, s, ov'⟩ => k <= x.n.toNat /\ xl (exL f hs x.thn) x.cost x.term (x.n.toNat - k) s = xl (exL f hs x.thn) x.cost x.term x.n.toNat σ /\ SgB f (N + k * (1 + nbL x.thn)) s /\ (ov'.ownBlock = ov.ownBlock \/ ∃ g, ov'.ownBlock = some g /\ W.heap.size <= g)) (fun ⟨k, s, ov'⟩ => x.n.toNat - k) ((0, σ, ov)) (Sub.of rfl) (Has.of rfl) (fun _ => rfl) (fun _ => rfl) (fun _ => rfl) (⟨Nat.zero_le _, by rw [Nat.sub_zero], by rw [Nat.zero_mul]; exact hB, .inl rfl⟩) ?_
 rintro ⟨k, s, ov'⟩ ⟨hk1, hall, hsB, hov⟩
 show V _ _ _ _ _ ((6, .int .i64 k) :: _) _ ((900, .own bm [v1, v2, v3, vv, hv, ov', .int .i64 (s).time] 180) :: (901, .row 3 1 vv (s).vals.length ((s).vals.map ze)) :: (902, .row 3 1 ov' (s).outs.length ((s).outs.map ze)) :: _) _
 have hcost := ho.cost
 have ht0 := hsB.t0
 have ht1 := hsB.t1
 refine Vs 6 rfl ?_
 refine V.ite rfl (fun hlt => ?_) (fun hlt => ?_)
 ·
  obtain ⟨m, hm⟩ : ∃ m, x.n.toNat - k = m + 1 := ⟨x.n.toNat - k - 1, by omega⟩
  have hm' : x.n.toNat - (k + 1) = m := by omega
  have hkn : (k + 1) * (1 + nbL x.thn) <= x.n.toNat * (1 + nbL x.thn) := Nat.mul_le_mul_right _ (by omega)
  rw [Nat.succ_mul] at hkn
  have hkb : k <= k * (1 + nbL x.thn) := Nat.le_mul_of_pos_right _ (by omega)
  rw [hm, xl] at hall
  have hs1' := hsB.cost ho
  refine Vs 5 rfl ?_
  refine Vw [3, 900] [9] rfl ?_
  refine Vb [0, 1, 2, 3, 4, 5, 6, 7, 8] 0 (by kernel_rfl) rfl rfl rfl (by omega) ?_
  refine Vl 9 rfl (by kernel_rfl) rfl ?_
  refine VDx.done (by kernel_rfl) ?_
  refine Vs 3 rfl ?_
  refine Vw [3, 900] [] rfl ?_
  refine Vd [0, 1, 2, 3, 4, 5] 0 (by kernel_rfl) rfl rfl rfl ?_
  refine VD.call1 6 0 tc148 rfl (by kernel_rfl) rfl rfl (fun w hI => jF hg hsB.inv x.term ho.formed ho.ranged _ Df (fun _ => True) w _ (SlR.ofRow1 ze (fun _ _ => rfl) (hI.at 901 rfl) (fun _ _ => trivial)) (RTm.put (hk.keep zk hI.k0 hlow))) ?_
  refine Vd [7] 0 (by kernel_rfl) rfl rfl rfl ?_
  refine VD.done (by kernel_rfl) ?_
  refine Vs 1 rfl ?_
  refine V.ite rfl (fun z => ?_) (fun z => ?_)
  ·
   rw [if_pos z] at hall
   rw [<- hall]
   refine Vs 6 rfl ?_
   refine V.ret0 Tryz.results149 (fun w hI => ⟨_, rfl, rfl, kX hI rfl rfl rfl hov⟩)
  ·
   rw [if_neg z] at hall
   refine Vs 6 rfl ?_
   refine V.callMs [900, 901, 902] (Hn := fun ov'' : Value => [(900, .own bm [v1, v2, v3, vv, hv, ov'', .int .i64 (exL f hs x.thn { s with time := s.time + x.cost }).time] 180), (901, .row 3 1 vv (exL f hs x.thn { s with time := s.time + x.cost }).vals.length ((exL f hs x.thn { s with time := s.time + x.cost }).vals.map ze)), (902, .row 3 1 ov'' (exL f hs x.thn { s with time := s.time + x.cost }).outs.length ((exL f hs x.thn { s with time := s.time + x.cost }).outs.map ze))]) [(0, some (900, 0)), (3, some (3, 0)), (8, some (900, 0)), (9, some (900, 0)), (10, some (900, 6)), (12, some (3, 1)), (15, some (900, 0)), (16, some (900, 6)), (17, some (900, 0)), (18, some (900, 0)), (19, some (900, 3)), (21, some (3, 4)), (25, some (900, 0)), (26, some (3, 7))] Tryz.call120 rfl (fun _ _ => rfl) (fun _ => rfl) (fun w hI => jk (σ := { s with time := s.time + x.cost }) (ih _ { s with time := s.time + x.cost } hs1' (by omega) Df Dh w bm v1 v2 v3 vv hv ov' _ (fun q hq => Nat.lt_of_lt_of_le (hDb q hq) (hI.k0).size) (hf.keep hI.k0 hlow) (hh.keep zb hI.k0 hlow2) (ht.keep zf hI.k0 hlow) (kG hI rfl rfl rfl) (fun q hq => ⟨yZ (fun q h => (hD q h).1) hDf hov q hq, yZ (fun q h => (hD q h).2) hDh hov q hq⟩)) (hI.k0).size rfl rfl rfl) ?_
   rintro _ ov'' ⟨rfl, hov2⟩
   refine Va 7 rfl (by omega) ?_
   refine V.back (⟨k + 1, _, ov''⟩) (Sub.of rfl) (Has.of rfl) (⟨by omega, by rw [hm']; exact hall, (ji hg x.thn hp _ _ hs1').mono (by rw [Nat.succ_mul]; omega), xx hov hov2⟩) (by first | omega | (dsimp only; omega)) 0 rfl rfl
 ·
  have hkk : k = x.n.toNat := by omega
  rw [hkk, Nat.sub_self, xl] at hall
  rw [<- hall]
  refine Vs 4 rfl ?_
  refine V.end0 Tryz.results149 (fun w hI => ⟨_, rfl, rfl, kX hI rfl rfl rfl hov⟩)
theorem zi0 (f : Fl) (hs : List Int) (hg : ∀ v ∈ f.vars, yf (v.low, v.high)) (hlen : hs.length = f.hatches.length) (_ : f.vars.length <= 1000) (l : List St) : PreOk f l -> zix f hs l := by
 induction l using Sts.ind with
 | h l ih =>
 intro hp N σ hB hN Df Dh W bm v1 v2 v3 vv hv ov lv hDb hf hh hl hM hD
 obtain ⟨al, cl, rfl⟩ := hl.form
 obtain ⟨ahv, chv, rfl⟩ := hh.form
 have hlm := hl.max
 have hDf : ∀ q, Df q -> q < W.heap.size := fun q h => hDb q (.inl h)
 have hDh : ∀ q, Dh q -> q < W.heap.size := fun q h => hDb q (.inr h)
 have hlow : ∀ q, Df q -> q < W.heap.size -> ¬ HS (jj bm v1 v2 v3 vv (.slice ahv hs.length chv) ov σ) q := fun q h _ h' => (hD q (machHS.1 h')).1 h
 have hlow2 : ∀ q, Dh q -> q < W.heap.size -> ¬ HS (jj bm v1 v2 v3 vv (.slice ahv hs.length chv) ov σ) q := fun q h _ h' => (hD q (machHS.1 h')).2 h
 have hlow' : ∀ q, HS (jj bm v1 v2 v3 vv (.slice ahv hs.length chv) ov σ) q -> ¬ Df q := fun q h => (hD q (machHS.1 h)).1
 have hlow2' : ∀ q, HS (jj bm v1 v2 v3 vv (.slice ahv hs.length chv) ov σ) q -> ¬ Dh q := fun q h => (hD q (machHS.1 h)).2
 refine G.in2 Tryz.func120 rfl Tryz.ntmps120 rfl (V.inH [(900, .own bm [v1, v2, v3, vv, .slice ahv hs.length chv, ov, .int .i64 (σ).time] 180), (901, .row 3 1 vv (σ).vals.length ((σ).vals.map ze)), (902, .row 3 1 ov (σ).outs.length ((σ).outs.map ze))] hM.lent.1 hM.lent.2 ?_)
 refine V.tag 0 900 0 rfl rfl ?_
 refine Vs 8 rfl ?_
 refine V.loopK (σ := Nat × Sg × Value) [0, 6, 7] [] [0] rfl (fun e ⟨i, s, ov'⟩ => (8, .int .i64 i) :: e) (fun e ⟨i, s, ov'⟩ => (900, .own bm [v1, v2, v3, vv, .slice ahv hs.length chv, ov', .int .i64 (s).time] 180) :: (901, .row 3 1 vv (s).vals.length ((s).vals.map ze)) :: (902, .row 3 1 ov' (s).outs.length ((s).outs.map ze)) :: e) (fun ⟨i, s, ov'⟩ => i <= l.length /\ s = exL f hs (l.take i) σ /\ SgB f (N + nbL (l.take i)) s /\ (ov'.ownBlock = ov.ownBlock \/ ∃ g, ov'.ownBlock = some g /\ W.heap.size <= g)) (fun ⟨i, s, ov'⟩ => l.length - i) ((0, σ, ov)) (Sub.of rfl) (Has.of rfl) (fun _ => rfl) (fun _ => rfl) (fun _ => rfl) (⟨Nat.zero_le _, rfl, hB, .inl rfl⟩) ?_
 rintro ⟨i, s, ov'⟩ ⟨hi, hall, hsB, hov⟩
 show V _ _ _ _ _ ((8, .int .i64 i) :: _) _ ((900, .own bm [v1, v2, v3, vv, .slice ahv hs.length chv, ov', .int .i64 (s).time] 180) :: (901, .row 3 1 vv (s).vals.length ((s).vals.map ze)) :: (902, .row 3 1 ov' (s).outs.length ((s).outs.map ze)) :: _) _
 have ht0 := hsB.t0
 have ht1 := hsB.t1
 have hol := hsB.ol
 refine Vs 6 rfl ?_
 refine V.ite rfl (fun hlt => ?_) (fun hlt => ?_)
 ·
  refine Vs 6 rfl ?_
  obtain ⟨x, he_x⟩ : ∃ z_, l[i]? = some z_ := ⟨_, List.getElem?_eq_getElem (by omega)⟩
  have hm_x := List.mem_of_getElem? he_x
  obtain ⟨b_x, o_x, c_x, ha_x, hd_x, hc_x, hR_x⟩ := hl.atD he_x
  obtain ⟨v1_x, v2_x, v3_x, v4_x, rfl, hk_x, ht_x, hs_x, hb_x⟩ := hR_x.get
  obtain ⟨a1_x, n1_x, rfl⟩ := hk_x.form
  obtain ⟨a2_x, n2_x, rfl⟩ := ht_x.form
  obtain ⟨a3_x, n3_x, rfl⟩ := hs_x.form
  obtain ⟨a4_x, n4_x, rfl⟩ := hb_x.form
  refine V.frS 1000 0 rfl rfl (fun h_ => by have h1_ := hlow' _ h_; have h2_ := hd_x; first | omega | exact h1_ h2_) hc_x ?_
  refine V.ix 1000 tR54 ts134 rfl ha_x (by omega) (_) (rfl) rfl ?_
  obtain ⟨⟨ho, hse, hn4⟩, hp1, hp2⟩ := hp.kids hm_x
  obtain ⟨i1, i2⟩ := ih x hm_x
  have hcost := ho.cost
  have hnx : nbL (l.take (i + 1)) = nbL (l.take i) + nbS x := by rw [zg he_x, qN]; rfl
  have hnl : nbL (l.take (i + 1)) <= nbL l := zec l (i + 1)
  have hnx1 := zfF x
  have hex : exL f hs (l.take (i + 1)) σ = exS f hs x s := by rw [zg he_x, km, <- hall]; rfl
  have hnS := zcy x
  have hinv : SgB f (N + nbL (l.take (i + 1))) (exS f hs x s) := by
   rw [<- hex]
   exact ji hg _ (fun s hs => hp s (by rw [<- List.take_append_drop (i + 1) l, qh]; simp [hs])) N σ hB
  have hs1' := hsB.cost ho
  have hi1 : i + 1 <= l.length := by omega
  refine Vs 1 rfl ?_
  refine V.alloc 5 tz134 rfl rfl (fun b5 => ?_)
  refine Vs 11 rfl ?_
  refine V.ite rfl (fun a4 => ?_) (fun a4 => ?_)
  ·
   rw [if_neg (by omega), if_pos a4] at hnS
   have hx : exS f hs x s = xl (exL f hs x.thn) x.cost x.term x.n.toNat s := by rw [xo, if_neg (by omega), if_pos a4]
   refine Vs 4 rfl ?_
   refine V.callMs [900, 901, 902] (Hn := fun ov'' : Value => [(900, .own bm [v1, v2, v3, vv, .slice ahv hs.length chv, ov'', .int .i64 (xl (exL f hs x.thn) x.cost x.term x.n.toNat s).time] 180), (901, .row 3 1 vv (xl (exL f hs x.thn) x.cost x.term x.n.toNat s).vals.length ((xl (exL f hs x.thn) x.cost x.term x.n.toNat s).vals.map ze)), (902, .row 3 1 ov'' (xl (exL f hs x.thn) x.cost x.term x.n.toNat s).outs.length ((xl (exL f hs x.thn) x.cost x.term x.n.toNat s).outs.map ze))]) [(0, some (900, 0)), (5, some (5, 0)), (10, some (1000, 0)), (12, some (5, 0)), (15, some (900, 0))] Tryz.call149 rfl (fun _ _ => rfl) (fun _ => rfl) (fun w hI => jk (σ := s) (zgS f hs hg x ho (hn4 a4) hp1 (i1 hp1) _ s hsB (by omega) Df Dh w bm v1 v2 v3 vv _ ov' (fun q hq => Nat.lt_of_lt_of_le (hDb q hq) (hI.k0).size) (hf.keep hI.k0 hlow) (hh.keep zb hI.k0 hlow2) (kG hI rfl rfl rfl) (fun q hq => ⟨yZ (fun q h => (hD q h).1) hDf hov q hq, yZ (fun q h => (hD q h).2) hDh hov q hq⟩) _ _ _ _ _ _ _ _ (hk_x.keep zk hI.k0 hlow) (ht_x.keep zf hI.k0 hlow)) (hI.k0).size rfl rfl rfl) ?_
   rintro _ ov'' ⟨rfl, hov2⟩
   refine Va 10 rfl (by omega) ?_
   refine V.back (⟨i + 1, _, ov''⟩) (Sub.of rfl) (Has.of rfl) (⟨hi1, by rw [hex, hx], by rw [<- hx]; exact hinv, xx hov hov2⟩) (by first | omega | (dsimp only; omega)) 0 rfl rfl
  ·
   refine Vs 3 rfl ?_
   refine Vw [900, 1000, 5] [9] rfl ?_
   refine Vb [0, 1, 2, 3, 4, 5, 6, 7, 8] 0 (by kernel_rfl) rfl rfl rfl (by omega) ?_
   refine Vl 9 rfl (by kernel_rfl) rfl ?_
   refine VDx.done (by kernel_rfl) ?_
   refine Vs 14 rfl ?_
   refine V.ite rfl (fun a0 => ?_) (fun a0 => ?_)
   ·
    have hx : exS f hs x s = { s with vals := jg f.vars s.vals x.var (xj s.vals x.term), time := s.time + x.cost } := by rw [xo, if_neg (by omega), if_neg a4]; unfold xS; rw [if_pos a0]
    have hvar := ho.var (.inl a0)
    refine Vw [1000, 5] [] rfl ?_
    refine Vd [0, 1, 2, 3, 4, 5, 7, 8] 0 (by kernel_rfl) rfl rfl rfl ?_
    refine Vo 6 0 rfl (by kernel_rfl) rfl rfl ?_
    refine VD.call1 9 0 tc148 rfl (by kernel_rfl) rfl rfl (fun w hI => jF hg hsB.inv x.term ho.formed ho.ranged _ Df (fun _ => True) w _ (SlR.ofRow1 ze (fun _ _ => rfl) (hI.at 901 rfl) (fun _ _ => trivial)) (RTm.put (hk_x.keep zk hI.k0 hlow))) ?_
    refine VD.callMs 10 0 [900, 901, 902] (Hn := fun ov'' : Value => [(900, .own bm [v1, v2, v3, vv, .slice ahv hs.length chv, ov'', .int .i64 ({ s with vals := jg f.vars s.vals x.var (xj s.vals x.term), time := s.time + x.cost }).time] 180), (901, .row 3 1 vv ({ s with vals := jg f.vars s.vals x.var (xj s.vals x.term), time := s.time + x.cost }).vals.length (({ s with vals := jg f.vars s.vals x.var (xj s.vals x.term), time := s.time + x.cost }).vals.map ze)), (902, .row 3 1 ov'' ({ s with vals := jg f.vars s.vals x.var (xj s.vals x.term), time := s.time + x.cost }).outs.length (({ s with vals := jg f.vars s.vals x.var (xj s.vals x.term), time := s.time + x.cost }).outs.map ze))]) [(0, some (900, 0)), (5, some (5, 0)), (10, some (1000, 0)), (12, some (5, 0)), (18, some (900, 0)), (19, some (900, 0)), (20, some (900, 6)), (22, some (5, 1)), (25, some (900, 0)), (26, some (900, 6)), (27, some (5, 0)), (31, some (900, 0)), (32, some (5, 2)), (34, some (900, 0)), (35, some (900, 0)), (36, some (900, 3)), (38, some (5, 4))] Tryz.call150 rfl (by kernel_rfl) rfl rfl (fun _ => rfl) (fun _ _ => rfl) (fun _ => rfl) (fun w hI => jk (σ := { s with time := s.time + x.cost }) (zfJ f { s with time := s.time + x.cost } x.var (xj s.vals x.term) v1 v2 v3 vv _ ov' Df bm w (hf.keep hI.k0 hlow) (kG hI rfl rfl rfl) (yZ (fun q h => (hD q h).1) hDf hov) hvar hsB.inv.len hg) (hI.k0).size rfl rfl rfl) ?_
    rintro _ ov'' ⟨rfl, hov2⟩
    refine VD.done (by kernel_rfl) ?_
    refine Va 7 rfl (by omega) ?_
    refine V.back (⟨i + 1, _, ov''⟩) (Sub.of rfl) (Has.of rfl) (⟨hi1, by rw [hex, hx], by rw [<- hx]; exact hinv, xx hov hov2⟩) (by first | omega | (dsimp only; omega)) 0 rfl rfl
   ·
    refine Vs 6 rfl ?_
    refine V.ite rfl (fun a1 => ?_) (fun a1 => ?_)
    ·
     have hx : exS f hs x s = { s with outs := s.outs ++ [xj s.vals x.term], time := s.time + x.cost } := by rw [xo, if_neg (by omega), if_neg a4]; unfold xS; rw [if_neg a0, if_pos a1]
     refine Vw [900, 1000, 5] [16] rfl ?_
     refine Vd [0, 1, 2, 3, 4, 5, 6, 7, 8, 9, 10] 0 (by kernel_rfl) rfl rfl rfl ?_
     refine VD.call1 11 0 tc148 rfl (by kernel_rfl) rfl rfl (fun w hI => jF hg hsB.inv x.term ho.formed ho.ranged _ Df (fun _ => True) w _ (SlR.ofRow1 ze (fun _ _ => rfl) (hI.at 901 rfl) (fun _ _ => trivial)) (RTm.put (hk_x.keep zk hI.k0 hlow))) ?_
     refine VD.bs 12 56 0 [(0, _)] tR31 ts3 tz3 (by decide) rfl (by kernel_rfl) rfl rfl (by kernel_rfl) (fun b56 => ?_)
     refine VD.ap 13 902 56 0 tu31 Tryz.el3 rfl (by decide) rfl (by kernel_rfl) rfl rfl rfl (by omega) (by omega) (fun u902 => ?_)
     refine Vd [14, 15] 0 (by kernel_rfl) rfl rfl rfl ?_
     refine VD.opened 902 rfl (by omega) ?_
     rintro bo co rfl hcap_902
     refine Vl 16 rfl (by kernel_rfl) rfl ?_
     refine VDx.done (by kernel_rfl) ?_
     refine Va 7 rfl (by omega) ?_
     refine V.heq 902 rfl (e' := .row 3 1 (.slice (some ⟨bo, 0, none⟩) (s.outs.length + 1) co) (s.outs ++ [xj s.vals x.term]).length ((s.outs ++ [xj s.vals x.term]).map ze)) (by rw [List.length_append, List.map_append]; rfl) ?_
     refine V.fact (p := (Value.slice (some ⟨bo, 0, none⟩) (s.outs.length + 1) co).ownBlock = ov.ownBlock \/ ∃ g, (Value.slice (some ⟨bo, 0, none⟩) (s.outs.length + 1) co).ownBlock = some g /\ W.heap.size <= g) (fun w hI => ziw (σ := { s with outs := s.outs ++ [xj s.vals x.term], time := s.time + x.cost }) hI rfl rfl rfl rfl) (fun hov2 => ?_)
     refine V.back (⟨i + 1, { s with outs := s.outs ++ [xj s.vals x.term], time := s.time + x.cost }, _⟩) (Sub.of rfl) (Has.of rfl) (⟨hi1, by rw [hex, hx], by rw [<- hx]; exact hinv, hov2⟩) (by first | omega | (dsimp only; omega)) 0 rfl rfl
    ·
     refine Vs 6 rfl ?_
     refine V.ite rfl (fun a3 => ?_) (fun a3 => ?_)
     ·
      have hx := xo f hs x s
      rw [if_pos a3] at hx
      rw [if_pos a3] at hnS
      refine Vs 1 rfl ?_
      refine Vw [900, 1000, 5] [] rfl ?_
      refine Vd [0, 1, 2, 3, 4, 5] 0 (by kernel_rfl) rfl rfl rfl ?_
      refine VD.call1 6 0 tc148 rfl (by kernel_rfl) rfl rfl (fun w hI => jF hg hsB.inv x.term ho.formed ho.ranged _ Df (fun _ => True) w _ (SlR.ofRow1 ze (fun _ _ => rfl) (hI.at 901 rfl) (fun _ _ => trivial)) (RTm.put (hk_x.keep zk hI.k0 hlow))) ?_
      refine Vd [7] 0 (by kernel_rfl) rfl rfl rfl ?_
      refine VD.done (by kernel_rfl) ?_
      refine Vs 1 rfl ?_
      refine V.ite rfl (fun z => ?_) (fun z => ?_)
      ·
       rw [if_pos z] at hx
       refine Vs 4 rfl ?_
       refine V.callMs [900, 901, 902] (Hn := fun ov'' : Value => [(900, .own bm [v1, v2, v3, vv, .slice ahv hs.length chv, ov'', .int .i64 (exL f hs x.thn { s with time := s.time + x.cost }).time] 180), (901, .row 3 1 vv (exL f hs x.thn { s with time := s.time + x.cost }).vals.length ((exL f hs x.thn { s with time := s.time + x.cost }).vals.map ze)), (902, .row 3 1 ov'' (exL f hs x.thn { s with time := s.time + x.cost }).outs.length ((exL f hs x.thn { s with time := s.time + x.cost }).outs.map ze))]) [(0, some (900, 0)), (5, some (5, 0)), (10, some (1000, 0)), (12, some (5, 0)), (18, some (900, 0)), (19, some (900, 0)), (20, some (900, 6)), (22, some (5, 1)), (25, some (900, 0)), (26, some (900, 6)), (27, some (5, 0)), (62, some (900, 0)), (63, some (900, 0)), (64, some (900, 3)), (66, some (5, 4)), (70, some (900, 0)), (71, some (5, 7))] Tryz.call120 rfl (fun _ _ => rfl) (fun _ => rfl) (fun w hI => jk (σ := { s with time := s.time + x.cost }) (i1 hp1 _ { s with time := s.time + x.cost } hs1' (by omega) Df Dh w bm v1 v2 v3 vv _ ov' _ (fun q hq => Nat.lt_of_lt_of_le (hDb q hq) (hI.k0).size) (hf.keep hI.k0 hlow) (hh.keep zb hI.k0 hlow2) (ht_x.keep zf hI.k0 hlow) (kG hI rfl rfl rfl) (fun q hq => ⟨yZ (fun q h => (hD q h).1) hDf hov q hq, yZ (fun q h => (hD q h).2) hDh hov q hq⟩)) (hI.k0).size rfl rfl rfl) ?_
       rintro _ ov'' ⟨rfl, hov2⟩
       refine Va 8 rfl (by omega) ?_
       refine V.back (⟨i + 1, _, ov''⟩) (Sub.of rfl) (Has.of rfl) (⟨hi1, by rw [hex, hx], by rw [<- hx]; exact hinv, xx hov hov2⟩) (by first | omega | (dsimp only; omega)) 0 rfl rfl
      ·
       rw [if_neg z] at hx
       refine Vs 4 rfl ?_
       refine V.callMs [900, 901, 902] (Hn := fun ov'' : Value => [(900, .own bm [v1, v2, v3, vv, .slice ahv hs.length chv, ov'', .int .i64 (exL f hs x.els { s with time := s.time + x.cost }).time] 180), (901, .row 3 1 vv (exL f hs x.els { s with time := s.time + x.cost }).vals.length ((exL f hs x.els { s with time := s.time + x.cost }).vals.map ze)), (902, .row 3 1 ov'' (exL f hs x.els { s with time := s.time + x.cost }).outs.length ((exL f hs x.els { s with time := s.time + x.cost }).outs.map ze))]) [(0, some (900, 0)), (5, some (5, 0)), (10, some (1000, 0)), (12, some (5, 0)), (18, some (900, 0)), (19, some (900, 0)), (20, some (900, 6)), (22, some (5, 1)), (25, some (900, 0)), (26, some (900, 6)), (27, some (5, 0)), (62, some (900, 0)), (63, some (900, 0)), (64, some (900, 3)), (66, some (5, 4)), (74, some (900, 0)), (75, some (5, 8))] Tryz.call120 rfl (fun _ _ => rfl) (fun _ => rfl) (fun w hI => jk (σ := { s with time := s.time + x.cost }) (i2 hp2 _ { s with time := s.time + x.cost } hs1' (by omega) Df Dh w bm v1 v2 v3 vv _ ov' _ (fun q hq => Nat.lt_of_lt_of_le (hDb q hq) (hI.k0).size) (hf.keep hI.k0 hlow) (hh.keep zb hI.k0 hlow2) (hs_x.keep zf hI.k0 hlow) (kG hI rfl rfl rfl) (fun q hq => ⟨yZ (fun q h => (hD q h).1) hDf hov q hq, yZ (fun q h => (hD q h).2) hDh hov q hq⟩)) (hI.k0).size rfl rfl rfl) ?_
       rintro _ ov'' ⟨rfl, hov2⟩
       refine Va 8 rfl (by omega) ?_
       refine V.back (⟨i + 1, _, ov''⟩) (Sub.of rfl) (Has.of rfl) (⟨hi1, by rw [hex, hx], by rw [<- hx]; exact hinv, xx hov hov2⟩) (by first | omega | (dsimp only; omega)) 0 rfl rfl
     ·
      refine Vs 6 rfl ?_
      refine V.ite rfl (fun a5 => ?_) (fun a5 => ?_)
      ·
       have hx : exS f hs x s = { s with vals := jg f.vars s.vals x.var (lki hs x.n.toNat), time := s.time + x.cost } := by rw [xo, if_neg (by omega), if_neg a4]; unfold xS; rw [if_neg a0, if_neg a1, if_pos a5]
       have hvar := ho.var (.inr a5)
       have hnum := ho.num a5
       obtain ⟨y, he_y⟩ : ∃ z_, hs[x.n.toNat]? = some z_ := ⟨_, List.getElem?_eq_getElem (by omega)⟩
       have hm_y := List.mem_of_getElem? he_y
       obtain ⟨b_y, o_y, c_y, ha_y, hd_y, hc_y, hR_y⟩ := hh.atD he_y
       obtain rfl := hR_y
       refine V.frS 2000 0 rfl rfl (fun h_ => by have h1_ := hlow2' _ h_; have h2_ := hd_y; first | omega | exact h1_ h2_) hc_y ?_
       have hy : lki hs x.n.toNat = y := zfu he_y
       rw [hy] at hx
       refine Vw [1000, 5, 2000] [] rfl ?_
       refine Vd [0, 1, 2, 3, 4, 5, 7, 8] 0 (by kernel_rfl) rfl rfl rfl ?_
       refine Vo 6 0 rfl (by kernel_rfl) rfl rfl ?_
       refine VD.ix 9 2000 tR31 ts3 rfl (by kernel_rfl) rfl ha_y (by omega) (x.n.toNat) (by omega) rfl ?_
       refine Vd [10] 0 (by kernel_rfl) rfl rfl rfl ?_
       refine VD.callMs 11 0 [900, 901, 902] (Hn := fun ov'' : Value => [(900, .own bm [v1, v2, v3, vv, .slice ahv hs.length chv, ov'', .int .i64 ({ s with vals := jg f.vars s.vals x.var (y), time := s.time + x.cost }).time] 180), (901, .row 3 1 vv ({ s with vals := jg f.vars s.vals x.var (y), time := s.time + x.cost }).vals.length (({ s with vals := jg f.vars s.vals x.var (y), time := s.time + x.cost }).vals.map ze)), (902, .row 3 1 ov'' ({ s with vals := jg f.vars s.vals x.var (y), time := s.time + x.cost }).outs.length (({ s with vals := jg f.vars s.vals x.var (y), time := s.time + x.cost }).outs.map ze))]) [(0, some (900, 0)), (5, some (5, 0)), (10, some (1000, 0)), (12, some (5, 0)), (18, some (900, 0)), (19, some (900, 0)), (20, some (900, 6)), (22, some (5, 1)), (25, some (900, 0)), (26, some (900, 6)), (27, some (5, 0)), (80, some (900, 0)), (81, some (5, 2)), (83, some (900, 0)), (84, some (900, 0)), (85, some (900, 4)), (87, some (5, 3)), (89, some (2000, 0))] Tryz.call150 rfl (by kernel_rfl) rfl rfl (fun _ => rfl) (fun _ _ => rfl) (fun _ => rfl) (fun w hI => jk (σ := { s with time := s.time + x.cost }) (zfJ f { s with time := s.time + x.cost } x.var (y) v1 v2 v3 vv _ ov' Df bm w (hf.keep hI.k0 hlow) (kG hI rfl rfl rfl) (yZ (fun q h => (hD q h).1) hDf hov) hvar hsB.inv.len hg) (hI.k0).size rfl rfl rfl) ?_
       rintro _ ov'' ⟨rfl, hov2⟩
       refine VD.done (by kernel_rfl) ?_
       refine Va 7 rfl (by omega) ?_
       refine V.back (⟨i + 1, _, ov''⟩) (Sub.of rfl) (Has.of rfl) (⟨hi1, by rw [hex, hx], by rw [<- hx]; exact hinv, xx hov hov2⟩) (by first | omega | (dsimp only; omega)) 0 rfl rfl
      ·
       refine Vs 6 rfl ?_
       refine V.ite rfl (fun a6 => ?_) (fun a6 => ?_)
       ·
        have hx : exS f hs x s = { s with time := xk x.bounds (s.time + x.cost) } := by rw [xo, if_neg (by omega), if_neg a4]; unfold xS; rw [if_neg a0, if_neg a1, if_neg a5, if_pos a6]
        refine Vw [900, 1000, 5] [10] rfl ?_
        refine Vd [0, 1, 2, 3, 4, 5, 6] 0 (by kernel_rfl) rfl rfl rfl ?_
        refine VD.call1 7 0 Tryz.call151 rfl (by kernel_rfl) rfl rfl (fun w hI => zaR x.bounds (s.time + x.cost) _ Df w (hb_x.keep zb hI.k0 hlow)) ?_
        refine Vd [8, 9] 0 (by kernel_rfl) rfl rfl rfl ?_
        refine Vl 10 rfl (by kernel_rfl) rfl ?_
        refine VDx.done (by kernel_rfl) ?_
        refine Va 7 rfl (by omega) ?_
        refine V.back (⟨i + 1, { s with time := xk x.bounds (s.time + x.cost) }, ov'⟩) (Sub.of rfl) (Has.of rfl) (⟨hi1, by rw [hex, hx], by rw [<- hx]; exact hinv, hov⟩) (by first | omega | (dsimp only; omega)) 0 rfl rfl
       ·
        have hx : exS f hs x s = { s with time := s.time + x.cost } := by rw [xo, if_neg (by omega), if_neg a4]; unfold xS; rw [if_neg a0, if_neg a1, if_neg a5, if_neg a6]
        refine Va 8 rfl (by omega) ?_
        refine V.back (⟨i + 1, { s with time := s.time + x.cost }, ov'⟩) (Sub.of rfl) (Has.of rfl) (⟨hi1, by rw [hex, hx], by rw [<- hx]; exact hinv, hov⟩) (by first | omega | (dsimp only; omega)) 0 rfl rfl
 ·
  have hii : i = l.length := by omega
  subst hii
  rw [List.take_length] at hall
  subst hall
  refine Vs 4 rfl ?_
  refine V.end0 Tryz.results120 (fun w hI => ⟨_, rfl, rfl, kX hI rfl rfl rfl hov⟩)
end Go.Proofs.YtbkhagigkglgoaaGreatDoor
