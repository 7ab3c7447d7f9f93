/-
  Contracts and the mathematics that the proof needs. Nothing here is a claim.
-/
import Derived.Test.YtldhllpogdikdaaGreatKS3
namespace Go.Proofs.YtldhllpogdikdaaGreat
open Go.GL
def RNew (cs : List Value) (e : TypeId) : World → Value → World → Prop := fun a v a' => ∃ b, v = .pointer (some ⟨b, 0, none⟩) ∧ New a cs e b a'
theorem RNew.ext {cs : List Value} {e : TypeId} {a a' : World} {v : Value} (h : RNew cs e a v a') : Ext a a' := by obtain ⟨_, _, h⟩ := h; obtain ⟨_, _, _, h⟩ := h; exact h
theorem RNew.apart {cs cs' : List Value} {e e' : TypeId} {v u : Value} {b c : Nat} (h : Apart (RNew cs e) v (RNew cs' e') u) (hb : v = .pointer (some ⟨b, 0, none⟩)) (hc : u = .pointer (some ⟨c, 0, none⟩)) : b ≠ c := by
 rcases h with ⟨a, a', d, d', ⟨b1, e1, g1, s1, _, _⟩, ⟨c1, e2, g2, s2, _, _⟩, hk⟩ | ⟨a, a', d, d', ⟨b1, e1, g1, s1, _, _⟩, ⟨c1, e2, g2, s2, _, _⟩, hk⟩
 · rw [hb] at e1; rw [hc] at e2; cases e1; cases e2; have := hk.size; omega
 · rw [hb] at e1; rw [hc] at e2; cases e1; cases e2; have := hk.size; omega
theorem upper_ok (vs : List Vr) (nh : Nat) (l : List St) : ∀ (v : Value) (D : Nat → Prop) (w : World) (top : Bool), stepsCodeN vs nh l top = 0 → SlR 10 RSt D w v l → sbulk l ≤ 1000000 → Calls Tryz.prog 105 #[v] w (Ret fun r w' => r = .agg #[.int .i64 (cap 1099511627776 (bds l).1), .int .i64 (cap 1099511627776 (bds l).2.1), .int .i64 (cap 1099511627776 (bds l).2.2)] ∧ Ext w w') := by
 induction l using Sts.ind with
 | h l ih =>
 intro v D w top hok hl hb
 have hmx := hl.max
 obtain ⟨av, nv, rfl⟩ := hl.form
 have hl0 := hl
 have hE := Keep.refl (fun _ => False) w
 refine G.in1 Tryz.func105 rfl Tryz.ntmps105 rfl (Gs 2 rfl (G.mem rfl rfl (M.alloc (cs := _) Tryz.zeroValue160 rfl) ?_))
 rintro _ w_r ⟨r, rfl, hg_r, hs_r, hB_r, hk_r⟩
 have hge_r : _ ≤ r := Nat.le_trans hE.size (Nat.le_of_eq hg_r.symm)
 obtain ⟨hE, hl⟩ := Tr2 hk_r hE hl
 refine Gs 4 rfl (G.mem rfl rfl (M.alloc (cs := _) Tryz.zeroValue160 rfl) ?_)
 rintro _ w_o ⟨o, rfl, hg_o, hs_o, hB_o, hk_o⟩
 have hn_r_o : r ≠ o := by have := hB_r.lt; omega
 have hge_o : _ ≤ o := Nat.le_trans hE.size (Nat.le_of_eq hg_o.symm)
 obtain ⟨hE, hl, hB_r⟩ := Tr3 hk_o hE hl hB_r
 refine Gs 11 rfl ?_
 have hk0 := Keep.refl (fun q => q = o) w_o
 refine G.loop (σ := Nat) (fun i => [(2, .pointer (some ⟨r, 0, none⟩)), (3, .pointer (some ⟨o, 0, none⟩)), (9, .slice av l.length nv), (10, .int .i64 l.length), (11, .int .i64 i)]) (fun i => fun w' => i ≤ l.length ∧ Blk w' o [.int .i64 (cap 1099511627776 (bds (l.take i)).1), .int .i64 (cap 1099511627776 (bds (l.take i)).2.1), .int .i64 (cap 1099511627776 (bds (l.take i)).2.2)] 160 ∧ Blk w' r [.int .i64 0, .int .i64 0, .int .i64 0] 160 ∧ Ext w w') (fun i => l.length - i) (0) (Sub.of rfl) (⟨Nat.zero_le _, hB_o, hB_r, hE⟩) ?_
 rintro i w1 ⟨hi, hB_o, hB_r, hE⟩
 have hl := hl0.ext stable_st hE
 refine Gs 6 rfl (G.ite rfl (fun hlt => ?_) (fun hlt => ?_))
 ·
  obtain ⟨x, he_x⟩ : ∃ x, l[i]? = some x := ⟨_, List.getElem?_eq_getElem (by omega)⟩
  have hm_x := List.mem_of_getElem? he_x
  obtain ⟨b_x, o_x, c_x, ha_x, _, hc_x, hR_x⟩ := hl.at he_x
  have h1_x := RSt.one hR_x
  obtain ⟨v1_x, v2_x, v3_x, v4_x, rfl, hk_x, ht_x, hs_x, hb_x⟩ := hR_x.get
  obtain ⟨a1_x, n1_x, rfl⟩ := hk_x.form
  obtain ⟨a2_x, n2_x, rfl⟩ := ht_x.form
  obtain ⟨a3_x, n3_x, rfl⟩ := hs_x.form
  obtain ⟨a4_x, n4_x, rfl⟩ := hb_x.form
  have hlt_x : b_x < _ := World.block_lt_of_cell? _ _ (hc_x 0 _ rfl)
  have htk := bds_take he_x
  have htk1 : (bds (l.take (i + 1))).1 = (bds (l.take i)).1 + (stepB x).1 := by rw [htk]
  have htk2 : (bds (l.take (i + 1))).2.1 = (bds (l.take i)).2.1 + (stepB x).2.1 := by rw [htk]
  have htk3 : (bds (l.take (i + 1))).2.2 = (bds (l.take i)).2.2 + (stepB x).2.2 := by rw [htk]
  have hpre : 0 ≤ (bds (l.take i)).1 ∧ 0 ≤ (bds (l.take i)).2.1 ∧ 0 ≤ (bds (l.take i)).2.2 := bds_pre hok i
  obtain ⟨last, hx0⟩ := steps_mem l top hok x hm_x
  obtain ⟨hS, _, _, hs1, hs2⟩ := step_ok hx0
  have hcost := hS.cost
  have n1 := bds_nonneg x.thn _ hs1
  have n2 := bds_nonneg x.els _ hs2
  have y := stepB_nonneg hx0
  have hbx := sbulk_mem hm_x
  rw [St.bulk_eq] at hbx
  refine Gs 6 rfl (G.ops1 rfl rfl (R.indexS Tryz.runUnderlying24 Tryz.sizeOf86 rfl rfl ha_x (by omega)) (G.ldK rfl Tryz.isAgg86 Tryz.sizeOf86 hc_x rfl (G.mem rfl rfl (M.alloc (cs := _) Tryz.zeroValue86 rfl) ?_)))
  rintro _ wa1 ⟨c, rfl, hg_c, hs_c, hB_c, hk_c⟩
  refine G.mem0 rfl (M.storeK Tryz.sizeOf86 rfl rfl rfl rfl h1_x hB_c (by simp)) ?_
  rintro w_c ⟨_, hB_c, hkk_c⟩
  replace hk_c := hk_c.trans hkk_c (fun q hq h => by have h : q = c := h; omega)
  have hn_r_c : r ≠ c := by have := hB_r.lt; omega
  have hn_o_c : o ≠ c := by have := hB_o.lt; omega
  have hge_c : _ ≤ c := Nat.le_trans hE.size (Nat.le_of_eq hg_c.symm)
  obtain ⟨hE, hl, hB_r, hB_o, hc_x, hk_x, ht_x⟩ := Tr7 hk_c hE hl hB_r hB_o hc_x hk_x ht_x
  obtain ⟨hs_x, hb_x⟩ := Tr2 hk_c hs_x hb_x
  refine Gs 5 rfl (G.ld rfl Tryz.isAgg3 (hB_c.cells 1 _ rfl) (G.ops1 rfl rfl (R.build (v := .agg #[.int .i64 1, .int .i64 0, .int .i64 x.cost]) [(0, _), (2, _)] rfl (fun _ => by kernel_rfl)) (G.mem rfl rfl (M.alloc (cs := _) Tryz.zeroValue160 rfl) ?_)))
  rintro _ wa2 ⟨p, rfl, hg_p, hs_p, hB_p, hk_p⟩
  refine G.mem0 rfl (M.storeK Tryz.sizeOf160 rfl rfl rfl rfl (by simp [Value.oneCell']) hB_p (by simp)) ?_
  rintro w_p ⟨_, hB_p, hkk_p⟩
  replace hk_p := hk_p.trans hkk_p (fun q hq h => by have h : q = p := h; omega)
  have hn_r_p : r ≠ p := by have := hB_r.lt; omega
  have hn_o_p : o ≠ p := by have := hB_o.lt; omega
  have hn_c_p : c ≠ p := by have := hB_c.lt; omega
  have hge_p : _ ≤ p := Nat.le_trans hE.size (Nat.le_of_eq hg_p.symm)
  obtain ⟨hE, hl, hB_r, hB_o, hk_x, ht_x, hs_x⟩ := Tr7 hk_p hE hl hB_r hB_o hk_x ht_x hs_x
  obtain ⟨hb_x, hB_c⟩ := Tr2 hk_p hb_x hB_c
  refine Gs 3 rfl ?_
  have hlr : r < w_p.heap.size := hB_r.lt
  have hlo : o < w_p.heap.size := hB_o.lt
  have hlc : c < w_p.heap.size := hB_c.lt
  have hlp : p < w_p.heap.size := hB_p.lt
  refine Dw (fun q => Ext w_p q) [] (fun wd0 hD _ => (Ds [0] (by kernel_rfl) rfl (WD.take 1 rfl (by kernel_rfl) rfl rfl rfl hD (fun w1 hw1 => R.load Tryz.isAgg24 rfl ((hw1.blk hB_c (fun h => h)).cells 7 _ rfl)) (Ds [3] (by kernel_rfl) rfl (WD.take 4 rfl (by kernel_rfl) rfl rfl rfl hD (fun w1 hw1 => R.load Tryz.isAgg24 rfl ((hw1.blk hB_c (fun h => h)).cells 8 _ rfl)) ?_)))))
  refine WD.many (fuel := 2) (L3 := #[true, true, true, true, true, true, true, true, false, false]) [⟨2, _, 20, fun a v a' => v = .agg #[.int .i64 (cap 1099511627776 (bds x.thn).1), .int .i64 (cap 1099511627776 (bds x.thn).2.1), .int .i64 (cap 1099511627776 (bds x.thn).2.2)] ∧ Ext a a'⟩, ⟨5, _, 23, fun a v a' => v = .agg #[.int .i64 (cap 1099511627776 (bds x.els).1), .int .i64 (cap 1099511627776 (bds x.els).2.1), .int .i64 (cap 1099511627776 (bds x.els).2.2)] ∧ Ext a a'⟩, ⟨6, _, 7, RNew [.int .i64 0, .int .i64 0, .int .i64 0] 160⟩, ⟨7, _, 8, RNew [.int .i64 0, .int .i64 0, .int .i64 0] 160⟩]
   (List.forall_mem_cons.2 ⟨⟨rfl, rfl, rfl, rfl, rfl⟩, List.forall_mem_cons.2 ⟨⟨rfl, rfl, rfl, rfl, rfl⟩, List.forall_mem_cons.2 ⟨⟨rfl, rfl, rfl, rfl, rfl⟩, List.forall_mem_cons.2 ⟨⟨rfl, rfl, rfl, rfl, rfl⟩, by simp⟩⟩⟩⟩)
   (show List.Nodup [20, 23, 7, 8] by decide) (show List.Nodup [2, 5, 6, 7] by decide) (by kernel_rfl) (fun w' h => hD.ext h) ?_ ?_ ?_
  · refine List.forall_mem_cons.2 ⟨fun a v a' h => h.2, List.forall_mem_cons.2 ⟨fun a v a' h => h.2, List.forall_mem_cons.2 ⟨fun a v a' h => h.ext, List.forall_mem_cons.2 ⟨fun a v a' h => h.ext, by simp⟩⟩⟩⟩
  · refine List.forall_mem_cons.2 ⟨fun w' h => Does.call (F.call (vs := [_]) Tryz.call105 rfl) ((ih x hm_x).1 _ _ _ _ hs1 (ht_x.ext stable_st (hD.ext h)) (by omega)), List.forall_mem_cons.2 ⟨fun w' h => Does.call (F.call (vs := [_]) Tryz.call105 rfl) ((ih x hm_x).2 _ _ _ _ hs2 (hs_x.ext stable_st (hD.ext h)) (by omega)), List.forall_mem_cons.2 ⟨fun w' h => Does.of (M.alloc (cs := _) Tryz.zeroValue160 rfl), List.forall_mem_cons.2 ⟨fun w' h => Does.of (M.alloc (cs := _) Tryz.zeroValue160 rfl), by simp⟩⟩⟩⟩
  intro val wm hEm hmade hap
  obtain ⟨_, _, _, ⟨e2, _⟩, _⟩ := hmade _ (List.mem_cons_self ..)
  obtain ⟨_, _, _, ⟨e5, _⟩, _⟩ := hmade _ (List.mem_cons_of_mem _ (List.mem_cons_self ..))
  obtain ⟨a6, a6', h61, ⟨t, e6, hg6, hs6, hB6, hk6⟩, h62⟩ := hmade _ (List.mem_cons_of_mem _ (List.mem_cons_of_mem _ (List.mem_cons_self ..)))
  obtain ⟨a7, a7', h71, ⟨u, e7, hg7, hs7, hB7, hk7⟩, h72⟩ := hmade _ (List.mem_cons_of_mem _ (List.mem_cons_of_mem _ (List.mem_cons_of_mem _ (List.mem_cons_self ..))))
  have hn_t_u : t ≠ u := RNew.apart (hap _ (List.mem_cons_of_mem _ (List.mem_cons_of_mem _ (List.mem_cons_self ..))) _ (List.mem_cons_of_mem _ (List.mem_cons_of_mem _ (List.mem_cons_of_mem _ (List.mem_cons_self ..)))) (show (7 : Nat) ≠ 8 by decide)) e6 e7
  have hgt : w_p.heap.size ≤ t := by have := hD.size; have := h61.size; omega
  have hgu : w_p.heap.size ≤ u := by have := hD.size; have := h71.size; omega
  have hB_t := h62.blk hB6 (fun h => h)
  have hB_u := h72.blk hB7 (fun h => h)
  replace hD := hD.ext hEm
  have hn_r_t : r ≠ t := by omega
  have hn_r_u : r ≠ u := by omega
  have hn_o_t : o ≠ t := by omega
  have hn_o_u : o ≠ u := by omega
  have hn_c_t : c ≠ t := by omega
  have hn_c_u : c ≠ u := by omega
  have hn_p_t : p ≠ t := by omega
  have hn_p_u : p ≠ u := by omega
  show WD _ _ _ _ _ _ _ _ ((20, val 20) :: (23, val 23) :: (7, val 7) :: (8, val 8) :: _) _
  rw [e2, e5, e6, e7]
  refine WD.mem0 8 rfl (by kernel_rfl) rfl rfl (M.storeK Tryz.sizeOf160 rfl rfl rfl rfl (by simp [Value.oneCell']) hB_t (by simp)) ?_
  rintro ws1 ⟨_, hB_t, hs1⟩
  replace hB_u := hs1.blk hB_u (fun h => hn_t_u h.symm)
  replace hD := hD.trans hs1 (fun q hq h => by have h : q = t := h; omega)
  refine ⟨fun _ => hD, ?_⟩
  refine WD.mem0 9 rfl (by kernel_rfl) rfl rfl (M.storeK Tryz.sizeOf160 rfl rfl rfl rfl (by simp [Value.oneCell']) hB_u (by simp)) ?_
  rintro ws2 ⟨_, hB_u, hs2⟩
  replace hB_t := hs2.blk hB_t hn_t_u
  replace hD := hD.trans hs2 (fun q hq h => by have h : q = u := h; omega)
  refine ⟨fun _ => hD, ?_⟩
  refine G.done (by kernel_rfl) ?_ _
  obtain ⟨hE, hl, hB_r, hB_o, hk_x, ht_x, hs_x⟩ := Tr7 hD hE hl hB_r hB_o hk_x ht_x hs_x
  obtain ⟨hb_x, hB_c, hB_p⟩ := Tr3 hD hb_x hB_c hB_p
  have hge_t : w.heap.size ≤ t := by have := hE.size; omega
  have hge_u : w.heap.size ≤ u := by have := hE.size; omega
  have r1 := cap_range n1.1 (show (0:Int) ≤ 1099511627776 by decide)
  have r2 := cap_range n1.2.1 (show (0:Int) ≤ 1099511627776 by decide)
  have r3 := cap_range n1.2.2 (show (0:Int) ≤ 1099511627776 by decide)
  have r4 := cap_range n2.1 (show (0:Int) ≤ 1099511627776 by decide)
  have r5 := cap_range n2.2.1 (show (0:Int) ≤ 1099511627776 by decide)
  have r6 := cap_range n2.2.2 (show (0:Int) ≤ 1099511627776 by decide)
  have t1 := cap_range hpre.1 (show (0:Int) ≤ 1099511627776 by decide)
  have t2 := cap_range hpre.2.1 (show (0:Int) ≤ 1099511627776 by decide)
  have t3 := cap_range hpre.2.2 (show (0:Int) ≤ 1099511627776 by decide)
  refine Gs 5 rfl (G.ld rfl Tryz.isAgg80 (hB_c.cells 0 _ rfl) (Gs 9 rfl (G.ite rfl (fun a1 => ?_) (fun a1 => ?_))))
  ·
   obtain ⟨g1, g2⟩ := hS.free (by omega) (by omega)
   have eB : stepB x = (1, 1, x.cost) := by rw [stepB_eq, g1, g2, if_neg (by omega)]; simp [bds, a1]
   have f1 : cap 1099511627776 1 = cap 1099511627776 (stepB x).1 := by rw [eB]
   have f2 : cap 1099511627776 1 = cap 1099511627776 (stepB x).2.1 := by rw [eB]
   have f3 : cap 1099511627776 x.cost = cap 1099511627776 (stepB x).2.2 := by rw [eB]
   have z1 : (0 : Int) ≤ 1 := by decide
   have z2 : (0 : Int) ≤ 1 := by decide
   have z3 := hcost.1
   refine Gs 2 rfl (G.mem0 rfl (M.store Tryz.sizeOf3 rfl rfl rfl rfl hB_p (by simp)) ?_)
   rintro ws3 ⟨_, hB_p, hs3⟩
   replace hE := hE.trans hs3 (fun q hq h => by have h : q = p := h; omega)
   replace hB_r := hs3.blk hB_r hn_r_p
   replace hB_o := hs3.blk hB_o hn_o_p
   replace hB_c := hs3.blk hB_c hn_c_p
   replace hB_t := hs3.blk hB_t (fun h => hn_p_t h.symm)
   replace hB_u := hs3.blk hB_u (fun h => hn_p_u h.symm)
   refine Gs 6 rfl (G.ld rfl Tryz.isAgg3 (hB_o.cells 0 _ rfl) (Gs 1 rfl (G.ld rfl Tryz.isAgg3 (hB_p.cells 0 _ rfl) (Ga 3 rfl (by omega) (G.mem0 rfl (M.store Tryz.sizeOf3 rfl rfl rfl rfl hB_o (by simp)) ?_)))))
   rintro ws4 ⟨_, hB_o, hs4⟩
   replace hE := hE.trans hs4 (fun q hq h => by have h : q = o := h; omega)
   replace hB_r := hs4.blk hB_r hn_r_o
   replace hB_c := hs4.blk hB_c (fun h => hn_o_c h.symm)
   replace hB_p := hs4.blk hB_p (fun h => hn_o_p h.symm)
   replace hB_t := hs4.blk hB_t (fun h => hn_o_t h.symm)
   replace hB_u := hs4.blk hB_u (fun h => hn_o_u h.symm)
   refine Gs 5 rfl (G.ld rfl Tryz.isAgg3 (hB_o.cells 1 _ rfl) (Gs 1 rfl (G.ld rfl Tryz.isAgg3 (hB_p.cells 1 _ rfl) (Ga 3 rfl (by omega) (G.mem0 rfl (M.store Tryz.sizeOf3 rfl rfl rfl rfl hB_o (by simp)) ?_)))))
   rintro ws5 ⟨_, hB_o, hs5⟩
   replace hE := hE.trans hs5 (fun q hq h => by have h : q = o := h; omega)
   replace hB_r := hs5.blk hB_r hn_r_o
   replace hB_c := hs5.blk hB_c (fun h => hn_o_c h.symm)
   replace hB_p := hs5.blk hB_p (fun h => hn_o_p h.symm)
   replace hB_t := hs5.blk hB_t (fun h => hn_o_t h.symm)
   replace hB_u := hs5.blk hB_u (fun h => hn_o_u h.symm)
   refine Gs 4 rfl (G.ld rfl Tryz.isAgg3 (hB_o.cells 2 _ rfl) (Gs 1 rfl (G.ld rfl Tryz.isAgg3 (hB_p.cells 2 _ rfl) (Ga 3 rfl (by omega) (G.mem0 rfl (M.store Tryz.sizeOf3 rfl rfl rfl rfl hB_o (by simp)) ?_)))))
   rintro ws6 ⟨_, hB_o, hs6⟩
   replace hE := hE.trans hs6 (fun q hq h => by have h : q = o := h; omega)
   replace hB_r := hs6.blk hB_r hn_r_o
   replace hB_c := hs6.blk hB_c (fun h => hn_o_c h.symm)
   replace hB_p := hs6.blk hB_p (fun h => hn_o_p h.symm)
   replace hB_t := hs6.blk hB_t (fun h => hn_o_t h.symm)
   replace hB_u := hs6.blk hB_u (fun h => hn_o_u h.symm)
   refine Ga 7 rfl (by omega) (G.back (i + 1) (Sub.of rfl) (⟨by omega, by rw [htk1, htk2, htk3, ← cap_add hpre.1 y.1 z1 f1, ← cap_add hpre.2.1 y.2.1 z2 f2, ← cap_add hpre.2.2 y.2.2 z3 f3]; exact hB_o, hB_r, hE⟩) (by first | omega | (dsimp only; omega)))
  ·
   refine Gs 6 rfl (G.ite rfl (fun a3 => ?_) (fun a3 => ?_))
   ·
    have n4 : ¬ x.act = 4 := by omega
    have f1 : cap 1099511627776 (1 + max (cap 1099511627776 (bds x.thn).1) (cap 1099511627776 (bds x.els).1)) = cap 1099511627776 (stepB x).1 := by rw [stepB_eq, if_neg n4]; exact cap_max (by omega) n1.1 n2.1
    have f2 : cap 1099511627776 (max (cap 1099511627776 (bds x.thn).2.1) (cap 1099511627776 (bds x.els).2.1)) = cap 1099511627776 (stepB x).2.1 := by rw [stepB_eq, if_neg n4]; simp only [a1, if_false]; exact cap_max0 n1.2.1 n2.2.1
    have f3 : cap 1099511627776 (x.cost + max (cap 1099511627776 (bds x.thn).2.2) (cap 1099511627776 (bds x.els).2.2)) = cap 1099511627776 (stepB x).2.2 := by rw [stepB_eq, if_neg n4]; exact cap_max hcost.1 n1.2.2 n2.2.2
    have z1 : 0 ≤ 1 + max (cap 1099511627776 (bds x.thn).1) (cap 1099511627776 (bds x.els).1) := by omega
    have z2 : 0 ≤ max (cap 1099511627776 (bds x.thn).2.1) (cap 1099511627776 (bds x.els).2.1) := by omega
    have z3 : 0 ≤ x.cost + max (cap 1099511627776 (bds x.thn).2.2) (cap 1099511627776 (bds x.els).2.2) := by omega
    refine Gs 3 rfl (G.ld rfl Tryz.isAgg3 (hB_p.cells 0 _ rfl) (Gs 1 rfl (G.ld rfl Tryz.isAgg3 (hB_t.cells 0 _ rfl) (Gs 1 rfl (G.ld rfl Tryz.isAgg3 (hB_u.cells 0 _ rfl) (Ga 3 rfl (by omega) (G.mem0 rfl (M.store Tryz.sizeOf3 rfl rfl rfl rfl hB_p (by simp)) ?_)))))))
    rintro ws7 ⟨_, hB_p, hs7⟩
    replace hE := hE.trans hs7 (fun q hq h => by have h : q = p := h; omega)
    replace hB_r := hs7.blk hB_r hn_r_p
    replace hB_o := hs7.blk hB_o hn_o_p
    replace hB_c := hs7.blk hB_c hn_c_p
    replace hB_t := hs7.blk hB_t (fun h => hn_p_t h.symm)
    replace hB_u := hs7.blk hB_u (fun h => hn_p_u h.symm)
    refine Gs 5 rfl (G.ld rfl Tryz.isAgg3 (hB_t.cells 1 _ rfl) (Gs 1 rfl (G.ld rfl Tryz.isAgg3 (hB_u.cells 1 _ rfl) (Gs 2 rfl (G.mem0 rfl (M.store Tryz.sizeOf3 rfl rfl rfl rfl hB_p (by simp)) ?_)))))
    rintro ws8 ⟨_, hB_p, hs8⟩
    replace hE := hE.trans hs8 (fun q hq h => by have h : q = p := h; omega)
    replace hB_r := hs8.blk hB_r hn_r_p
    replace hB_o := hs8.blk hB_o hn_o_p
    replace hB_c := hs8.blk hB_c hn_c_p
    replace hB_t := hs8.blk hB_t (fun h => hn_p_t h.symm)
    replace hB_u := hs8.blk hB_u (fun h => hn_p_u h.symm)
    refine Gs 4 rfl (G.ld rfl Tryz.isAgg3 (hB_p.cells 2 _ rfl) (Gs 1 rfl (G.ld rfl Tryz.isAgg3 (hB_t.cells 2 _ rfl) (Gs 1 rfl (G.ld rfl Tryz.isAgg3 (hB_u.cells 2 _ rfl) (Ga 3 rfl (by omega) (G.mem0 rfl (M.store Tryz.sizeOf3 rfl rfl rfl rfl hB_p (by simp)) ?_)))))))
    rintro ws9 ⟨_, hB_p, hs9⟩
    replace hE := hE.trans hs9 (fun q hq h => by have h : q = p := h; omega)
    replace hB_r := hs9.blk hB_r hn_r_p
    replace hB_o := hs9.blk hB_o hn_o_p
    replace hB_c := hs9.blk hB_c hn_c_p
    replace hB_t := hs9.blk hB_t (fun h => hn_p_t h.symm)
    replace hB_u := hs9.blk hB_u (fun h => hn_p_u h.symm)
    refine Gs 6 rfl (G.ld rfl Tryz.isAgg3 (hB_o.cells 0 _ rfl) (Gs 1 rfl (G.ld rfl Tryz.isAgg3 (hB_p.cells 0 _ rfl) (Ga 3 rfl (by omega) (G.mem0 rfl (M.store Tryz.sizeOf3 rfl rfl rfl rfl hB_o (by simp)) ?_)))))
    rintro ws10 ⟨_, hB_o, hs10⟩
    replace hE := hE.trans hs10 (fun q hq h => by have h : q = o := h; omega)
    replace hB_r := hs10.blk hB_r hn_r_o
    replace hB_c := hs10.blk hB_c (fun h => hn_o_c h.symm)
    replace hB_p := hs10.blk hB_p (fun h => hn_o_p h.symm)
    replace hB_t := hs10.blk hB_t (fun h => hn_o_t h.symm)
    replace hB_u := hs10.blk hB_u (fun h => hn_o_u h.symm)
    refine Gs 5 rfl (G.ld rfl Tryz.isAgg3 (hB_o.cells 1 _ rfl) (Gs 1 rfl (G.ld rfl Tryz.isAgg3 (hB_p.cells 1 _ rfl) (Ga 3 rfl (by omega) (G.mem0 rfl (M.store Tryz.sizeOf3 rfl rfl rfl rfl hB_o (by simp)) ?_)))))
    rintro ws11 ⟨_, hB_o, hs11⟩
    replace hE := hE.trans hs11 (fun q hq h => by have h : q = o := h; omega)
    replace hB_r := hs11.blk hB_r hn_r_o
    replace hB_c := hs11.blk hB_c (fun h => hn_o_c h.symm)
    replace hB_p := hs11.blk hB_p (fun h => hn_o_p h.symm)
    replace hB_t := hs11.blk hB_t (fun h => hn_o_t h.symm)
    replace hB_u := hs11.blk hB_u (fun h => hn_o_u h.symm)
    refine Gs 4 rfl (G.ld rfl Tryz.isAgg3 (hB_o.cells 2 _ rfl) (Gs 1 rfl (G.ld rfl Tryz.isAgg3 (hB_p.cells 2 _ rfl) (Ga 3 rfl (by omega) (G.mem0 rfl (M.store Tryz.sizeOf3 rfl rfl rfl rfl hB_o (by simp)) ?_)))))
    rintro ws12 ⟨_, hB_o, hs12⟩
    replace hE := hE.trans hs12 (fun q hq h => by have h : q = o := h; omega)
    replace hB_r := hs12.blk hB_r hn_r_o
    replace hB_c := hs12.blk hB_c (fun h => hn_o_c h.symm)
    replace hB_p := hs12.blk hB_p (fun h => hn_o_p h.symm)
    replace hB_t := hs12.blk hB_t (fun h => hn_o_t h.symm)
    replace hB_u := hs12.blk hB_u (fun h => hn_o_u h.symm)
    refine Ga 7 rfl (by omega) (G.back (i + 1) (Sub.of rfl) (⟨by omega, by rw [htk1, htk2, htk3, ← cap_add hpre.1 y.1 z1 f1, ← cap_add hpre.2.1 y.2.1 z2 f2, ← cap_add hpre.2.2 y.2.2 z3 f3]; exact hB_o, hB_r, hE⟩) (by first | omega | (dsimp only; omega)))
   ·
    refine Gs 6 rfl (G.ite rfl (fun a4 => ?_) (fun a4 => ?_))
    ·
     have hr := hS.rep a4
     have p1 := mul_range x.n (1 + cap 1099511627776 (bds x.thn).1) 4096 1099511627777 hr.1 hr.2.1 (by omega) (by omega)
     have p2 := mul_range x.n (cap 1099511627776 (bds x.thn).2.1) 4096 1099511627776 hr.1 hr.2.1 (by omega) (by omega)
     have p3 := mul_range x.n (x.cost + cap 1099511627776 (bds x.thn).2.2) 4096 1099578736640 hr.1 hr.2.1 (by omega) (by omega)
     have q1 := Int.mul_nonneg hr.1 (show 0 ≤ 1 + (bds x.thn).1 by omega)
     have f1 : cap 1099511627776 (1 + x.n * (1 + cap 1099511627776 (bds x.thn).1)) = cap 1099511627776 (stepB x).1 := by rw [stepB_eq, if_pos a4]; exact cap_one p1.1 q1 (cap_mul hr.1 (by omega) n1.1 (by omega))
     have f2 : cap 1099511627776 (x.n * cap 1099511627776 (bds x.thn).2.1) = cap 1099511627776 (stepB x).2.1 := by rw [stepB_eq, if_pos a4]; exact cap_mul0 hr.1 n1.2.1 (by omega)
     have f3 : cap 1099511627776 (x.n * (x.cost + cap 1099511627776 (bds x.thn).2.2)) = cap 1099511627776 (stepB x).2.2 := by rw [stepB_eq, if_pos a4]; exact cap_mul hr.1 hcost.1 n1.2.2 (by omega)
     have z1 : 0 ≤ 1 + x.n * (1 + cap 1099511627776 (bds x.thn).1) := by omega
     have z2 := p2.1
     have z3 := p3.1
     refine Gs 3 rfl (G.ld rfl Tryz.isAgg3 (hB_p.cells 0 _ rfl) (Gs 1 rfl (G.ld rfl Tryz.isAgg3 (hB_c.cells 3 _ rfl) (Gs 1 rfl (G.ld rfl Tryz.isAgg3 (hB_t.cells 0 _ rfl) (Ga 4 rfl (by omega) (G.mem0 rfl (M.store Tryz.sizeOf3 rfl rfl rfl rfl hB_p (by simp)) ?_)))))))
     rintro ws13 ⟨_, hB_p, hs13⟩
     replace hE := hE.trans hs13 (fun q hq h => by have h : q = p := h; omega)
     replace hB_r := hs13.blk hB_r hn_r_p
     replace hB_o := hs13.blk hB_o hn_o_p
     replace hB_c := hs13.blk hB_c hn_c_p
     replace hB_t := hs13.blk hB_t (fun h => hn_p_t h.symm)
     replace hB_u := hs13.blk hB_u (fun h => hn_p_u h.symm)
     refine Gs 5 rfl (G.ld rfl Tryz.isAgg3 (hB_c.cells 3 _ rfl) (Gs 1 rfl (G.ld rfl Tryz.isAgg3 (hB_t.cells 1 _ rfl) (Ga 2 rfl (by omega) (G.mem0 rfl (M.store Tryz.sizeOf3 rfl rfl rfl rfl hB_p (by simp)) ?_)))))
     rintro ws14 ⟨_, hB_p, hs14⟩
     replace hE := hE.trans hs14 (fun q hq h => by have h : q = p := h; omega)
     replace hB_r := hs14.blk hB_r hn_r_p
     replace hB_o := hs14.blk hB_o hn_o_p
     replace hB_c := hs14.blk hB_c hn_c_p
     replace hB_t := hs14.blk hB_t (fun h => hn_p_t h.symm)
     replace hB_u := hs14.blk hB_u (fun h => hn_p_u h.symm)
     refine Gs 4 rfl (G.ld rfl Tryz.isAgg3 (hB_c.cells 3 _ rfl) (Gs 1 rfl (G.ld rfl Tryz.isAgg3 (hB_c.cells 1 _ rfl) (Gs 1 rfl (G.ld rfl Tryz.isAgg3 (hB_t.cells 2 _ rfl) (Ga 3 rfl (by omega) (G.mem0 rfl (M.store Tryz.sizeOf3 rfl rfl rfl rfl hB_p (by simp)) ?_)))))))
     rintro ws15 ⟨_, hB_p, hs15⟩
     replace hE := hE.trans hs15 (fun q hq h => by have h : q = p := h; omega)
     replace hB_r := hs15.blk hB_r hn_r_p
     replace hB_o := hs15.blk hB_o hn_o_p
     replace hB_c := hs15.blk hB_c hn_c_p
     replace hB_t := hs15.blk hB_t (fun h => hn_p_t h.symm)
     replace hB_u := hs15.blk hB_u (fun h => hn_p_u h.symm)
     refine Gs 6 rfl (G.ld rfl Tryz.isAgg3 (hB_o.cells 0 _ rfl) (Gs 1 rfl (G.ld rfl Tryz.isAgg3 (hB_p.cells 0 _ rfl) (Ga 3 rfl (by omega) (G.mem0 rfl (M.store Tryz.sizeOf3 rfl rfl rfl rfl hB_o (by simp)) ?_)))))
     rintro ws16 ⟨_, hB_o, hs16⟩
     replace hE := hE.trans hs16 (fun q hq h => by have h : q = o := h; omega)
     replace hB_r := hs16.blk hB_r hn_r_o
     replace hB_c := hs16.blk hB_c (fun h => hn_o_c h.symm)
     replace hB_p := hs16.blk hB_p (fun h => hn_o_p h.symm)
     replace hB_t := hs16.blk hB_t (fun h => hn_o_t h.symm)
     replace hB_u := hs16.blk hB_u (fun h => hn_o_u h.symm)
     refine Gs 5 rfl (G.ld rfl Tryz.isAgg3 (hB_o.cells 1 _ rfl) (Gs 1 rfl (G.ld rfl Tryz.isAgg3 (hB_p.cells 1 _ rfl) (Ga 3 rfl (by omega) (G.mem0 rfl (M.store Tryz.sizeOf3 rfl rfl rfl rfl hB_o (by simp)) ?_)))))
     rintro ws17 ⟨_, hB_o, hs17⟩
     replace hE := hE.trans hs17 (fun q hq h => by have h : q = o := h; omega)
     replace hB_r := hs17.blk hB_r hn_r_o
     replace hB_c := hs17.blk hB_c (fun h => hn_o_c h.symm)
     replace hB_p := hs17.blk hB_p (fun h => hn_o_p h.symm)
     replace hB_t := hs17.blk hB_t (fun h => hn_o_t h.symm)
     replace hB_u := hs17.blk hB_u (fun h => hn_o_u h.symm)
     refine Gs 4 rfl (G.ld rfl Tryz.isAgg3 (hB_o.cells 2 _ rfl) (Gs 1 rfl (G.ld rfl Tryz.isAgg3 (hB_p.cells 2 _ rfl) (Ga 3 rfl (by omega) (G.mem0 rfl (M.store Tryz.sizeOf3 rfl rfl rfl rfl hB_o (by simp)) ?_)))))
     rintro ws18 ⟨_, hB_o, hs18⟩
     replace hE := hE.trans hs18 (fun q hq h => by have h : q = o := h; omega)
     replace hB_r := hs18.blk hB_r hn_r_o
     replace hB_c := hs18.blk hB_c (fun h => hn_o_c h.symm)
     replace hB_p := hs18.blk hB_p (fun h => hn_o_p h.symm)
     replace hB_t := hs18.blk hB_t (fun h => hn_o_t h.symm)
     replace hB_u := hs18.blk hB_u (fun h => hn_o_u h.symm)
     refine Ga 7 rfl (by omega) (G.back (i + 1) (Sub.of rfl) (⟨by omega, by rw [htk1, htk2, htk3, ← cap_add hpre.1 y.1 z1 f1, ← cap_add hpre.2.1 y.2.1 z2 f2, ← cap_add hpre.2.2 y.2.2 z3 f3]; exact hB_o, hB_r, hE⟩) (by first | omega | (dsimp only; omega)))
    ·
     obtain ⟨g1, g2⟩ := hS.free a3 a4
     have eB : stepB x = (1, 0, x.cost) := by rw [stepB_eq, g1, g2, if_neg a4]; simp [bds, a1]
     have f1 : cap 1099511627776 1 = cap 1099511627776 (stepB x).1 := by rw [eB]
     have f2 : cap 1099511627776 0 = cap 1099511627776 (stepB x).2.1 := by rw [eB]
     have f3 : cap 1099511627776 x.cost = cap 1099511627776 (stepB x).2.2 := by rw [eB]
     have z1 : (0 : Int) ≤ 1 := by decide
     have z2 : (0 : Int) ≤ 0 := by decide
     have z3 := hcost.1
     refine Gs 6 rfl (G.ld rfl Tryz.isAgg3 (hB_o.cells 0 _ rfl) (Gs 1 rfl (G.ld rfl Tryz.isAgg3 (hB_p.cells 0 _ rfl) (Ga 3 rfl (by omega) (G.mem0 rfl (M.store Tryz.sizeOf3 rfl rfl rfl rfl hB_o (by simp)) ?_)))))
     rintro ws19 ⟨_, hB_o, hs19⟩
     replace hE := hE.trans hs19 (fun q hq h => by have h : q = o := h; omega)
     replace hB_r := hs19.blk hB_r hn_r_o
     replace hB_c := hs19.blk hB_c (fun h => hn_o_c h.symm)
     replace hB_p := hs19.blk hB_p (fun h => hn_o_p h.symm)
     replace hB_t := hs19.blk hB_t (fun h => hn_o_t h.symm)
     replace hB_u := hs19.blk hB_u (fun h => hn_o_u h.symm)
     refine Gs 5 rfl (G.ld rfl Tryz.isAgg3 (hB_o.cells 1 _ rfl) (Gs 1 rfl (G.ld rfl Tryz.isAgg3 (hB_p.cells 1 _ rfl) (Ga 3 rfl (by omega) (G.mem0 rfl (M.store Tryz.sizeOf3 rfl rfl rfl rfl hB_o (by simp)) ?_)))))
     rintro ws20 ⟨_, hB_o, hs20⟩
     replace hE := hE.trans hs20 (fun q hq h => by have h : q = o := h; omega)
     replace hB_r := hs20.blk hB_r hn_r_o
     replace hB_c := hs20.blk hB_c (fun h => hn_o_c h.symm)
     replace hB_p := hs20.blk hB_p (fun h => hn_o_p h.symm)
     replace hB_t := hs20.blk hB_t (fun h => hn_o_t h.symm)
     replace hB_u := hs20.blk hB_u (fun h => hn_o_u h.symm)
     refine Gs 4 rfl (G.ld rfl Tryz.isAgg3 (hB_o.cells 2 _ rfl) (Gs 1 rfl (G.ld rfl Tryz.isAgg3 (hB_p.cells 2 _ rfl) (Ga 3 rfl (by omega) (G.mem0 rfl (M.store Tryz.sizeOf3 rfl rfl rfl rfl hB_o (by simp)) ?_)))))
     rintro ws21 ⟨_, hB_o, hs21⟩
     replace hE := hE.trans hs21 (fun q hq h => by have h : q = o := h; omega)
     replace hB_r := hs21.blk hB_r hn_r_o
     replace hB_c := hs21.blk hB_c (fun h => hn_o_c h.symm)
     replace hB_p := hs21.blk hB_p (fun h => hn_o_p h.symm)
     replace hB_t := hs21.blk hB_t (fun h => hn_o_t h.symm)
     replace hB_u := hs21.blk hB_u (fun h => hn_o_u h.symm)
     refine Ga 7 rfl (by omega) (G.back (i + 1) (Sub.of rfl) (⟨by omega, by rw [htk1, htk2, htk3, ← cap_add hpre.1 y.1 z1 f1, ← cap_add hpre.2.1 y.2.1 z2 f2, ← cap_add hpre.2.2 y.2.2 z3 f3]; exact hB_o, hB_r, hE⟩) (by first | omega | (dsimp only; omega)))
 ·
  have hii : i = l.length := by omega
  subst hii
  rw [List.take_length] at hB_o
  refine Gs 7 rfl (G.ldK rfl Tryz.isAgg160 Tryz.sizeOf160 hB_o.cells rfl (G.mem0 rfl (M.storeK Tryz.sizeOf160 rfl rfl rfl rfl (by simp [Value.oneCell']) hB_r (by simp)) ?_))
  rintro wf ⟨_, hBf, hkf⟩
  refine Gs 3 rfl (G.retC Tryz.results105 rfl (run_loadK Tryz.isAgg160 Tryz.sizeOf160 rfl hBf.cells) ?_)
  exact ⟨_, rfl, rfl, hE.trans hkf (fun q hq h => by have h : q = r := h; omega)⟩
def sizesB (f : Fl) : Bool := decide (f.vars.length ≤ 64) && decide (f.hatches.length ≤ 8) && f.hatches.all (fun h => decide (h.term.depth ≤ 12)) && (decide (sdepth f.body ≤ 12) && !stdeep f.body)
theorem refSizes_ok (f : Fl) (v1 v2 v3 : Value) (D : Nat → Prop) (w : World) (hf : RFl D w f v1 v2 v3) (hsz : snodes f.body + hnodes f.hatches ≤ 1024) : Calls Tryz.prog 61 #[.agg #[v1, v2, v3]] w (Ret fun r w' => r = .bool (sizesB f) ∧ Ext w w') := by
 obtain ⟨hvs, hhs, hbd⟩ := hf
 have hm1 := hvs.max
 have hm2 := hhs.max
 obtain ⟨a1, n1, rfl⟩ := hvs.form
 obtain ⟨a2, n2, rfl⟩ := hhs.form
 have hE := Keep.refl (fun _ => False) w
 refine G.in1 Tryz.func61 rfl Tryz.ntmps61 rfl (Gs 2 rfl (G.mem rfl rfl (M.box rfl rfl) ?_))
 rintro _ w_b ⟨b, rfl, hg_b, hs_b, hB_b, hk_b⟩
 have hge_b : _ ≤ b := Nat.le_trans hE.size (Nat.le_of_eq hg_b.symm)
 obtain ⟨hE, hvs, hhs, hbd⟩ := Tr4 hk_b hE hvs hhs hbd
 refine Gs 7 rfl (G.ld rfl Tryz.isAgg22 (hB_b.cells 0 _ rfl) (Gs 3 rfl (G.sp 9 rfl (fun g1 => ?_) (fun g1 => ?_))))
 · refine Gs 15 rfl (G.ret1 Tryz.results61 rfl ⟨_, rfl, by unfold sizesB; rw [decide_eq_false (show ¬ f.vars.length ≤ 64 by omega)]; rfl, hE⟩)
 ·
  refine Gs 1 rfl (G.ld rfl Tryz.isAgg23 (hB_b.cells 1 _ rfl) (Gs 5 rfl (G.ite rfl (fun g2 => ?_) (fun g2 => ?_))))
  · refine Gs 7 rfl (G.ret1 Tryz.results61 rfl ⟨_, rfl, by unfold sizesB; rw [decide_eq_false (show ¬ f.hatches.length ≤ 8 by omega), Bool.and_false]; rfl, hE⟩)
  ·
   have hpre : sizesB f = (f.hatches.all (fun h => decide (h.term.depth ≤ 12)) && (decide (sdepth f.body ≤ 12) && !stdeep f.body)) := by
    unfold sizesB; rw [decide_eq_true (show f.vars.length ≤ 64 by omega), decide_eq_true (show f.hatches.length ≤ 8 by omega)]; rfl
   refine Gs 5 rfl (G.ld rfl Tryz.isAgg24 (hB_b.cells 2 _ rfl) (G.call rfl Tryz.call108 (refNodes_ok f.body _ D _ hbd (by omega)) ?_))
   rintro _ wz1 ⟨rfl, hz1⟩
   obtain ⟨hE, hvs, hhs, hbd, hB_b⟩ := Tr5 hz1 hE hvs hhs hbd hB_b
   refine Gs 10 rfl (G.loop (σ := Nat) (fun i => [(1, .pointer (some ⟨b, 0, none⟩)), (3, .int .i64 ((snodes f.body : Int) + hnodes (f.hatches.take i))), (4, .int .i64 i)]) (fun i => fun w' => i ≤ f.hatches.length ∧ (f.hatches.take i).all (fun h => decide (h.term.depth ≤ 12)) = true ∧ Ext wz1 w') (fun i => f.hatches.length - i) (0) (Sub.of rfl) (⟨Nat.zero_le _, rfl, Keep.refl _ _⟩) ?_)
   rintro i w1 ⟨hi, hall, hL1⟩
   obtain ⟨hE, hvs, hhs, hbd, hB_b⟩ := Tr5 hL1 hE hvs hhs hbd hB_b
   refine Gs 5 rfl (G.ld rfl Tryz.isAgg23 (hB_b.cells 1 _ rfl) (Gs 4 rfl (G.ite rfl (fun hlt => ?_) (fun hlt => ?_))))
   ·
    obtain ⟨x, he_x⟩ : ∃ x, f.hatches[i]? = some x := ⟨_, List.getElem?_eq_getElem (by omega)⟩
    have hm_x := List.mem_of_getElem? he_x
    obtain ⟨b_x, o_x, c_x, ha_x, _, hc_x, hR_x⟩ := hhs.at he_x
    have h1_x := RHt.one hR_x
    obtain ⟨v1_x, rfl, hk_x⟩ := hR_x
    obtain ⟨a1_x, n1_x, rfl⟩ := hk_x.form
    have hlt_x : b_x < _ := World.block_lt_of_cell? _ _ (hc_x 0 _ rfl)
    have hsp := hnodes_split he_x
    have htk := hnodes_take he_x
    have hdn : x.term.depth ≤ x.term.nodes := by have := tdepth_nodes [x.term]; simp [tdepth, tnodes] at this; exact this
    refine Gs 8 rfl (G.ld rfl Tryz.isAgg23 (hB_b.cells 1 _ rfl) (Gs 1 rfl (G.ops1 rfl rfl (R.indexS Tryz.runUnderlying23 Tryz.sizeOf109 rfl rfl ha_x (by omega)) (Gs 1 rfl (G.ldK rfl Tryz.isAgg84 Tryz.sizeOf84 (hc_x.sub 3 3) rfl (G.call rfl Tryz.call109 (refTermNodes_ok x.term _ D _ (RTm.put hk_x) (by omega)) ?_))))))
    rintro _ wz2 ⟨rfl, hz2⟩
    obtain ⟨hE, hvs, hhs, hbd, hB_b, hL1, hc_x⟩ := Tr7 hz2 hE hvs hhs hbd hB_b hL1 hc_x
    replace hk_x := Tr1 hz2 hk_x
    refine Ga 7 rfl (by omega) (G.ld rfl Tryz.isAgg23 (hB_b.cells 1 _ rfl) (Gs 1 rfl (G.ops1 rfl rfl (R.indexS Tryz.runUnderlying23 Tryz.sizeOf109 rfl rfl ha_x (by omega)) (Gs 1 rfl (G.ldK rfl Tryz.isAgg84 Tryz.sizeOf84 (hc_x.sub 3 3) rfl (G.call rfl Tryz.call110 (refTermDepth_ok x.term _ D _ (RTm.put hk_x) (by omega)) ?_))))))
    rintro _ wz3 ⟨rfl, hz3⟩
    obtain ⟨hE, hvs, hhs, hbd, hB_b, hL1, hc_x⟩ := Tr7 hz3 hE hvs hhs hbd hB_b hL1 hc_x
    replace hk_x := Tr1 hz3 hk_x
    refine Gs 3 rfl (G.ite rfl (fun dd => ?_) (fun dd => ?_))
    ·
     have hfa : f.hatches.all (fun h => decide (h.term.depth ≤ 12)) = false := by
      rw [Bool.eq_false_iff]; intro h; have := List.all_eq_true.1 h x hm_x; simp at this; omega
     refine Gs 11 rfl (G.ret1 Tryz.results61 rfl ⟨_, rfl, by rw [hpre, hfa, Bool.false_and], hE⟩)
    · refine Ga 8 rfl (by omega) (G.back (i + 1) (Sub.cons rfl (Sub.cons (slotI rfl (by rw [htk]; omega)) (Sub.of rfl))) (⟨by omega, by rw [take_get he_x, List.all_append, hall]; simp; omega, hL1⟩) (by first | omega | (dsimp only; omega)))
   ·
    have hii : i = f.hatches.length := by omega
    subst hii
    rw [List.take_length] at hall
    rw [hall, Bool.true_and] at hpre
    have hsd := sdepth_nodes f.body
    refine Gs 10 rfl (G.sp 44 rfl (fun gn => ?_) (fun gn => ?_))
    ·
     refine Gs 1 rfl (G.ld rfl Tryz.isAgg24 (hB_b.cells 2 _ rfl) (G.call rfl Tryz.call111 (refStepDepth_ok f.body _ D _ hbd (by omega)) ?_))
     rintro _ wz4 ⟨rfl, hz4⟩
     obtain ⟨hE, hvs, hhs, hbd, hB_b, hL1⟩ := Tr6 hz4 hE hvs hhs hbd hB_b hL1
     refine Gs 3 rfl (G.sp 50 rfl (fun gd => ?_) (fun gd => ?_))
     ·
      refine Gs 1 rfl (G.ld rfl Tryz.isAgg24 (hB_b.cells 2 _ rfl) (G.call rfl Tryz.call112 (refTermsDeep_ok f.body _ D _ hbd (by omega)) ?_))
      rintro _ wz5 ⟨rfl, hz5⟩
      obtain ⟨hE, hvs, hhs, hbd, hB_b, hL1⟩ := Tr6 hz5 hE hvs hhs hbd hB_b hL1
      refine G.ops1 rfl rfl (R.notU rfl (by first | exact not_decide_eq | rfl)) (Gs 5 rfl (G.ret1 Tryz.results61 rfl ⟨_, rfl, by rw [hpre, decide_eq_true (show sdepth f.body ≤ 12 by omega)]; rfl, hE⟩))
     · refine Gs 9 rfl (G.ret1 Tryz.results61 rfl ⟨_, rfl, by rw [hpre, decide_eq_false (show ¬ sdepth f.body ≤ 12 by omega)]; rfl, hE⟩)
    · exact absurd (by rw [List.take_length]; omega) gn
def overB (f : Fl) : Bool := decide (4096 < (bds f.body).1) || decide (8 < (bds f.body).2.1) || decide (67108864 < (bds f.body).2.2)
def checkN (f : Fl) : Int :=
 if sizesB f = false then 4
 else if varsCodeN f.vars ≠ 0 then varsCodeN f.vars
 else if hatchesCodeN f.vars f.hatches ≠ 0 then hatchesCodeN f.vars f.hatches
 else if stepsCodeN f.vars f.hatches.length f.body true ≠ 0 then stepsCodeN f.vars f.hatches.length f.body true
 else if overB f then 4 else 0
theorem vars_good {vs : List Vr} (h : varsCodeN vs = 0) : ∀ v ∈ vs, Good (v.low, v.high) := by
 have h1 : ∀ j, j < vs.length → varAt vs j = 0 := by
  unfold varsCodeN at h
  split at h
  · rename_i h2; exact absurd h h2
  ·
   rename_i h2
   intro j hj
   exact firstBad_inv vs.length 0 (by simpa using h2) j (Nat.zero_le _) (by omega)
 exact fun v hv => (varsAll_good h1 v hv).1
theorem refCheck_ok (f : Fl) (v1 v2 v3 : Value) (D : Nat → Prop) (w : World) (hf : RFl D w f v1 v2 v3) (hsz : snodes f.body + hnodes f.hatches ≤ 1024) (hbk : sbulk f.body ≤ 1000000) : Calls Tryz.prog 17 #[.agg #[v1, v2, v3]] w (Ret fun r w' => r = .int .i64 (checkN f) ∧ Ext w w') := by
 obtain ⟨hvs, hhs, hbd⟩ := hf
 have hm1 := hvs.max
 have hm2 := hhs.max
 obtain ⟨a1, n1, rfl⟩ := hvs.form
 obtain ⟨a2, n2, rfl⟩ := hhs.form
 have hE := Keep.refl (fun _ => False) w
 refine G.in1 Tryz.func17 rfl Tryz.ntmps17 rfl (Gs 2 rfl (G.mem rfl rfl (M.box rfl rfl) ?_))
 rintro _ w_b ⟨b, rfl, hg_b, hs_b, hB_b, hk_b⟩
 have hge_b : _ ≤ b := Nat.le_trans hE.size (Nat.le_of_eq hg_b.symm)
 obtain ⟨hE, hvs, hhs, hbd⟩ := Tr4 hk_b hE hvs hhs hbd
 refine Gs 6 rfl (G.ldK rfl Tryz.isAgg26 Tryz.sizeOf26 hB_b.cells rfl (G.call rfl Tryz.call61 (refSizes_ok f _ _ _ D _ ⟨hvs, hhs, hbd⟩ hsz) ?_))
 rintro _ wz1 ⟨rfl, hz1⟩
 obtain ⟨hE, hvs, hhs, hbd, hB_b⟩ := Tr5 hz1 hE hvs hhs hbd hB_b
 refine G.ops1 rfl rfl (R.notU rfl (by first | exact not_decide_eq | rfl)) (Gs 2 rfl (G.bool rfl (fun s0 => ?_) (fun s0 => ?_)))
 ·
  have s0' : sizesB f = false := by simpa using s0
  refine Gs 7 rfl (G.ret1 Tryz.results17 rfl ⟨_, rfl, by rw [checkN, if_pos s0'], hE⟩)
 ·
  have s0' : ¬ sizesB f = false := by simpa using s0
  refine Gs 5 rfl (G.ld rfl Tryz.isAgg22 (hB_b.cells 0 _ rfl) (G.call rfl Tryz.call62 (refCheckVars_ok f.vars _ D _ hvs) ?_))
  rintro _ wz2 ⟨rfl, hz2⟩
  obtain ⟨hE, hvs, hhs, hbd, hB_b⟩ := Tr5 hz2 hE hvs hhs hbd hB_b
  refine Gs 10 rfl (G.ite rfl (fun vz => ?_) (fun vz => ?_))
  · refine Gs 8 rfl (G.ret1 Tryz.results17 rfl ⟨_, rfl, by rw [checkN, if_neg s0', if_pos vz], hE⟩)
  ·
   have hg := vars_good (show varsCodeN f.vars = 0 by omega)
   refine Gs 9 rfl ?_
   have hch : checkN f = if hatchesCodeN f.vars f.hatches ≠ 0 then hatchesCodeN f.vars f.hatches else if stepsCodeN f.vars f.hatches.length f.body true ≠ 0 then stepsCodeN f.vars f.hatches.length f.body true else if overB f then 4 else 0 := by rw [checkN, if_neg s0', if_neg vz]
   refine G.loop (σ := Nat) (fun i => [(1, .pointer (some ⟨b, 0, none⟩)), (4, .int .i64 i)]) (fun i => fun w' => i ≤ f.hatches.length ∧ (∀ j, j < i → hatchAt f.vars f.hatches j = 0) ∧ Ext wz2 w') (fun i => f.hatches.length - i) (0) (Sub.of rfl) (⟨Nat.zero_le _, fun j h => absurd h (Nat.not_lt_zero _), Keep.refl _ _⟩) ?_
   rintro i w1 ⟨hi, hall, hL1⟩
   obtain ⟨hE, hvs, hhs, hbd, hB_b⟩ := Tr5 hL1 hE hvs hhs hbd hB_b
   refine Gs 5 rfl (G.ld rfl Tryz.isAgg23 (hB_b.cells 1 _ rfl) (Gs 4 rfl (G.ite rfl (fun hlt => ?_) (fun hlt => ?_))))
   ·
    obtain ⟨x, he_x⟩ : ∃ x, f.hatches[i]? = some x := ⟨_, List.getElem?_eq_getElem (by omega)⟩
    have hm_x := List.mem_of_getElem? he_x
    obtain ⟨b_x, o_x, c_x, ha_x, _, hc_x, hR_x⟩ := hhs.at he_x
    have h1_x := RHt.one hR_x
    obtain ⟨v1_x, rfl, hk_x⟩ := hR_x
    obtain ⟨a1_x, n1_x, rfl⟩ := hk_x.form
    have hlt_x : b_x < _ := World.block_lt_of_cell? _ _ (hc_x 0 _ rfl)
    have hat := hatchAt_eq (vs := f.vars) he_x
    have hbad : ∀ c : Int, hatchCode f.vars (f.hatches.take i) x = c → c ≠ 0 → checkN f = c := by
     intro c h1 h2
     have h3 : hatchAt f.vars f.hatches i ≠ 0 := by rw [hat, h1]; exact h2
     have h4 : hatchesCodeN f.vars f.hatches = c := by rw [hatchesCodeN, firstBad_at hall (by omega) h3, hat, h1]
     rw [hch, h4, if_pos h2]
    have hnext : hatchCode f.vars (f.hatches.take i) x = 0 → ∀ j, j < i + 1 → hatchAt f.vars f.hatches j = 0 := by
     intro h j hj
     by_cases e : j = i
     · subst e; rw [hat, h]
     · exact hall j (by omega)
    have hxn := hnodes_split he_x
    refine Gs 7 rfl (G.ld rfl Tryz.isAgg23 (hB_b.cells 1 _ rfl) (Gs 1 rfl (G.ops1 rfl rfl (R.indexS Tryz.runUnderlying23 Tryz.sizeOf109 rfl rfl ha_x (by omega)) (G.ldK rfl Tryz.isAgg109 Tryz.sizeOf109 hc_x rfl (G.mem rfl rfl (M.alloc (cs := _) Tryz.zeroValue109 rfl) ?_)))))
    rintro _ wa3 ⟨c, rfl, hg_c, hs_c, hB_c, hk_c⟩
    refine G.mem0 rfl (M.storeK Tryz.sizeOf109 rfl rfl rfl rfl h1_x hB_c (by simp)) ?_
    rintro w_c ⟨_, hB_c, hkk_c⟩
    replace hk_c := hk_c.trans hkk_c (fun q hq h => by have h : q = c := h; omega)
    have hn_b_c : b ≠ c := by have := hB_b.lt; omega
    have hge_c : _ ≤ c := Nat.le_trans hE.size (Nat.le_of_eq hg_c.symm)
    obtain ⟨hE, hvs, hhs, hbd, hB_b, hL1, hc_x⟩ := Tr7 hk_c hE hvs hhs hbd hB_b hL1 hc_x
    replace hk_x := Tr1 hk_c hk_x
    refine Gs 6 rfl (G.ld rfl Tryz.isAgg9 (hB_c.cells 0 _ rfl) (G.call rfl Tryz.call63 (refIsName_ok x.name _) ?_))
    rintro _ wz4 ⟨rfl, hz4⟩
    obtain ⟨hE, hvs, hhs, hbd, hB_b, hL1, hc_x⟩ := Tr7 hz4 hE hvs hhs hbd hB_b hL1 hc_x
    obtain ⟨hk_x, hB_c⟩ := Tr2 hz4 hk_x hB_c
    refine G.ops1 rfl rfl (R.notU rfl (by first | exact not_decide_eq | rfl)) (Gs 2 rfl (G.bool rfl (fun n0 => ?_) (fun n0 => ?_)))
    ·
     have n0' : isNm x.name = false := by simpa using n0
     refine Gs 12 rfl (G.ret1 Tryz.results17 rfl ⟨_, rfl, by rw [hbad 7 (by rw [hatchCode, if_pos n0']) (by decide)], hE⟩)
    ·
     have n0' : ¬ isNm x.name = false := by simpa using n0
     refine Gs 9 rfl (G.loop (σ := Nat) (fun j => [(1, .pointer (some ⟨b, 0, none⟩)), (4, .int .i64 i), (5, .pointer (some ⟨c, 0, none⟩)), (6, .int .i64 j)]) (fun j => fun w' => j ≤ i ∧ (f.hatches.take j).any (fun u => sameName u.name x.name) = false ∧ Ext wz4 w') (fun j => i - j) (0) (Sub.of rfl) (⟨Nat.zero_le _, rfl, Keep.refl _ _⟩) ?_)
     rintro j w2 ⟨hj, hno, hL2⟩
     obtain ⟨hE, hvs, hhs, hbd, hB_b, hL1, hc_x⟩ := Tr7 hL2 hE hvs hhs hbd hB_b hL1 hc_x
     obtain ⟨hk_x, hB_c⟩ := Tr2 hL2 hk_x hB_c
     refine Gs 8 rfl (G.ite rfl (fun hjl => ?_) (fun hjl => ?_))
     ·
      obtain ⟨y, he_y⟩ : ∃ x, f.hatches[j]? = some x := ⟨_, List.getElem?_eq_getElem (by omega)⟩
      have hm_y := List.mem_of_getElem? he_y
      obtain ⟨b_y, o_y, c_y, ha_y, _, hc_y, hR_y⟩ := hhs.at he_y
      have h1_y := RHt.one hR_y
      obtain ⟨v1_y, rfl, hk_y⟩ := hR_y
      obtain ⟨a1_y, n1_y, rfl⟩ := hk_y.form
      have hlt_y : b_y < _ := World.block_lt_of_cell? _ _ (hc_y 0 _ rfl)
      refine Gs 5 rfl (Qt (by kernel_rfl) (Gs 1 rfl (G.ldQ rfl Tryz.isAgg23 (fun w1 hw1 => ((hw1.blk hB_b (fun h => h)).cells 1 _ rfl)) (Gs 1 rfl (G.opQ rfl rfl (fun w1 hw1 => R.indexS Tryz.runUnderlying23 Tryz.sizeOf109 rfl rfl ha_y (by omega)) (Gs 1 rfl (G.ldQ rfl Tryz.isAgg9 (fun w1 hw1 => ((hw1.cells hc_y (fun h => h)) 0 _ rfl)) (Gs 1 rfl (G.ldQ rfl Tryz.isAgg9 (fun w1 hw1 => ((hw1.blk hB_c (fun h => h)).cells 0 _ rfl)) (Gs 1 rfl (G.nilQ (fun wz5 hz5 => ?_))))))))))))
      obtain ⟨hE, hvs, hhs, hbd, hB_b, hL1, hc_x⟩ := Tr7 hz5 hE hvs hhs hbd hB_b hL1 hc_x
      obtain ⟨hk_x, hB_c, hL2, hc_y, hk_y⟩ := Tr5 hz5 hk_x hB_c hL2 hc_y hk_y
      refine Gs 1 rfl (G.ite rfl (fun hd => ?_) (fun hd => ?_))
      ·
       have hany : (f.hatches.take i).any (fun u => sameName u.name x.name) = true := by
        rw [List.any_eq_true]
        refine ⟨y, List.mem_of_getElem? (i := j) (by rw [List.getElem?_take, if_pos (by omega)]; exact he_y), ?_⟩
        unfold sameName; exact decide_eq_true hd
       refine Gs 16 rfl (G.ret1 Tryz.results17 rfl ⟨_, rfl, by rw [hbad 8 (by rw [hatchCode, if_neg n0', if_pos hany]) (by decide)], hE⟩)
      · refine Ga 8 rfl (by omega) (G.back (j + 1) (Sub.of rfl) (⟨by omega, by rw [take_get he_y, List.any_append, hno]; simp [sameName, hd], hL2⟩) (by first | omega | (dsimp only; omega)))
     ·
      have hji : j = i := by omega
      subst hji
      have n1 : ¬ (f.hatches.take j).any (fun u => sameName u.name x.name) = true := by rw [hno]; decide
      refine Gs 9 rfl (G.ld rfl Tryz.isAgg3 (hB_c.cells 1 _ rfl) (Gs 1 rfl (G.ld rfl Tryz.isAgg3 (hB_c.cells 2 _ rfl) (G.call rfl Tryz.call64 (refBounded_ok x.low x.high _) ?_))))
      rintro _ wz6 ⟨rfl, hz6⟩
      obtain ⟨hE, hvs, hhs, hbd, hB_b, hL1, hc_x⟩ := Tr7 hz6 hE hvs hhs hbd hB_b hL1 hc_x
      obtain ⟨hk_x, hB_c, hL2⟩ := Tr3 hz6 hk_x hB_c hL2
      refine G.ops1 rfl rfl (R.notU rfl (by first | exact not_decide_eq | rfl)) (Gs 2 rfl (G.bool rfl (fun n3 => ?_) (fun n3 => ?_)))
      ·
       have n3' : bndB x.low x.high = false := by simpa using n3
       refine Gs 12 rfl (G.ret1 Tryz.results17 rfl ⟨_, rfl, by rw [hbad 3 (by rw [hatchCode, if_neg n0', if_neg n1, if_pos n3']) (by decide)], hE⟩)
      ·
       have n3' : ¬ bndB x.low x.high = false := by simpa using n3
       have hcc : hatchCode f.vars (f.hatches.take j) x = termCodeN f.vars true x.term := by rw [hatchCode, if_neg n0', if_neg n1, if_neg n3']
       refine Gs 5 rfl (G.ld rfl Tryz.isAgg22 (hB_b.cells 0 _ rfl) (Gs 1 rfl (G.ldK rfl Tryz.isAgg84 Tryz.sizeOf84 (hB_c.cells.sub 3 3) rfl (G.call rfl Tryz.call65 (refCheckTerm_ok f.vars true _ _ D D _ x.term hg hvs (RTm.put hk_x) (by omega)) ?_))))
       rintro _ wz7 ⟨rfl, hz7⟩
       obtain ⟨hE, hvs, hhs, hbd, hB_b, hL1, hc_x⟩ := Tr7 hz7 hE hvs hhs hbd hB_b hL1 hc_x
       obtain ⟨hk_x, hB_c, hL2⟩ := Tr3 hz7 hk_x hB_c hL2
       refine Gs 9 rfl (G.ite rfl (fun tz => ?_) (fun tz => ?_))
       · refine Gs 12 rfl (G.ret1 Tryz.results17 rfl ⟨_, rfl, by rw [hbad _ hcc tz], hE⟩)
       · refine Ga 8 rfl (by omega) (G.back (j + 1) (Sub.of rfl) (⟨by omega, hnext (by rw [hcc]; omega), hL1⟩) (by first | omega | (dsimp only; omega)))
   ·
    have hii : i = f.hatches.length := by omega
    subst hii
    have hh0 : hatchesCodeN f.vars f.hatches = 0 := firstBad_zero hall
    rw [hh0, if_neg (by decide)] at hch
    refine Gs 7 rfl (G.ldK rfl Tryz.isAgg26 Tryz.sizeOf26 hB_b.cells rfl (Gs 1 rfl (G.ld rfl Tryz.isAgg24 (hB_b.cells 2 _ rfl) (G.call rfl Tryz.call66 (checkSteps_ok f _ _ _ hg D f.body _ D _ true ⟨hvs, hhs, hbd⟩ hbd hbk) ?_))))
    rintro _ wz8 ⟨rfl, hz8⟩
    obtain ⟨hE, hvs, hhs, hbd, hB_b, hL1⟩ := Tr6 hz8 hE hvs hhs hbd hB_b hL1
    refine Gs 10 rfl (G.ite rfl (fun sz => ?_) (fun sz => ?_))
    · refine Gs 8 rfl (G.ret1 Tryz.results17 rfl ⟨_, rfl, by rw [hch, if_pos sz], hE⟩)
    ·
     have hs0 : stepsCodeN f.vars f.hatches.length f.body true = 0 := by omega
     rw [if_neg sz] at hch
     refine Gs 5 rfl (G.ld rfl Tryz.isAgg24 (hB_b.cells 2 _ rfl) (G.call rfl Tryz.call67 (refBounds_ok f.vars f.hatches.length f.body _ D _ true hs0 hbd hbk) ?_))
     rintro _ wz9 ⟨rfl, hz9⟩
     obtain ⟨hE, hvs, hhs, hbd, hB_b, hL1⟩ := Tr6 hz9 hE hvs hhs hbd hB_b hL1
     have c1 : (4096 < cap 4097 (bds f.body).1) ↔ 4096 < (bds f.body).1 := by unfold cap; omega
     have c2 : (8 < cap 9 (bds f.body).2.1) ↔ 8 < (bds f.body).2.1 := by unfold cap; omega
     have c3 : (67108864 < cap 67108865 (bds f.body).2.2) ↔ 67108864 < (bds f.body).2.2 := by unfold cap; omega
     have ho : overB f = (decide (4096 < cap 4097 (bds f.body).1) || decide (8 < cap 9 (bds f.body).2.1) || decide (67108864 < cap 67108865 (bds f.body).2.2)) := by
      unfold overB; rw [decide_eq_decide.2 c1, decide_eq_decide.2 c2, decide_eq_decide.2 c3]
     refine Gs 15 rfl (G.sp 79 rfl (fun b1 => ?_) (fun b1 => ?_))
     · refine Gs 17 rfl (G.ret1 Tryz.results17 rfl ⟨_, rfl, by rw [hch, if_pos (by rw [ho, decide_eq_true b1]; rfl)], hE⟩)
     ·
      refine Gs 4 rfl (G.sp 83 rfl (fun b2 => ?_) (fun b2 => ?_))
      · refine Gs 13 rfl (G.ret1 Tryz.results17 rfl ⟨_, rfl, by rw [hch, if_pos (by rw [ho, decide_eq_true b2, Bool.or_true]; rfl)], hE⟩)
      ·
       refine Gs 5 rfl (G.ite rfl (fun b3 => ?_) (fun b3 => ?_))
       · refine Gs 7 rfl (G.ret1 Tryz.results17 rfl ⟨_, rfl, by rw [hch, if_pos (by rw [ho, decide_eq_true b3, Bool.or_true])], hE⟩)
       · refine Gs 8 rfl (G.ret1 Tryz.results17 rfl ⟨_, rfl, by rw [hch, if_neg (by rw [ho, decide_eq_false b1, decide_eq_false b2, decide_eq_false b3]; decide)], hE⟩)
theorem flatCheck_ok (f : Fl) (v1 v2 v3 : Value) (D : Nat → Prop) (w : World) (hf : RFl D w f v1 v2 v3) (hsz : snodes f.body + hnodes f.hatches ≤ 1024) (hbk : sbulk f.body ≤ 1000000) : Calls Tryz.prog 59 #[.agg #[v1, v2, v3]] w (Ret fun r w' => r = .int .i64 (checkN f) ∧ Ext w w') := by
 replace hf := hf.narrow
 generalize hD0 : (fun b => D b ∧ b < w.heap.size) = E at hf
 have hDw : ∀ q, E q → q < w.heap.size := fun q h => by rw [← hD0] at h; exact h.2
 obtain ⟨hvs, hhs, hbd⟩ := hf
 have hm1 := hvs.max
 have hm2 := hhs.max
 obtain ⟨a1, n1, rfl⟩ := hvs.form
 obtain ⟨a2, n2, rfl⟩ := hhs.form
 have hE := Keep.refl (fun _ => False) w
 refine G.in1 Tryz.func59 rfl Tryz.ntmps59 rfl (Gs 2 rfl (G.mem rfl rfl (M.box rfl rfl) ?_))
 rintro _ w_b ⟨b, rfl, hg_b, hs_b, hB_b, hk_b⟩
 have hge_b : _ ≤ b := Nat.le_trans hE.size (Nat.le_of_eq hg_b.symm)
 replace hE := Tr1 hk_b hE
 refine Gs 5 rfl (G.mem rfl rfl (M.alloc (cs := _) Tryz.zeroValue156 rfl) ?_)
 rintro _ w_m ⟨m, rfl, hg_m, hs_m, hB_m, hk_m⟩
 have hn_b_m : b ≠ m := by have := hB_b.lt; omega
 have hge_m : _ ≤ m := Nat.le_trans hE.size (Nat.le_of_eq hg_m.symm)
 obtain ⟨hE, hB_b⟩ := Tr2 hk_m hE hB_b
 refine Gs 5 rfl (G.ld rfl Tryz.isAgg24 (hB_b.cells 2 _ rfl) ?_)
 have hvs0 := hvs
 have hhs0 := hhs
 have hbd0 := hbd
 have DM : ∀ q, E q → q ≠ m := fun q h => by have := hDw q h; omega
 refine G.call rfl Tryz.call99 (measSteps_ok f.body _ E _ m 0 false 1 (hbd.ext stable_st hE) DM hB_m (by omega) (by omega) (by omega) (by omega)) ?_
 rintro _ w2 ⟨rfl, ⟨m2, h1, h2, hB_m⟩, hz⟩
 replace hE := hE.trans hz (fun q hq h => by have h : q = m := h; omega)
 replace hB_b := hz.blk hB_b (hn_b_m)
 refine Gs 6 rfl (G.ld rfl Tryz.isAgg23 (hB_b.cells 1 _ rfl) (Gs 5 rfl (G.loop (σ := Nat) (fun i => [(1, .pointer (some ⟨b, 0, none⟩)), (3, .pointer (some ⟨m, 0, none⟩)), (14, .slice a2 f.hatches.length n2), (15, .int .i64 f.hatches.length), (16, .int .i64 i)]) (fun i => fun w' => i ≤ f.hatches.length ∧ (∃ m' : Int, 0 ≤ m' ∧ m' ≤ snodes f.body + hnodes (f.hatches.take i) ∧ Blk w' m [.int .i64 m', .bool (deepS 1 f.body || (f.hatches.take i).any (fun h => decide (12 < h.term.depth)))] 156) ∧ Blk w' b [.slice a1 f.vars.length n1, .slice a2 f.hatches.length n2, v3] 26 ∧ Ext w w') (fun i => f.hatches.length - i) (0) (Sub.of rfl) (⟨Nat.zero_le _, ⟨m2, by omega, by simp [hnodes]; omega, by simpa using hB_m⟩, hB_b, hE⟩) ?_)))
 rintro i w3 ⟨hi, ⟨m', hm0, hm'1, hB_m⟩, hB_b, hE⟩
 have hhs := hhs0.ext stable_ht hE
 refine Gs 6 rfl (G.ite rfl (fun hlt => ?_) (fun hlt => ?_))
 ·
  obtain ⟨x, he_x⟩ : ∃ x, f.hatches[i]? = some x := ⟨_, List.getElem?_eq_getElem (by omega)⟩
  have hm_x := List.mem_of_getElem? he_x
  obtain ⟨b_x, o_x, c_x, ha_x, _, hc_x, hR_x⟩ := hhs.at he_x
  have h1_x := RHt.one hR_x
  obtain ⟨v1_x, rfl, hk_x⟩ := hR_x
  obtain ⟨a1_x, n1_x, rfl⟩ := hk_x.form
  have hlt_x : b_x < _ := World.block_lt_of_cell? _ _ (hc_x 0 _ rfl)
  have hxn := hnodes_split he_x
  have htk := hnodes_take he_x
  refine Gs 6 rfl (G.ops1 rfl rfl (R.indexS Tryz.runUnderlying23 Tryz.sizeOf109 rfl rfl ha_x (by omega)) (G.ldK rfl Tryz.isAgg109 Tryz.sizeOf109 hc_x rfl (G.mem rfl rfl (M.alloc (cs := _) Tryz.zeroValue109 rfl) ?_)))
  rintro _ wa1 ⟨c, rfl, hg_c, hs_c, hB_c, hk_c⟩
  refine G.mem0 rfl (M.storeK Tryz.sizeOf109 rfl rfl rfl rfl h1_x hB_c (by simp)) ?_
  rintro w_c ⟨_, hB_c, hkk_c⟩
  replace hk_c := hk_c.trans hkk_c (fun q hq h => by have h : q = c := h; omega)
  have hn_b_c : b ≠ c := by have := hB_b.lt; omega
  have hn_m_c : m ≠ c := by have := hB_m.lt; omega
  have hge_c : _ ≤ c := Nat.le_trans hE.size (Nat.le_of_eq hg_c.symm)
  obtain ⟨hE, hB_b, hB_m, hhs, hc_x, hk_x⟩ := Tr6 hk_c hE hB_b hB_m hhs hc_x hk_x
  refine Gs 4 rfl (G.call rfl Tryz.call100 (measOver_ok m _ _ _ hB_m) ?_)
  rintro _ wz2 ⟨rfl, hz2⟩
  obtain ⟨hE, hB_b, hB_m, hhs, hc_x, hk_x, hB_c⟩ := Tr7 hz2 hE hB_b hB_m hhs hc_x hk_x hB_c
  have ho : decide (1024 < m') = false := decide_eq_false (by omega)
  rw [ho, Bool.or_false]
  refine G.ops1 rfl rfl (R.notU rfl (by first | exact not_decide_eq | rfl)) (Gs 2 rfl (G.bool rfl (fun hov => ?_) (fun hov => ?_)))
  ·
   have hov' : (deepS 1 f.body || (f.hatches.take i).any (fun h => decide (12 < h.term.depth))) = false := by simpa using hov
   rw [hov'] at hB_m
   refine Gs 2 rfl (G.ldK rfl Tryz.isAgg84 Tryz.sizeOf84 (hB_c.cells.sub 3 3) rfl (G.call rfl Tryz.call101 (measTerm_ok x.term _ E _ m _ _ 1 (RTm.put hk_x) DM hB_m (by omega) (by omega) (by omega) (by omega)) ?_))
   rintro _ w6 ⟨rfl, ⟨n2', h1', h2', hB2⟩, hz⟩
   replace hE := hE.trans hz (fun q hq h => by have h : q = m := h; omega)
   replace hB_b := hz.blk hB_b (hn_b_m)
   replace hB_c := hz.blk hB_c (fun h => hn_m_c h.symm)
   refine Ga 7 rfl (by omega) (G.back (i + 1) (Sub.of rfl) (⟨by omega, ⟨n2', by omega, by omega, ?_⟩, hB_b, hE⟩) (by first | omega | (dsimp only; omega)))
   have hb : (false || decide (12 < 1 + (x.term.depth : Int) - 1)) = (deepS 1 f.body || (f.hatches.take (i + 1)).any (fun h => decide (12 < h.term.depth))) := by
    rw [take_get he_x, List.any_append, ← Bool.or_assoc, hov', Bool.false_or, Bool.false_or]
    simp; omega
   rw [← hb]; exact hB2
  ·
   have hov' : (deepS 1 f.body || (f.hatches.take i).any (fun h => decide (12 < h.term.depth))) = true := by rw [← Bool.not_eq_false]; intro h; rw [h] at hov; cases hov
   refine Ga 7 rfl (by omega) (G.back (i + 1) (Sub.of rfl) (⟨by omega, ⟨m', by omega, by omega, ?_⟩, hB_b, hE⟩) (by first | omega | (dsimp only; omega)))
   rw [hov'] at hB_m
   rw [take_get he_x, List.any_append, ← Bool.or_assoc, hov', Bool.true_or]
   exact hB_m
 ·
  have hii : i = f.hatches.length := by omega
  subst hii
  rw [List.take_length] at hB_m hm'1
  have hsz2 : sizesB f = (decide (f.vars.length ≤ 64) && decide (f.hatches.length ≤ 8) && !(deepS 1 f.body || f.hatches.any (fun h => decide (12 < h.term.depth)))) := by
   unfold sizesB deepS
   have e1 : (f.hatches.all fun h => decide (h.term.depth ≤ 12)) = !(f.hatches.any fun h => decide (12 < h.term.depth)) := by
    rw [List.not_any_eq_all_not]; congr 1; funext h; rw [← decide_not, decide_eq_decide]; omega
   have e2 : decide (12 < 1 + (sdepth f.body : Int) - 1) = !decide (sdepth f.body ≤ 12) := by rw [← decide_not, decide_eq_decide]; omega
   rw [e1, e2]
   generalize decide (f.vars.length ≤ 64) = p1
   generalize decide (f.hatches.length ≤ 8) = p2
   generalize (f.hatches.any fun h => decide (12 < h.term.depth)) = p3
   generalize decide (sdepth f.body ≤ 12) = p4
   generalize stdeep f.body = p5
   revert p1 p2 p3 p4 p5; decide
  refine Gs 9 rfl (G.ld rfl Tryz.isAgg22 (hB_b.cells 0 _ rfl) (Gs 3 rfl (G.sp 30 rfl (fun g1 => ?_) (fun g1 => ?_))))
  ·
   have s0 : sizesB f = false := by rw [hsz2, decide_eq_false (show ¬ f.vars.length ≤ 64 by omega)]; rfl
   refine Gs 18 rfl (G.ret1 Tryz.results59 rfl ⟨_, rfl, by rw [checkN, if_pos s0], hE⟩)
  ·
   refine Gs 1 rfl (G.ld rfl Tryz.isAgg23 (hB_b.cells 1 _ rfl) (Gs 4 rfl (G.sp 36 rfl (fun g2 => ?_) (fun g2 => ?_))))
   ·
    have s0 : sizesB f = false := by rw [hsz2, decide_eq_false (show ¬ f.hatches.length ≤ 8 by omega), Bool.and_false]; rfl
    refine Gs 12 rfl (G.ret1 Tryz.results59 rfl ⟨_, rfl, by rw [checkN, if_pos s0], hE⟩)
   ·
    have hvs := hvs0.ext stable_vr hE
    have hbd := hbd0.ext stable_st hE
    refine G.call rfl Tryz.call100 (measOver_ok m _ _ _ hB_m) ?_
    rintro _ wz3 ⟨rfl, hz3⟩
    obtain ⟨hE, hB_b, hB_m, hhs, hvs, hbd⟩ := Tr6 hz3 hE hB_b hB_m hhs hvs hbd
    have ho : decide (1024 < m') = false := decide_eq_false (by omega)
    rw [ho, Bool.or_false]
    rw [decide_eq_true (show f.vars.length ≤ 64 by omega), decide_eq_true (show f.hatches.length ≤ 8 by omega), Bool.true_and, Bool.true_and] at hsz2
    refine Gs 3 rfl (G.bool rfl (fun s1 => ?_) (fun s1 => ?_))
    ·
     have s0 : sizesB f = false := by rw [hsz2, s1]; rfl
     refine Gs 7 rfl (G.ret1 Tryz.results59 rfl ⟨_, rfl, by rw [checkN, if_pos s0], hE⟩)
    ·
     have s0 : ¬ sizesB f = false := by rw [hsz2, s1]; decide
     refine Gs 6 rfl (G.ld rfl Tryz.isAgg22 (hB_b.cells 0 _ rfl) (G.call rfl Tryz.call102 (varsCode_ok f.vars _ E _ hvs (by omega)) ?_))
     rintro _ wz4 ⟨rfl, hz4⟩
     obtain ⟨hE, hB_b, hB_m, hhs, hvs, hbd⟩ := Tr6 hz4 hE hB_b hB_m hhs hvs hbd
     refine Gs 9 rfl (G.ite rfl (fun vz => ?_) (fun vz => ?_))
     · refine Gs 8 rfl (G.ret1 Tryz.results59 rfl ⟨_, rfl, by rw [checkN, if_neg s0, if_pos vz], hE⟩)
     ·
      have hg := vars_good (show varsCodeN f.vars = 0 by omega)
      refine Gs 5 rfl (G.ldK rfl Tryz.isAgg26 Tryz.sizeOf26 hB_b.cells rfl ?_)
      have hch : checkN f = if hatchesCodeN f.vars f.hatches ≠ 0 then hatchesCodeN f.vars f.hatches else if stepsCodeN f.vars f.hatches.length f.body true ≠ 0 then stepsCodeN f.vars f.hatches.length f.body true else if overB f then 4 else 0 := by rw [checkN, if_neg s0, if_neg vz]
      have hhs := hhs0.ext stable_ht hE
      refine G.call rfl Tryz.call103 (hatchesCode_ok f _ _ _ E _ ⟨hvs, hhs, hbd⟩ hg (fun h hh => by obtain ⟨i, hi⟩ := List.mem_iff_getElem?.1 hh; have := hnodes_split hi; omega) (by omega)) ?_
      rintro _ wz5 ⟨rfl, hz5⟩
      obtain ⟨hE, hB_b, hB_m, hvs, hbd, hhs⟩ := Tr6 hz5 hE hB_b hB_m hvs hbd hhs
      refine Gs 9 rfl (G.ite rfl (fun hz2 => ?_) (fun hz2 => ?_))
      · refine Gs 8 rfl (G.ret1 Tryz.results59 rfl ⟨_, rfl, by rw [hch, if_pos hz2], hE⟩)
      ·
       rw [if_neg hz2] at hch
       refine Gs 5 rfl (G.ldK rfl Tryz.isAgg26 Tryz.sizeOf26 hB_b.cells rfl (Gs 1 rfl (G.ld rfl Tryz.isAgg24 (hB_b.cells 2 _ rfl) (G.call rfl Tryz.call104 (stepsCode_ok f _ _ _ hg E f.body _ E _ true ⟨hvs, hhs, hbd⟩ hbd hbk) ?_))))
       rintro _ wz6 ⟨rfl, hz6⟩
       obtain ⟨hE, hB_b, hB_m, hvs, hbd, hhs⟩ := Tr6 hz6 hE hB_b hB_m hvs hbd hhs
       refine Gs 9 rfl (G.ite rfl (fun sz => ?_) (fun sz => ?_))
       · refine Gs 8 rfl (G.ret1 Tryz.results59 rfl ⟨_, rfl, by rw [hch, if_pos sz], hE⟩)
       ·
        have hs0 : stepsCodeN f.vars f.hatches.length f.body true = 0 := by omega
        rw [if_neg sz] at hch
        refine Gs 6 rfl (G.ld rfl Tryz.isAgg24 (hB_b.cells 2 _ rfl) (G.call rfl Tryz.call105 (upper_ok f.vars f.hatches.length f.body _ E _ true hs0 hbd hbk) ?_))
        rintro _ wz7 ⟨rfl, hz7⟩
        obtain ⟨hE, hB_b, hB_m, hvs, hbd, hhs⟩ := Tr6 hz7 hE hB_b hB_m hvs hbd hhs
        have c1 : (4096 < cap 1099511627776 (bds f.body).1) ↔ 4096 < (bds f.body).1 := by unfold cap; omega
        have c2 : (8 < cap 1099511627776 (bds f.body).2.1) ↔ 8 < (bds f.body).2.1 := by unfold cap; omega
        have c3 : (67108864 < cap 1099511627776 (bds f.body).2.2) ↔ 67108864 < (bds f.body).2.2 := by unfold cap; omega
        have ho2 : overB f = (decide (4096 < cap 1099511627776 (bds f.body).1) || decide (8 < cap 1099511627776 (bds f.body).2.1) || decide (67108864 < cap 1099511627776 (bds f.body).2.2)) := by
         unfold overB; rw [decide_eq_decide.2 c1, decide_eq_decide.2 c2, decide_eq_decide.2 c3]
        refine G.mem rfl rfl (M.alloc (cs := _) Tryz.zeroValue160 rfl) ?_
        rintro _ wa8 ⟨c, rfl, hg_c, hs_c, hB_c, hk_c⟩
        refine G.mem0 rfl (M.storeK Tryz.sizeOf160 rfl rfl rfl rfl (by simp [Value.oneCell']) hB_c (by simp)) ?_
        rintro w_c ⟨_, hB_c, hkk_c⟩
        replace hk_c := hk_c.trans hkk_c (fun q hq h => by have h : q = c := h; omega)
        have hn_b_c : b ≠ c := by have := hB_b.lt; omega
        have hn_m_c : m ≠ c := by have := hB_m.lt; omega
        have hge_c : _ ≤ c := Nat.le_trans hE.size (Nat.le_of_eq hg_c.symm)
        obtain ⟨hE, hB_b, hB_m, hvs, hbd, hhs⟩ := Tr6 hk_c hE hB_b hB_m hvs hbd hhs
        refine Gs 5 rfl (G.ld rfl Tryz.isAgg3 (hB_c.cells 0 _ rfl) (Gs 2 rfl (G.sp 63 rfl (fun b1 => ?_) (fun b1 => ?_))))
        · refine Gs 19 rfl (G.ret1 Tryz.results59 rfl ⟨_, rfl, by rw [hch, if_pos (by rw [ho2, decide_eq_true b1]; rfl)], hE⟩)
        ·
         refine Gs 1 rfl (G.ld rfl Tryz.isAgg3 (hB_c.cells 1 _ rfl) (Gs 3 rfl (G.sp 68 rfl (fun b2 => ?_) (fun b2 => ?_))))
         · refine Gs 14 rfl (G.ret1 Tryz.results59 rfl ⟨_, rfl, by rw [hch, if_pos (by rw [ho2, decide_eq_true b2, Bool.or_true]; rfl)], hE⟩)
         ·
          refine Gs 1 rfl (G.ld rfl Tryz.isAgg3 (hB_c.cells 2 _ rfl) (Gs 4 rfl (G.ite rfl (fun b3 => ?_) (fun b3 => ?_))))
          · refine Gs 7 rfl (G.ret1 Tryz.results59 rfl ⟨_, rfl, by rw [hch, if_pos (by rw [ho2, decide_eq_true b3, Bool.or_true])], hE⟩)
          · refine Gs 8 rfl (G.ret1 Tryz.results59 rfl ⟨_, rfl, by rw [hch, if_neg (by rw [ho2, decide_eq_false b1, decide_eq_false b2, decide_eq_false b3]; decide)], hE⟩)
end Go.Proofs.YtldhllpogdikdaaGreat
namespace Go.GL
instance decNd : DecidableEq Nd := fun a b =>
 if h : a.kind = b.kind ∧ a.at_ = b.at_ ∧ a.next = b.next ∧ a.other = b.other then isTrue (Nd.eq4 h.1 h.2.1 h.2.2.1 h.2.2.2) else isFalse (fun e => h (by subst e; exact ⟨rfl, rfl, rfl, rfl⟩))
end Go.GL
namespace Go.Proofs.YtldhllpogdikdaaGreat
open Go.GL
theorem plain_of_code {vs : List Vr} {nh : Nat} (l : List St) : ∀ top, stepsCodeN vs nh l top = 0 → plainL l = true := by
 induction l using Sts.ind with
 | h l ih =>
 intro top h
 refine plainL_of (fun s hs => ?_)
 obtain ⟨last, h2⟩ := steps_mem l top h s hs
 obtain ⟨h3, _, _, h4, h5⟩ := step_ok h2
 rw [s.plainB_eq, (ih s hs).1 _ h4, (ih s hs).2 _ h5, Bool.and_true, Bool.and_true]
 split
 · rfl
 ·
  split
  · rename_i a4; rw [(h3.rep a4).2.2]; rfl
  · rename_i a3 a4; rw [(h3.free a3 a4).1, (h3.free a3 a4).2]; rfl
theorem check_parts {f : Fl} (h : checkN f = 0) : sizesB f = true ∧ varsCodeN f.vars = 0 ∧ hatchesCodeN f.vars f.hatches = 0 ∧ stepsCodeN f.vars f.hatches.length f.body true = 0 ∧ overB f = false := by
 unfold checkN at h
 split at h
 · cases h
 split at h
 · rename_i h1; exact absurd h h1
 split at h
 · rename_i h1; exact absurd h h1
 split at h
 · rename_i h1; exact absurd h h1
 split at h
 · cases h
 rename_i h1 h2 h3 h4 h5
 refine ⟨by simpa using h1, by omega, by omega, by omega, by simpa using h5⟩
theorem check_plain {f : Fl} (h : checkN f = 0) : plainL f.body = true := plain_of_code _ _ (check_parts h).2.2.2.1
theorem run_eqNd (w : World) (dd : Nat) (a b : Nd) : (Op.equalIn (dd + 2) 40 (.agg (encN a).toArray) (.agg (encN b).toArray)).run Tryz.prog w = .ok (decide (a = b)) w := by
 have hf : Tryz.prog.fieldsOf 40 = #[{ name := "Kind", type := 38, offset := 0, embedded := false, tag := "", pkgPath := "", byteOffset := 0 }, { name := "At", type := 3, offset := 1, embedded := false, tag := "", pkgPath := "", byteOffset := 8 }, { name := "Next", type := 3, offset := 2, embedded := false, tag := "", pkgPath := "", byteOffset := 16 }, { name := "Other", type := 3, offset := 3, embedded := false, tag := "", pkgPath := "", byteOffset := 24 }] := by kernel_rfl
 rw [run_equalIn_struct w _ _ _ _ (by rw [hf]; exact Tryz.underlying40) (by kernel_rfl), hf]
 simp [Op.eqFields, part, encN, Tryz.isAgg38, Tryz.isAgg3, run_equalIn_int w _ _ _ _ _ _ Tryz.underlying38, run_equalIn_int w _ _ _ _ _ _ Tryz.underlying3]
 have e : decide (a = b) = (decide (a.kind = b.kind) && decide (a.at_ = b.at_) && decide (a.next = b.next) && decide (a.other = b.other)) := by
  rw [Bool.eq_iff_iff]
  simp only [Bool.and_eq_true, decide_eq_true_eq]
  exact ⟨fun h => by subst h; exact ⟨⟨⟨rfl, rfl⟩, rfl⟩, rfl⟩, fun h => Nd.eq4 h.1.1.1 h.1.1.2 h.1.2 h.2⟩
 rw [e]
 by_cases h1 : a.kind = b.kind
 ·
  by_cases h2 : a.at_ = b.at_
  ·
   by_cases h3 : a.next = b.next
   · by_cases h4 : a.other = b.other <;> simp [h1, h2, h3, h4]
   · simp [h1, h2, h3]
  · simp [h1, h2]
 · simp [h1]
theorem neNd {env : Env} {w : World} {dst : Option Tmp} {ty : TypeId} {pos : String} {aft : Array Edge} {g : Option (Nat × Bool)} {t' : TypeId} {x y : Operand} {a b : Nd} (hx : ev env x = some (.agg (encN a).toArray)) (hy : ev env y = some (.agg (encN b).toArray)) :
  Runs Tryz.prog ⟨dst, .binOp .neq 40 x y t', ty, pos, aft, g⟩ env w (.bool (decide (a ≠ b))) w := by
 intro n c hc
 have hm : Tryz.prog.eqGuardType Tryz.prog.depth 40 = false := by kernel_rfl
 simp [execOp, hc.eval hx, hc.eval hy, run_eqGuard_agg, hm, run_neq_struct, run_eqNd]
theorem eqNd {env : Env} {w : World} {dst : Option Tmp} {ty : TypeId} {pos : String} {aft : Array Edge} {g : Option (Nat × Bool)} {t' : TypeId} {x y : Operand} {a b : Nd} (hx : ev env x = some (.agg (encN a).toArray)) (hy : ev env y = some (.agg (encN b).toArray)) :
  Runs Tryz.prog ⟨dst, .binOp .eql 40 x y t', ty, pos, aft, g⟩ env w (.bool (decide (a = b))) w := by
 intro n c hc
 have hm : Tryz.prog.eqGuardType Tryz.prog.depth 40 = false := by kernel_rfl
 simp [execOp, hc.eval hx, hc.eval hy, run_eqGuard_agg, hm, run_eql_struct, run_eqNd]
theorem eqNodes_ok (a b : List Nd) (va vb : Value) (D D' : Nat → Prop) (w : World) (ha : SlR 4 RNd D w va a) (hb : SlR 4 RNd D' w vb b) : Calls Tryz.prog 19 #[va, vb] w (Ret fun r w' => r = .bool (decide (a = b)) ∧ Ext w w') := by
 have hma := ha.max
 have hmb := hb.max
 obtain ⟨aa, ca, rfl⟩ := ha.form
 obtain ⟨ab, cb, rfl⟩ := hb.form
 refine G.in2 Tryz.func19 rfl Tryz.ntmps19 rfl (Gs 15 rfl (G.ite rfl (fun hne => ?_) (fun heq => ?_)))
 · refine Gs 7 rfl (G.ret1 Tryz.results19 rfl ⟨_, rfl, by rw [decide_eq_false (fun h => hne (by rw [h]))], Keep.refl _ _⟩)
 ·
  have hl : a.length = b.length := by omega
  refine Gs 11 rfl (G.loop (σ := Nat) (fun i => [(0, .slice aa a.length ca), (1, .slice ab b.length cb), (12, .int .i64 a.length), (13, .int .i64 i)]) (fun i => fun w' => i ≤ a.length ∧ a.take i = b.take i ∧ Ext w w') (fun i => a.length - i) (0) (Sub.of rfl) (⟨Nat.zero_le _, rfl, Keep.refl _ _⟩) ?_)
  rintro i w1 ⟨hi, hpre, hL1⟩
  obtain ⟨ha, hb⟩ := Tr2 hL1 ha hb
  refine Gs 6 rfl (G.ite rfl (fun hlt => ?_) (fun hge => ?_))
  ·
   obtain ⟨x, he_x⟩ : ∃ x, a[i]? = some x := ⟨_, List.getElem?_eq_getElem (by omega)⟩
   obtain ⟨y, he_y⟩ : ∃ x, b[i]? = some x := ⟨_, List.getElem?_eq_getElem (by omega)⟩
   obtain ⟨bx, ox, cx, hax, _, hcx, rfl⟩ := ha.at he_x
   obtain ⟨by', oy, cy, hay, _, hcy, rfl⟩ := hb.at he_y
   refine Gs 11 rfl (Qt (by kernel_rfl) (Gs 2 rfl (G.opQ rfl rfl (fun w1 hw1 => R.indexS Tryz.runUnderlying29 Tryz.sizeOf40 rfl rfl hax (by omega)) (G.opQ rfl rfl (fun w1 hw1 => R.loadK Tryz.isAgg40 Tryz.sizeOf40 rfl (by rfl) (hw1.cells hcx (fun h => h))) (Gs 2 rfl (G.opQ rfl rfl (fun w1 hw1 => R.indexS Tryz.runUnderlying29 Tryz.sizeOf40 rfl rfl hay (by omega)) (G.opQ rfl rfl (fun w1 hw1 => R.loadK Tryz.isAgg40 Tryz.sizeOf40 rfl (by rfl) (hw1.cells hcy (fun h => h))) (G.opQ rfl rfl (fun w1 hw1 => neNd (a := x) (b := y) rfl rfl) (G.nilQ (fun wz1 hz1 => ?_))))))))))
   obtain ⟨ha, hb, hL1⟩ := Tr3 hz1 ha hb hL1
   refine Gs 1 rfl (G.ite rfl (fun hxy => ?_) (fun hxy => ?_))
   · refine Gs 11 rfl (G.ret1 Tryz.results19 rfl ⟨_, rfl, by rw [decide_eq_false (fun h => hxy (by rw [h, he_y] at he_x; exact (Option.some.inj he_x).symm))], hL1⟩)
   ·
    have hxy' : x = y := Decidable.not_not.1 hxy
    refine Ga 7 rfl (by omega) (G.back (i + 1) (Sub.of rfl) (⟨by omega, by rw [take_get he_x, take_get he_y, hpre, hxy'], hL1⟩) (by first | omega | (dsimp only; omega)))
  ·
   have : i = a.length := by omega
   subst this
   rw [List.take_length, hl, List.take_length] at hpre
   refine Gs 11 rfl (G.ret1 Tryz.results19 rfl ⟨_, rfl, by rw [decide_eq_true hpre], hL1⟩)
theorem fIdx_at {α : Type} {p : α → Bool} {l : List α} {i : Nat} {x : α} (h : l[i]? = some x) (hn : (l.take i).any p = false) (hp : p x = true) : fIdx p l = i := by
 have : l.findIdx? p = some i := by
  rw [List.findIdx?_eq_some_iff_getElem]
  obtain ⟨hi, hx⟩ := List.getElem?_eq_some_iff.1 h
  refine ⟨hi, by rw [hx]; exact hp, fun j hj => ?_⟩
  rw [List.any_eq_false] at hn
  exact hn _ (List.mem_iff_getElem?.2 ⟨j, by rw [List.getElem?_take, if_pos hj]; exact List.getElem?_eq_getElem (by omega)⟩)
 rw [fIdx, this]
theorem fIdx_none {α : Type} {p : α → Bool} {l : List α} (hn : l.any p = false) : fIdx p l = -1 := by
 have : l.findIdx? p = none := by
  rw [List.findIdx?_eq_none_iff]
  rw [List.any_eq_false] at hn
  intro x hx
  simpa using hn x hx
 rw [fIdx, this]
theorem idxN_ok (a : List Nd) (va : Value) (D : Nat → Prop) (w : World) (ha : SlR 4 RNd D w va a) (p : Nd → Bool) (g : FuncId) (cp : Value) (hf : ∀ args w, (callFunc g args).run Tryz.prog w = .ok (.enter g args) w)
  (hc : ∀ x ∈ a, ∀ w', Ext w w' → Calls Tryz.prog g #[.agg (encN x).toArray, cp] w' (Ret fun r w'' => r = .bool (p x) ∧ Ext w' w'')) :
  Calls Tryz.prog 24 #[va, .func (.func g) #[] #[cp]] w (Ret fun r w' => r = .int .i64 (fIdx p a) ∧ Ext w w') := by
 have hmx := ha.max
 obtain ⟨av, nv, rfl⟩ := ha.form
 refine G.in2 Tryz.func24 rfl Tryz.ntmps24 rfl (Gs 14 rfl (G.loop (σ := Nat) (fun i => [(0, .slice av a.length nv), (1, .func (.func g) #[] #[cp]), (7, .int .i64 a.length), (8, .int .i64 i)]) (fun i => fun w' => i ≤ a.length ∧ (a.take i).any p = false ∧ Ext w w') (fun i => a.length - i) (0) (Sub.of rfl) (⟨Nat.zero_le _, rfl, Keep.refl _ _⟩) ?_))
 rintro i w1 ⟨hi, hno, hL1⟩
 replace ha := Tr1 hL1 ha
 refine Gs 6 rfl (G.ite rfl (fun hlt => ?_) (fun hlt => ?_))
 ·
  obtain ⟨x, he_x⟩ : ∃ x, a[i]? = some x := ⟨_, List.getElem?_eq_getElem (by omega)⟩
  have hm_x := List.mem_of_getElem? he_x
  obtain ⟨b_x, o_x, c_x, ha_x, _, hc_x, hR_x⟩ := ha.at he_x
  have h1_x := RNd.one hR_x
  obtain rfl := hR_x
  have hlt_x : b_x < _ := World.block_lt_of_cell? _ _ (hc_x 0 _ rfl)
  refine Gs 15 rfl (G.ops1 rfl rfl (R.indexS Tryz.runUnderlying29 Tryz.sizeOf40 rfl rfl ha_x (by omega)) (G.ldK rfl Tryz.isAgg40 Tryz.sizeOf40 hc_x rfl (G.callV rfl hf (hc x hm_x _ hL1) ?_)))
  rintro _ wz1 ⟨rfl, hz1⟩
  obtain ⟨ha, hL1, hc_x⟩ := Tr3 hz1 ha hL1 hc_x
  refine Gs 2 rfl (G.bool rfl (fun hp => ?_) (fun hp => ?_))
  · refine Gs 12 rfl (G.ret1 Tryz.results24 rfl ⟨_, rfl, by rw [fIdx_at he_x hno hp], hL1⟩)
  · refine Ga 7 rfl (by omega) (G.back (i + 1) (Sub.of rfl) (⟨by omega, any_take_all he_x hno hp, hL1⟩) (by first | omega | (dsimp only; omega)))
 ·
  have : i = a.length := by omega
  subst this
  rw [List.take_length] at hno
  refine Gs 11 rfl (G.ret1 Tryz.results24 rfl ⟨_, rfl, by rw [fIdx_none hno], hL1⟩)
theorem atN_ok (x : Nd) (k : Int) (c : Nat) (w : World) (hB : Blk w c [.int .i64 k] 3) : Calls Tryz.prog 71 #[.agg (encN x).toArray, .pointer (some ⟨c, 0, none⟩)] w (Ret fun r w' => r = .bool (decide (x.at_ = k)) ∧ Ext w w') := by
 have hE := Keep.refl (fun _ => False) w
 refine G.in2 Tryz.func71 rfl Tryz.ntmps71 rfl (Gs 2 rfl (G.mem rfl rfl (M.box rfl rfl) ?_))
 rintro _ w_b ⟨b, rfl, hg_b, hs_b, hB_b, hk_b⟩
 have hge_b : _ ≤ b := Nat.le_trans hE.size (Nat.le_of_eq hg_b.symm)
 obtain ⟨hE, hB⟩ := Tr2 hk_b hE hB
 refine Gs 6 rfl (G.ld rfl Tryz.isAgg3 (hB_b.cells 1 _ rfl) (G.ld rfl Tryz.isAgg3 (hB.cells 0 _ rfl) (Gs 5 rfl (G.ret1 Tryz.results71 rfl ⟨_, rfl, rfl, hE⟩))))
theorem build_ok (f : Fl) (v1 v2 v3 : Value) (D : Nat → Prop) (w : World) (hf : RFl D w f v1 v2 v3) (hp : plainL f.body = true) (hsz : ssize f.body ≤ 10000) :
  Calls Tryz.prog 60 #[.agg #[v1, v2, v3]] w (Ret fun r w' => (∃ nv, r = .agg #[nv] ∧ SlR 4 RNd (fun b => w.heap.size ≤ b) w' nv (cfgN f)) ∧ Ext w w') := by
 have hwl := widL_le f.body
 have hbd := hf.narrow.body
 refine G.in1 Tryz.func60 rfl Tryz.ntmps60 rfl (Gs 2 rfl (G.mem rfl rfl (M.box rfl rfl) ?_))
 rintro _ w1 ⟨c, rfl, hc, hs1, hBc, hk1⟩
 refine G.mem rfl rfl (M.alloc (cs := [.slice none 0 0]) Tryz.zeroValue31 rfl) ?_
 rintro _ w2 ⟨r, rfl, hr, hs2, hBr, hk2⟩
 replace hBc := hk2.blk hBc (fun h => h)
 refine Gs 4 rfl (G.ops1 rfl rfl (R.build (v := .agg #[.int .i64 0, .int .i64 (-1), .int .i64 (-1), .int .i64 (-1)]) [(0, _), (1, _), (2, _), (3, _)] rfl (fun _ => by kernel_rfl)) (G.mem rfl rfl (M.buildSlice (cs := encN ⟨0, -1, -1, -1⟩) [(0, _)] Tryz.runUnderlying29 Tryz.sizeOf40 Tryz.zeroValue40 (by decide) rfl (by kernel_rfl)) ?_))
 rintro _ w3 ⟨g3, rfl, hg3, hs3, hB3, hk3⟩
 replace hBc := hk3.blk hBc (fun h => h)
 replace hBr := hk3.blk hBr (fun h => h)
 refine G.ops1 rfl rfl (R.build (v := .agg #[.slice (some ⟨g3, 0, none⟩) 1 1, .int .i64 0]) [(0, _)] rfl (fun _ => by kernel_rfl)) (G.mem rfl rfl (M.box rfl rfl) ?_)
 rintro _ w4 ⟨B, rfl, hB, hs4, hBB, hk4⟩
 replace hBc := hk4.blk hBc (fun h => h)
 replace hBr := hk4.blk hBr (fun h => h)
 replace hB3 := hk4.blk hB3 (fun h => h)
 have hE4 : Ext w w4 := ((hk1.ext hk2).ext hk3).ext hk4
 have hb4 : BdS w.heap.size B w4 { nodes := [⟨0, -1, -1, -1⟩], step := 0 } (.slice (some ⟨g3, 0, none⟩) 1 1) :=
  ⟨hBB, own_blk (k := 4) (n := 1) (cap := 1) hB3 (Nat.le_refl _) (by decide) rfl, by omega, fun g hg => by obtain rfl : g3 = g := Option.some.inj hg; omega⟩
 have hcr : c ≠ r := by omega
 refine Gs 5 rfl (Dw (fun q => Blk q c [v1, v2, v3] 26) [] (fun w5 hk5 _ => ?_))
 have hBc5 := hk5.blk hBc (fun h => h)
 have hBr5 := hk5.blk hBr (fun h => h)
 have hb5 := hb4.ext hk5
 have hE5 := hE4.ext hk5
 refine Ds [0, 1] (by kernel_rfl) rfl (WD.take 2 rfl (by kernel_rfl) rfl rfl rfl hBc5 (fun w1 hw1 => R.load Tryz.isAgg24 rfl (hw1.cells 2 _ rfl)) (Ds [3, 8] (by kernel_rfl) rfl (WD.call 4 rfl (by kernel_rfl) rfl rfl rfl (F.call (vs := [_, _]) Tryz.call107 rfl) (next_ok B 0 w5) ?_)))
 rintro x w6 ⟨hx, hk6⟩
 have hBc6 := hk6.blk hBc5 (fun h => h)
 have hBr6 := hk6.blk hBr5 (fun h => h)
 have hb6 := hb5.ext hk6
 have hE6 := hE5.ext hk6
 refine ⟨fun _ => hBc6, ?_⟩
 have hx0 := hx
 obtain ⟨bb, ab, rfl, _, _⟩ := hx
 refine WD.mem 5 rfl (by kernel_rfl) rfl rfl rfl (M.buildSlice (cs := [.func (.func 160) #[] #[.pointer (some ⟨bb, 0, none⟩), .pointer (some ⟨ab, 0, none⟩)]]) [(0, _)] Tryz.runUnderlying165 Tryz.sizeOf167 Tryz.zeroValue167 (by decide) rfl (by kernel_rfl)) ?_
 rintro _ w7 ⟨g7, rfl, hg7, hs7, hB7, hk7⟩
 have hBc7 := hk7.blk hBc6 (fun h => h)
 have hBr7 := hk7.blk hBr6 (fun h => h)
 have hb7 := hb6.ext hk7
 have hE7 := hE6.ext hk7
 refine ⟨fun _ => hBc7, ?_⟩
 have hu7 := Hung.lit hB7 (hx0.ext hk7)
 have hsz7 := hE7.size
 refine WD.call 6 rfl (by kernel_rfl) rfl rfl rfl (F.call (vs := [_, _, _]) Tryz.call106 rfl) (list_ok f.body w.heap.size B _ _ _ w7 _ _ _ (hbd.ext stable_st hE7) (fun q h => h.2) hb7 hu7 (by simp) (by omega) hp (by simp; omega) (by dsimp only; omega)) ?_
 rintro r9 w9 ⟨⟨nv9, hb9⟩, hu9, _, hK9⟩
 have hBc9 := hK9.blk hBc7 (by decide)
 have hBr9 := hK9.blk hBr7 (by decide)
 have hE9 : Ext w w9 := KT.fresh (KT.trans (KT.of_ext hE7) hK9) (Nat.le_refl _)
 refine ⟨fun _ => hBc9, ?_⟩
 have hl9 := list_built f.body hp { nodes := [⟨0, -1, -1, -1⟩], step := 0 } [(0, false)] (by simp)
 have hfin : buildB f = cfgN f := build_eq f hp
 unfold buildB at hfin
 generalize hX : listB f.body { nodes := [⟨0, -1, -1, -1⟩], step := 0 } [(0, false)] = X at hb9 hu9 hl9 hfin
 obtain ⟨a9, c9, rfl, _⟩ := hu9.form
 have hlen9 := hl9.len
 have hlt9 := hl9.lt
 have hmx9 := hu9.len
 simp only [List.length_singleton] at hlen9
 obtain ⟨an, cn, rfl, hnc, _⟩ := own_slice hb9.row
 refine Ds [7] (by kernel_rfl) rfl (G.done (by kernel_rfl) ?_ _)
 refine Gs 2 rfl (G.loop (σ := Nat) (fun j => [(2, .pointer (some ⟨r, 0, none⟩)), (3, .pointer (some ⟨B, 0, none⟩)), (16, .slice a9 X.2.length c9), (17, .int .i64 X.2.length), (18, .int .i64 j)]) (fun j => fun w' => j ≤ X.2.length ∧ BdS w.heap.size B w' { X.1 with nodes := setAll X.1.nodes X.1.nodes.length (X.2.take j) } (.slice an X.1.nodes.length cn) ∧ Hung B w' (.slice a9 X.2.length c9) X.2 ∧ Blk w' r [.slice none 0 0] 31 ∧ Ext w w') (fun j => X.2.length - j) (0) (Sub.of rfl) (⟨Nat.zero_le _, hb9, hu9, hBr9, hE9⟩) ?_)
 rintro j y1 ⟨hj, hbj, huj, hBj, hEj⟩
 refine Gs 6 rfl (G.ite rfl (fun hlt => ?_) (fun hge => ?_))
 ·
  obtain ⟨e, he⟩ : ∃ e, X.2[j]? = some e := ⟨_, List.getElem?_eq_getElem (by omega)⟩
  obtain ⟨ge, x, rfl, hcx, hHx⟩ := huj.at he
  obtain ⟨ie, pe⟩ := e
  obtain ⟨ff, fcs, rfl, hcf, hcall⟩ := hang_ok w.heap.size B ie pe (X.1.nodes.length : Nat) _ _ x y1 hbj hHx (by dsimp only; rw [setAll_len]; exact hlt9 _ (List.mem_of_getElem? he))
  refine Ga 7 rfl (by omega) (G.ld rfl Tryz.isAgg167 (hcx 0 _ rfl) (Gs 8 rfl (G.ld rfl Tryz.isAgg29 (hbj.blk.cells 0 _ rfl) (Gs 1 rfl (G.callV rfl hcf hcall ?_)))))
  rintro _ y2 ⟨hb', hK'⟩
  refine Ga 7 rfl (by omega) (G.back (j + 1) (Sub.of rfl) (⟨by omega, by rw [setAll_take he]; exact hb', huj.kt hK', hK'.blk hBj (by decide), KT.fresh (KT.trans (KT.of_ext hEj) hK') (Nat.le_refl _)⟩) (by first | omega | (dsimp only; omega)))
 ·
  have hjj : j = X.2.length := by omega
  subst hjj
  rw [List.take_length] at hbj
  have hrow := hbj.row
  dsimp only at hrow
  rw [setAll_len] at hrow
  refine Gs 10 rfl (G.ld rfl Tryz.isAgg29 (hbj.blk.cells 0 _ rfl) (G.ops1 rfl rfl (R.build (v := .agg #[.int .i64 1, .int .i64 (-1), .int .i64 (-1), .int .i64 (-1)]) [(0, _), (1, _), (2, _), (3, _)] rfl (fun _ => by kernel_rfl)) (G.mem rfl rfl (M.buildSlice (cs := encN ⟨1, -1, -1, -1⟩) [(0, _)] Tryz.runUnderlying29 Tryz.sizeOf40 Tryz.zeroValue40 (by decide) rfl (by kernel_rfl)) ?_)))
  rintro _ y2 ⟨g2, rfl, yg2, ys2, yB2, yk2⟩
  replace hrow := own_keep hrow yk2 (fun _ _ h => h)
  replace hBj := yk2.blk hBj (fun h => h)
  refine G.mem rfl rfl (M.append Tryz.underlying29 Tryz.el40 rfl (by decide) rfl rfl hrow rfl (Cells.add yB2.cells) (encN_one _) (by omega) (by omega)) ?_
  rintro nv y3 ⟨hown, hfr, yk3, _⟩
  have hne : ∀ g, Value.ownBlock (.slice an X.1.nodes.length cn) = some g → g ≠ r := fun g hg => by
   obtain ⟨cs', hb'⟩ := own_blkty hrow hg
   exact hb'.ne hBj (by decide)
  have hlow : ∀ g, Value.ownBlock (.slice an X.1.nodes.length cn) = some g → w.heap.size ≤ g := hbj.far
  replace hBj := yk3.blk hBj (fun h => hne r h rfl)
  have hEy : Ext w y3 := Keep.trans (hEj.ext yk2) yk3 (fun k hk h => by have := hlow k h; omega)
  obtain ⟨av, cv, rfl⟩ := own_form hown
  have hnv : ∀ g, Value.ownBlock (.slice av (X.1.nodes.length + 1) cv) = some g → w.heap.size ≤ g ∧ g ≠ r := by
   intro g hg
   refine ⟨?_, ?_⟩
   ·
    rcases hfr with h | ⟨g', h1, h2⟩
    · exact hlow g (by rw [← h]; exact hg)
    ·
     rw [h1] at hg; cases hg
     have := (hEj.ext yk2).size
     omega
   ·
    obtain ⟨cs', hb'⟩ := own_blkty hown hg
    exact hb'.ne hBj (by decide)
  refine G.ops1 rfl rfl (R.build (v := .agg #[.slice av (X.1.nodes.length + 1) cv]) [(0, _)] rfl (fun _ => by kernel_rfl)) (G.mem0 rfl (M.storeK Tryz.sizeOf31 rfl rfl rfl rfl (by simp [Value.oneCell']) hBj (by simp)) ?_)
  rintro yf ⟨_, hBf, hkf⟩
  have hown' := own_keep hown hkf (fun g hg h => (hnv g hg).2 h)
  refine Gs 3 rfl (G.retC Tryz.results60 rfl (run_loadK Tryz.isAgg31 Tryz.sizeOf31 rfl hBf.cells) ?_)
  refine ⟨_, rfl, ⟨_, rfl, ?_⟩, hEy.trans hkf (fun q hq h => by have h : q = r := h; omega)⟩
  rw [← hfin]
  refine SlR.ofRowK (by decide) encN encN_len (fun _ _ => rfl) (n := X.1.nodes.length + 1) (e := 40) ?_ (fun g hg => (hnv g hg).1)
  rw [List.flatMap_append]
  simpa using hown'
def graphOf (f : Fl) : List Nd := if checkN f = 0 then cfgN f else []
def nodeAtN (f : Fl) (k : Int) : Int × Int := if checkN f ≠ 0 then (0, checkN f) else if k < 0 ∨ ssize f.body ≤ k then (0, 3) else (fIdx (fun x : Nd => decide (x.at_ = k)) (cfgN f), 0)
def gcheckN (f : Fl) (g : List Nd) : Int := if checkN f ≠ 0 then checkN f else if cfgN f = g then 0 else 2
theorem ssize_le_of {f : Fl} (hsz : snodes f.body + hnodes f.hatches ≤ 1024) : ssize f.body ≤ 1024 := by have := ssize_snodes f.body; omega
theorem cfgBuild_ok (f : Fl) (v1 v2 v3 : Value) (D : Nat → Prop) (w : World) (hf : RFl D w f v1 v2 v3) (hsz : snodes f.body + hnodes f.hatches ≤ 1024) (hbk : sbulk f.body ≤ 1000000) :
  Calls Tryz.prog 16 #[.agg #[v1, v2, v3]] w (Ret fun r w' => (∃ nv, r = .tuple #[.agg #[nv], .int .i64 (checkN f)] ∧ SlR 4 RNd (fun b => w.heap.size ≤ b) w' nv (graphOf f)) ∧ Ext w w') := by
 have hss := ssize_le_of hsz
 have hE := Keep.refl (fun _ => False) w
 refine G.in1 Tryz.func16 rfl Tryz.ntmps16 rfl (Gs 2 rfl (G.mem rfl rfl (M.box rfl rfl) ?_))
 rintro _ w_b ⟨b, rfl, hg_b, hs_b, hB_b, hk_b⟩
 have hge_b : _ ≤ b := Nat.le_trans hE.size (Nat.le_of_eq hg_b.symm)
 obtain ⟨hE, hf⟩ := Tr2 hk_b hE hf
 refine G.mem rfl rfl (M.alloc (cs := [.slice none 0 0]) Tryz.zeroValue31 rfl) ?_
 rintro _ w_r ⟨r, rfl, hg_r, hs_r, hB_r, hk_r⟩
 have hn_b_r : b ≠ r := by have := hB_b.lt; omega
 have hge_r : _ ≤ r := Nat.le_trans hE.size (Nat.le_of_eq hg_r.symm)
 obtain ⟨hE, hf, hB_b⟩ := Tr3 hk_r hE hf hB_b
 refine Gs 6 rfl (G.ldK rfl Tryz.isAgg26 Tryz.sizeOf26 hB_b.cells rfl (G.call rfl Tryz.call59 (flatCheck_ok f _ _ _ D _ hf hsz hbk) ?_))
 rintro _ wz1 ⟨rfl, hz1⟩
 obtain ⟨hE, hf, hB_b, hB_r⟩ := Tr4 hz1 hE hf hB_b hB_r
 refine Gs 9 rfl (G.ite rfl (fun h0 => ?_) (fun h0 => ?_))
 ·
  refine Gs 2 rfl (G.ops1 rfl rfl (R.build (v := .agg #[.slice none 0 0]) [] rfl (fun _ => by kernel_rfl)) (Gs 1 rfl (G.mem0 rfl (M.storeK Tryz.sizeOf31 rfl rfl rfl rfl (by simp [Value.oneCell']) hB_r (by simp)) ?_)))
  rintro wf ⟨_, hBf, hkf⟩
  refine Gs 5 rfl (G.retCT Tryz.results16 rfl (run_loadK Tryz.isAgg31 Tryz.sizeOf31 rfl hBf.cells) rfl ?_)
  refine ⟨_, rfl, ⟨_, rfl, ?_⟩, hE.trans hkf (fun q hq h => by have h : q = r := h; omega)⟩
  rw [graphOf, if_neg h0]; exact SlR.nil
 ·
  have h0' : checkN f = 0 := by omega
  refine Gs 4 rfl (G.ldK rfl Tryz.isAgg26 Tryz.sizeOf26 hB_b.cells rfl ?_)
  have hE0 := hE
  have hr0 := hB_r.lt
  refine G.call rfl Tryz.call60 (build_ok f _ _ _ D _ hf (check_plain h0') (by omega)) ?_
  rintro _ wz2 ⟨⟨nv, rfl, hnv⟩, hz2⟩
  obtain ⟨hE, hf, hB_b, hB_r⟩ := Tr4 hz2 hE hf hB_b hB_r
  obtain ⟨an, cn, rfl⟩ := hnv.form
  refine G.mem0 rfl (M.storeK Tryz.sizeOf31 rfl rfl rfl rfl (by simp [Value.oneCell']) hB_r (by simp)) ?_
  rintro wf ⟨_, hBf, hkf⟩
  refine Gs 4 rfl (G.retCT Tryz.results16 rfl (run_loadK Tryz.isAgg31 Tryz.sizeOf31 rfl hBf.cells) rfl ?_)
  refine ⟨_, rfl, ⟨_, by rw [h0']; rfl, ?_⟩, hE.trans hkf (fun q hq h => by have h : q = r := h; omega)⟩
  rw [graphOf, if_pos h0']
  have hsz0 := hE0.size
  exact (hnv.keep stable_nd hkf (fun q hq _ h => by have h : q = r := h; omega)).wide stable_nd (fun q hq => by omega)
theorem cfgCheck_ok (f : Fl) (g : List Nd) (v1 v2 v3 gv : Value) (D Dg : Nat → Prop) (w : World) (hf : RFl D w f v1 v2 v3) (hg : SlR 4 RNd Dg w gv g) (hsz : snodes f.body + hnodes f.hatches ≤ 1024) (hbk : sbulk f.body ≤ 1000000) :
  Calls Tryz.prog 18 #[.agg #[v1, v2, v3], .agg #[gv]] w (Ret fun r w' => r = .int .i64 (gcheckN f g) ∧ Ext w w') := by
 have hss := ssize_le_of hsz
 have hE := Keep.refl (fun _ => False) w
 obtain ⟨ag, cg, rfl⟩ := hg.form
 refine G.in2 Tryz.func18 rfl Tryz.ntmps18 rfl (Gs 2 rfl (G.mem rfl rfl (M.box rfl rfl) ?_))
 rintro _ w_b ⟨b, rfl, hg_b, hs_b, hB_b, hk_b⟩
 have hge_b : _ ≤ b := Nat.le_trans hE.size (Nat.le_of_eq hg_b.symm)
 obtain ⟨hE, hf, hg⟩ := Tr3 hk_b hE hf hg
 refine G.mem rfl rfl (M.box rfl rfl) ?_
 rintro _ w_b2 ⟨b2, rfl, hg_b2, hs_b2, hB_b2, hk_b2⟩
 have hn_b_b2 : b ≠ b2 := by have := hB_b.lt; omega
 have hge_b2 : _ ≤ b2 := Nat.le_trans hE.size (Nat.le_of_eq hg_b2.symm)
 obtain ⟨hE, hf, hg, hB_b⟩ := Tr4 hk_b2 hE hf hg hB_b
 refine Gs 6 rfl (G.ldK rfl Tryz.isAgg26 Tryz.sizeOf26 hB_b.cells rfl (G.call rfl Tryz.call59 (flatCheck_ok f _ _ _ D _ hf hsz hbk) ?_))
 rintro _ wz1 ⟨rfl, hz1⟩
 obtain ⟨hE, hf, hg, hB_b, hB_b2⟩ := Tr5 hz1 hE hf hg hB_b hB_b2
 refine Gs 9 rfl (G.ite rfl (fun h0 => ?_) (fun h0 => ?_))
 · refine Gs 8 rfl (G.ret1 Tryz.results18 rfl ⟨_, rfl, by rw [gcheckN, if_pos h0], hE⟩)
 ·
  have h0' : checkN f = 0 := by omega
  refine Gs 4 rfl (Dw (fun q => Ext wz1 q) [] (fun wd2 hD _ => ?_))
  refine WD.take 0 rfl (by kernel_rfl) rfl rfl rfl hD (fun w1 hw1 => R.loadK Tryz.isAgg26 Tryz.sizeOf26 rfl (by rfl) (hw1.blk hB_b (fun h => h)).cells) (Ds [3] (by kernel_rfl) rfl (WD.take 4 rfl (by kernel_rfl) rfl rfl rfl hD (fun w1 hw1 => R.load Tryz.isAgg29 rfl ((hw1.blk hB_b2 (fun h => h)).cells 0 _ rfl)) (WD.call 1 rfl (by kernel_rfl) rfl rfl rfl (F.call (vs := [_]) Tryz.call60 rfl) (build_ok f _ _ _ D _ (hf.ext hD) (check_plain h0') (by omega)) ?_)))
  rintro _ wz3 ⟨⟨nv, rfl, hnv⟩, hz3⟩
  replace hD := hD.ext hz3
  refine ⟨fun _ => hD, ?_⟩
  refine WD.takeW 2 rfl (by kernel_rfl) rfl rfl rfl (fun w1 => R.field Tryz.runUnderlying31 rfl Tryz.isAgg29 rfl rfl) (WD.call 5 rfl (by kernel_rfl) rfl rfl rfl (F.call (vs := [_, _]) Tryz.call19 rfl) (eqNodes_ok (cfgN f) g _ _ _ Dg _ hnv (hg.ext stable_nd hD)) ?_)
  rintro _ wz4 ⟨rfl, hz4⟩
  replace hD := hD.ext hz4
  refine ⟨fun _ => hD, ?_⟩
  refine WD.takeW 6 rfl (by kernel_rfl) rfl rfl rfl (fun w1 => R.notU rfl (by first | exact not_decide_eq | rfl)) (G.done (by kernel_rfl) ?_ _)
  obtain ⟨hE, hf, hg, hB_b, hB_b2⟩ := Tr5 hD hE hf hg hB_b hB_b2
  refine Gs 1 rfl (G.ite rfl (fun h1 => ?_) (fun h1 => ?_))
  · refine Gs 7 rfl (G.ret1 Tryz.results18 rfl ⟨_, rfl, by rw [gcheckN, if_neg (by omega), if_neg h1], hE⟩)
  · refine Gs 8 rfl (G.ret1 Tryz.results18 rfl ⟨_, rfl, by rw [gcheckN, if_neg (by omega), if_pos (Decidable.not_not.1 h1)], hE⟩)
theorem nodeAt_ok (f : Fl) (k : Int) (v1 v2 v3 : Value) (D : Nat → Prop) (w : World) (hf : RFl D w f v1 v2 v3) (hsz : snodes f.body + hnodes f.hatches ≤ 1024) (hbk : sbulk f.body ≤ 1000000) :
  Calls Tryz.prog 22 #[.agg #[v1, v2, v3], .int .i64 k] w (Ret fun r w' => r = .tuple #[.int .i64 (nodeAtN f k).1, .int .i64 (nodeAtN f k).2] ∧ Ext w w') := by
 have hss := ssize_le_of hsz
 have hE := Keep.refl (fun _ => False) w
 refine G.in2 Tryz.func22 rfl Tryz.ntmps22 rfl (Gs 2 rfl (G.mem rfl rfl (M.box rfl rfl) ?_))
 rintro _ w_b ⟨b, rfl, hg_b, hs_b, hB_b, hk_b⟩
 have hge_b : _ ≤ b := Nat.le_trans hE.size (Nat.le_of_eq hg_b.symm)
 obtain ⟨hE, hf⟩ := Tr2 hk_b hE hf
 refine G.mem rfl rfl (M.box rfl rfl) ?_
 rintro _ w_b2 ⟨b2, rfl, hg_b2, hs_b2, hB_b2, hk_b2⟩
 have hn_b_b2 : b ≠ b2 := by have := hB_b.lt; omega
 have hge_b2 : _ ≤ b2 := Nat.le_trans hE.size (Nat.le_of_eq hg_b2.symm)
 obtain ⟨hE, hf, hB_b⟩ := Tr3 hk_b2 hE hf hB_b
 refine Gs 7 rfl (G.ldK rfl Tryz.isAgg26 Tryz.sizeOf26 hB_b.cells rfl (G.call rfl Tryz.call59 (flatCheck_ok f _ _ _ D _ hf hsz hbk) ?_))
 rintro _ wz1 ⟨rfl, hz1⟩
 obtain ⟨hE, hf, hB_b, hB_b2⟩ := Tr4 hz1 hE hf hB_b hB_b2
 refine Gs 9 rfl (G.ite rfl (fun h0 => ?_) (fun h0 => ?_))
 · refine Gs 9 rfl (G.ret2 Tryz.results22 rfl rfl ⟨_, rfl, by rw [nodeAtN, if_pos h0], hE⟩)
 ·
  have h0' : checkN f = 0 := by omega
  refine Gs 4 rfl (Dw (fun q => Ext wz1 q) [] (fun wd2 hD _ => ?_))
  refine WD.take 0 rfl (by kernel_rfl) rfl rfl rfl hD (fun w1 hw1 => R.load Tryz.isAgg3 rfl ((hw1.blk hB_b2 (fun h => h)).cells 0 _ rfl)) (Ds [1, 2] (by kernel_rfl) rfl (WD.sp 14 rfl (fun hn => ?_) (fun hn => ?_)))
  ·
   refine Ds [3, 4] (by kernel_rfl) rfl (WD.skip 5 rfl (by kernel_rfl) (fun a ha => wanted_no ha rfl rfl rfl rfl) rfl rfl hD (Ds [6, 7] (by kernel_rfl) rfl (G.done (by kernel_rfl) ?_ _)))
   obtain ⟨hE, hf, hB_b, hB_b2⟩ := Tr4 hD hE hf hB_b hB_b2
   refine Gs 10 rfl (G.ret2 Tryz.results22 rfl rfl ⟨_, rfl, by rw [nodeAtN, if_neg (by omega), if_pos (.inl hn)], hE⟩)
  ·
   refine WD.takeG 3 rfl (by kernel_rfl) rfl rfl hD (.inl ⟨fun a ha => wanted_yes ha rfl rfl rfl rfl, fun w1 hw1 => R.load Tryz.isAgg3 rfl ((hw1.blk hB_b2 (fun h => h)).cells 0 _ rfl)⟩) (WD.takeG 4 rfl (by kernel_rfl) rfl rfl hD (.inl ⟨fun a ha => wanted_yes ha rfl rfl rfl rfl, fun w1 hw1 => R.loadK Tryz.isAgg26 Tryz.sizeOf26 rfl (by rfl) (hw1.blk hB_b (fun h => h)).cells⟩) (WD.callG 5 rfl (by kernel_rfl) (fun a ha => wanted_yes ha rfl rfl rfl rfl) rfl rfl (F.call (vs := [_]) Tryz.call70 rfl) (flatSizeF_ok f _ _ _ D _ (hf.ext hD) (by omega)) ?_))
   rintro _ wz3 ⟨rfl, hz3⟩
   replace hD := hD.ext hz3
   refine ⟨fun _ => hD, ?_⟩
   refine Ds [6, 7] (by kernel_rfl) rfl (G.done (by kernel_rfl) ?_ _)
   obtain ⟨hE, hf, hB_b, hB_b2⟩ := Tr4 hD hE hf hB_b hB_b2
   refine Gs 1 rfl (G.ite rfl (fun h1 => ?_) (fun h1 => ?_))
   · refine Gs 8 rfl (G.ret2 Tryz.results22 rfl rfl ⟨_, rfl, by rw [nodeAtN, if_neg (by omega), if_pos (.inr h1)], hE⟩)
   ·
    refine Gs 4 rfl (G.ldK rfl Tryz.isAgg26 Tryz.sizeOf26 hB_b.cells rfl (G.call rfl Tryz.call60 (build_ok f _ _ _ D _ hf (check_plain h0') (by omega)) ?_))
    rintro _ wz4 ⟨⟨nv, rfl, hnv⟩, hz4⟩
    obtain ⟨hE, hf, hB_b, hB_b2⟩ := Tr4 hz4 hE hf hB_b hB_b2
    refine G.ops1 rfl rfl (R.field Tryz.runUnderlying31 rfl Tryz.isAgg29 rfl rfl) (Gs 1 rfl ?_)
    have hB2' := hB_b2
    refine G.call rfl Tryz.call24 (idxN_ok (cfgN f) _ _ _ hnv (fun x : Nd => decide (x.at_ = k)) 71 (.pointer (some ⟨b2, 0, none⟩)) Tryz.call71 (fun y _ w' hw' => atN_ok y k b2 w' (hw'.blk hB2' (fun h => h)))) ?_
    rintro _ wz5 ⟨rfl, hz5⟩
    obtain ⟨hE, hf, hB_b, hB_b2⟩ := Tr4 hz5 hE hf hB_b hB_b2
    refine Gs 5 rfl (G.ret2 Tryz.results22 rfl rfl ⟨_, rfl, by rw [nodeAtN, if_neg (by omega), if_neg (by omega)], hE⟩)
end Go.Proofs.YtldhllpogdikdaaGreat
namespace Go.GL
open Go.RowKit
def OwnR {α : Type} (e : TypeId) (k : Nat) (R : Rel α) (D : Nat → Prop) (w : World) (v : Value) (l : List α) : Prop :=
 ∃ xs : List Value, w.ownsRow 0 e k v l.length xs ∧ ∀ (i : Nat) x, l[i]? = some x → R D w x ((xs.drop (i * k)).take k)
section
variable {α : Type} {e : TypeId} {k : Nat} {R : Rel α} {D : Nat → Prop} {w w' : World} {v : Value} {l : List α}
theorem OwnR.nil : OwnR e k R D w (.slice none 0 0) ([] : List α) := ⟨[], own_nil _ _ _, fun i x h => by simp at h⟩
theorem OwnR.keep {S : Nat → Prop} (h : OwnR e k R D w v l) (hs : Stable R) (hk : Keep S w w') (hD : ∀ q, D q → q < w.heap.size → ¬ S q) (hv : ∀ g, v.ownBlock = some g → ¬ S g) : OwnR e k R D w' v l := by
 obtain ⟨xs, h1, h2⟩ := h
 exact ⟨xs, own_keep h1 hk hv, fun i x hx => hs D D w w' (fun _ h => h) (fun b hb hlt => hk.block b hlt (hD b hb hlt)) x _ (h2 i x hx)⟩
theorem OwnR.ext (h : OwnR e k R D w v l) (hs : Stable R) (hk : Ext w w') : OwnR e k R D w' v l := h.keep hs hk (fun _ _ _ h => h) (fun _ _ h => h)
instance [h : StC R] : Tr (OwnR e k R D w v l) w w' (OwnR e k R D w' v l) := ⟨fun h' hk => h'.ext h.s hk⟩
theorem OwnR.lit {g : Nat} {cs : List Value} {x : α} (hb : Blk w g cs e) (hk : cs.length = k) (hx : R D w x cs) : OwnR e k R D w (.slice (some ⟨g, 0, none⟩) 1 1) [x] := by
 refine ⟨cs, ?_, fun i y hy => ?_⟩
 ·
  have := own_blk (k := k) (n := 1) (cap := 1) hb (Nat.le_refl _) (by decide) (by omega)
  rw [List.take_of_length_le (by omega)] at this
  exact this
 ·
  cases i with
  | zero => simp at hy; subst hy; rw [Nat.zero_mul, List.drop_zero, List.take_of_length_le (by omega)]; exact hx
  | succ i => simp at hy
theorem OwnR.ones (hR : ∀ x cs, R D w x cs → ∀ u ∈ cs, u.oneCell' = true) {n : Nat} {xs : List Value} (h1 : w.ownsRow 0 e k v n xs) (hn : n = l.length) (h2 : ∀ (i : Nat) x, l[i]? = some x → R D w x ((xs.drop (i * k)).take k)) : ∀ u ∈ xs, u.oneCell' = true := by
 intro u hu
 obtain ⟨q, hq⟩ := List.mem_iff_getElem?.1 hu
 have hql := (List.getElem?_eq_some_iff.1 hq).1
 have hxl := h1.1
 have hk : 0 < k := by
  rcases Nat.eq_zero_or_pos k with rfl | h
  · rw [Nat.mul_zero] at hxl; omega
  · exact h
 have hi : q / k < l.length := by rw [Nat.div_lt_iff_lt_mul hk, ← hn]; omega
 have hd : q / k * k + q % k = q := by rw [Nat.mul_comm]; exact Nat.div_add_mod q k
 have hm := Nat.mod_lt q hk
 refine hR _ _ (h2 (q / k) l[q / k] (List.getElem?_eq_getElem hi)) u ?_
 refine List.mem_iff_getElem?.2 ⟨q % k, ?_⟩
 rw [List.getElem?_take, if_pos hm, List.getElem?_drop, hd]; exact hq
theorem OwnR.sl {D' : Nat → Prop} (h : OwnR e k R D w v l) (hk : 0 < k) (hs : Stable R) (hD : ∀ q, D q → D' q) (hv : ∀ g, v.ownBlock = some g → D' g) : SlR k R D' w v l := by
 obtain ⟨xs, h1, h2⟩ := h
 obtain ⟨ao, cap, rfl, hc, hm⟩ := own_slice h1
 refine ⟨ao, cap, rfl, hc, hm, fun i x hx => ?_⟩
 have hi := (List.getElem?_eq_some_iff.1 hx).1
 have hxl := h1.1
 obtain ⟨a0, rfl⟩ : ∃ a0, ao = some a0 := by
  cases ao with
  | some a0 => exact ⟨a0, rfl⟩
  | none =>
   rcases h1.2 with ⟨_, h⟩ | ⟨g, cap, cur, h, _⟩
   · omega
   · cases h
 obtain ⟨e1, e2, hcl⟩ := own_cellsK h1
 obtain ⟨b0, o0, s0⟩ := a0
 simp only at e1 e2 hcl
 subst e1; subst e2
 have h5 : (i + 1) * k ≤ l.length * k := Nat.mul_le_mul_right _ hi
 rw [Nat.succ_mul] at h5
 refine ⟨b0, 0, _, rfl, hv b0 rfl, ?_, ?_, hs D D' w w hD (fun _ _ _ => rfl) x _ (h2 i x hx)⟩
 · rw [List.length_take, List.length_drop]; omega
 ·
  intro j u hj
  rw [List.getElem?_take] at hj
  split at hj
  ·
   rw [List.getElem?_drop] at hj
   have := hcl _ _ hj
   rw [Nat.zero_add] at this ⊢
   exact this
  · cases hj
theorem OwnR.form (h : OwnR e k R D w v l) : ∃ ao c, v = .slice ao l.length c ∧ l.length ≤ c ∧ c ≤ 9223372036854775807 := by
 obtain ⟨xs, h1, _⟩ := h
 exact own_slice h1
theorem OwnR.ty (h : OwnR e k R D w v l) {g : Nat} (hg : v.ownBlock = some g) : ∃ cs, Blk w g cs e := by
 obtain ⟨xs, h1, _⟩ := h
 exact own_blkty h1 hg
end
section
variable {α : Type} {R : Rel α} {D : Nat → Prop} {P : Program} {env : Env} {w : World} {dst : Option Tmp} {ty : TypeId} {pos : String} {aft : Array Edge} {g : Option (Nat × Bool)} {l l' : List α}
theorem M.appendR {t e : TypeId} {k by' : Nat} {z : Value} {x y : Operand} {v vy : Value} (hu : P.underlying t = some (.slice e)) (he : (P.info? e).map (fun i => (i.zero, i.size, i.bytes)) = some (some z, k, by')) (hzs : z.cells.size = k) (hk : 0 < k)
  (hx : ev env x = some v) (hy : ev env y = some vy) (hs : Stable R) (h1 : ∀ x cs, R D w x cs → ∀ u ∈ cs, u.oneCell' = true) (hown : OwnR e k R D w v l) (hoy : OwnR e k R D w vy l') (hD : ∀ q, D q → q < w.heap.size → v.ownBlock ≠ some q) (hmax : l.length + l'.length ≤ 9223372036854775807) (hby : (l.length + l'.length) * by' ≤ 140737488355328) :
  Makes P ⟨dst, .call ⟨.builtin .append, #[x, y], #[t, t]⟩, ty, pos, aft, g⟩ env w (fun u w' => OwnR e k R D w' u (l ++ l') ∧ (u.ownBlock = v.ownBlock ∨ ∃ g, u.ownBlock = some g ∧ w.heap.size ≤ g) ∧ Keep (fun k => v.ownBlock = some k) w w') := by
 obtain ⟨ys, q1, q2⟩ := hoy
 obtain ⟨xs, q3, q4⟩ := hown
 obtain ⟨u, w', hr, h5, h6, h7⟩ := M.appendO (g := g) (pos := pos) (aft := aft) (dst := dst) (ty := ty) hu he hzs hk hx hy q3 q1 (OwnR.ones h1 q1 rfl q2) hmax hby
 refine ⟨u, w', hr, ?_, h6, h7⟩
 refine ⟨xs ++ ys, by rw [List.length_append]; exact h5, ?_⟩
 have hst : ∀ x cs, R D w x cs → R D w' x cs := fun x cs h => hs D D w w' (fun _ h => h) (fun b hb hlt => h7.block b hlt (hD b hb hlt)) x cs h
 intro i x hx
 have hxl := q3.1
 by_cases hi : i < l.length
 ·
  rw [List.getElem?_append_left hi] at hx
  have h5 : (i + 1) * k ≤ l.length * k := Nat.mul_le_mul_right _ hi
  rw [Nat.succ_mul] at h5
  rw [List.drop_append_of_le_length (by omega), List.take_append_of_le_length (by rw [List.length_drop]; omega)]
  exact hst _ _ (q4 i x hx)
 ·
  rw [List.getElem?_append_right (by omega)] at hx
  have h5 : l.length * k ≤ i * k := Nat.mul_le_mul_right _ (by omega)
  rw [List.drop_append, List.drop_eq_nil_of_le (by omega), List.nil_append, hxl, ← Nat.sub_mul]
  exact hst _ _ (q2 _ x hx)
end
mutual
/-- The steps in preorder. -/
def St.pre : St → List St
 | .mk a c v n t f g b => .mk a c v n t f g b :: (preL f ++ preL g)
def preL : List St → List St
 | [] => []
 | s :: r => s.pre ++ preL r
end
theorem St.pre_eq (s : St) : s.pre = s :: (preL s.thn ++ preL s.els) := by cases s; rw [St.pre]; rfl
theorem preL_append (a b : List St) : preL (a ++ b) = preL a ++ preL b := by
 induction a with
 | nil => rfl
 | cons x r ih => rw [List.cons_append, preL, ih, preL, List.append_assoc]
theorem preL_take {l : List St} {i : Nat} {x : St} (h : l[i]? = some x) : preL (l.take (i + 1)) = preL (l.take i) ++ x.pre := by rw [take_get h, preL_append]; simp [preL]
theorem preL_len : ∀ l : List St, (preL l).length = ssize l := by
 intro l
 induction l using Sts.ind with
 | h l ih =>
  have key : ∀ r : List St, (∀ s ∈ r, (preL s.thn).length = ssize s.thn ∧ (preL s.els).length = ssize s.els) → (preL r).length = ssize r := by
   intro r
   induction r with
   | nil => intro _; rfl
   | cons x r ih2 =>
    intro h
    have h1 := h x (List.mem_cons_self ..)
    have h2 := ih2 (fun s hs => h s (List.mem_cons_of_mem _ hs))
    have h4 := x.size_eq
    rw [preL, List.length_append, x.pre_eq, List.length_cons, List.length_append, h1.1, h1.2, h2, ssize]; omega
  exact key l ih
end Go.GL
namespace Go.Proofs.YtldhllpogdikdaaGreat
open Go.GL
theorem step_row {w w1 w2 : World} {vo vo' : Value} {c : Nat} (hE : Ext w w1) (hf : ∀ g, vo.ownBlock = some g → w.heap.size ≤ g) (hc : vo.ownBlock ≠ some c) (hcl : c < w1.heap.size) (hfr : vo'.ownBlock = vo.ownBlock ∨ ∃ g, vo'.ownBlock = some g ∧ w1.heap.size ≤ g) (hk : Keep (fun k => vo.ownBlock = some k) w1 w2) :
  Ext w w2 ∧ (∀ g, vo'.ownBlock = some g → w.heap.size ≤ g) ∧ vo'.ownBlock ≠ some c := by
 have hs := hE.size
 refine ⟨Keep.trans hE hk (fun k hk h => by have := hf k h; omega), fun g hg => ?_, fun h => ?_⟩
 ·
  rcases hfr with h | ⟨g', h, h'⟩
  · exact hf g (by rw [← h]; exact hg)
  · rw [h] at hg; cases hg; omega
 ·
  rcases hfr with h2 | ⟨g', h2, h'⟩
  · exact hc (by rw [← h2]; exact h)
  · rw [h2] at h; cases h; omega
theorem flatten_ok (l : List St) : ∀ (v : Value) (D : Nat → Prop) (w : World), SlR 10 RSt D w v l → (∀ q, D q → q < w.heap.size) → ssize l ≤ 10000 → Calls Tryz.prog 80 #[v] w (Ret fun r w' => OwnR 86 10 RSt D w' r (preL l) ∧ (∀ g, r.ownBlock = some g → w.heap.size ≤ g) ∧ Ext w w') := by
 induction l using Sts.ind with
 | h l ih =>
 intro v D w hl0 hD hsz
 obtain ⟨av, cv, rfl⟩ := hl0.form
 have hmx := hl0.max
 refine G.in1 Tryz.func80 rfl Tryz.ntmps80 rfl (Gs 19 rfl (G.loop (σ := Nat × Value) (fun ⟨i, vo⟩ => [(3, vo), (6, .slice av l.length cv), (7, .int .i64 l.length), (8, .int .i64 i)]) (fun ⟨i, vo⟩ => fun w' => i ≤ l.length ∧ OwnR 86 10 RSt D w' vo (preL (l.take i)) ∧ (∀ g, vo.ownBlock = some g → w.heap.size ≤ g) ∧ Ext w w') (fun ⟨i, vo⟩ => l.length - i) ((0, .slice none 0 0)) (Sub.of rfl) (⟨Nat.zero_le _, OwnR.nil, fun g hg => by simp [Value.ownBlock] at hg, Keep.refl _ _⟩) ?_))
 rintro ⟨i, vo⟩ w1 ⟨hi, ho, hf, hE⟩
 show G _ _ _ _ _ [(3, vo), (6, .slice av l.length cv), (7, .int .i64 l.length), (8, .int .i64 i)] _
 refine Gs 6 rfl (G.ite rfl (fun hlt => ?_) (fun hge => ?_))
 ·
  obtain ⟨s, he⟩ : ∃ x, l[i]? = some x := ⟨_, List.getElem?_eq_getElem (by omega)⟩
  have hm := List.mem_of_getElem? he
  have hl := hl0.ext stable_st hE
  obtain ⟨bq, oq, cq, haq, hDq, _, hcq, hRq⟩ : ∃ b o cs, av = some ⟨b, o, none⟩ ∧ D b ∧ cs.length = 10 ∧ Cells w1 b (o + i * 10) cs ∧ RSt D w1 s cs := by
   obtain ⟨ao', cap', h1, h2, h3, h4⟩ := hl
   cases h1
   exact h4 i s he
  have hone := hRq.one
  have hsp := ssize_split he
  have hse := s.size_eq
  have hpt := preL_take he
  have hpl := preL_len (l.take i)
  have hpl1 := preL_len s.thn
  have hpl2 := preL_len s.els
  have hRq0 := hRq
  obtain ⟨v1, v2, v3, v4, rfl, q1, q2, q3, q4⟩ := hRq.get
  refine Gs 6 rfl (G.ops1 rfl rfl (R.indexS Tryz.runUnderlying24 Tryz.sizeOf86 rfl rfl haq (by omega)) (G.ldK rfl Tryz.isAgg86 Tryz.sizeOf86 hcq rfl (G.mem rfl rfl (M.alloc (cs := _) Tryz.zeroValue86 rfl) ?_)))
  rintro _ w2 ⟨c, rfl, hc, hsc, hBc0, hk2⟩
  refine G.mem0 rfl (M.storeK Tryz.sizeOf86 rfl rfl rfl rfl hone hBc0 (by simp)) ?_
  rintro w3 ⟨_, hBc, hkc⟩
  have hk3 : Ext w1 w3 := hk2.trans hkc (fun q hq h => by have h : q = c := h; omega)
  replace hBc : Blk w3 c [.int .i64 s.act, .int .i64 s.cost, .int .i64 s.var, .int .i64 s.n, .int .i64 s.term.op, .int .i64 s.term.n, v1, v2, v3, v4] 86 := hBc
  have hE3 := hE.ext hk3
  have ho3 := ho.ext stable_st hk3
  have hcw : w.heap.size ≤ c := by have := hE.size; omega
  have hcv : vo.ownBlock ≠ some c := fun h => by
   obtain ⟨cs', hb'⟩ := ho.ty h
   have := hb'.lt; omega
  refine Gs 5 rfl (G.ldK rfl Tryz.isAgg86 Tryz.sizeOf86 hBc.cells rfl (G.mem rfl rfl (M.buildSlice (cs := [.int .i64 s.act, .int .i64 s.cost, .int .i64 s.var, .int .i64 s.n, .int .i64 s.term.op, .int .i64 s.term.n, v1, v2, v3, v4]) [(0, _)] Tryz.runUnderlying24 Tryz.sizeOf86 Tryz.zeroValue86 (by decide) rfl (by kernel_rfl)) ?_))
  rintro _ w4 ⟨g4, rfl, hg4, hs4, hB4, hk4⟩
  have hE4 := hE3.ext hk4
  have ho4 := ho3.ext stable_st hk4
  have hBc4 := hk4.blk hBc (fun h => h)
  have hl4 : OwnR 86 10 RSt D w4 (.slice (some ⟨g4, 0, none⟩) 1 1) [s] := OwnR.lit hB4 rfl (RSt.put (q1.ext stable_tm (hk3.ext hk4)) (q2.ext stable_st (hk3.ext hk4)) (q3.ext stable_st (hk3.ext hk4)) (q4.ext stable_int (hk3.ext hk4)))
  refine G.mem rfl rfl (M.appendR Tryz.underlying24 Tryz.el86 rfl (by decide) rfl rfl stable_st (fun x cs h => h.one) ho4 hl4 (fun q hq _ h => by have := hf q h; have := hD q hq; omega) (by simp; omega) (by simp; omega)) ?_
  rintro vo5 w5 ⟨ho5, hf5, hk5⟩
  have hx5 := step_row hE4 hf hcv hBc4.lt hf5 hk5
  have hBc5 := hk5.blk hBc4 hcv
  have hA5 : Above w.heap.size w1 w5 := Above.then (Above.of_ext (hk3.ext hk4)) (Above.of_keep hk5 hf)
  have hE5 := hx5.1
  have hs5 := hE5.size
  refine Gs 7 rfl (G.ld rfl Tryz.isAgg24 (hBc5.cells 7 _ rfl) (G.call rfl Tryz.call80 ((ih s hm).1 _ D w5 (hA5.sl stable_st q2 hD) (fun q hq => by have := hD q hq; omega) (by omega)) ?_))
  rintro r6 w6 ⟨hr6, hrf6, hk6⟩
  have ho6 := ho5.ext stable_st hk6
  have hBc6 := hk6.blk hBc5 (fun h => h)
  refine G.mem rfl rfl (M.appendR Tryz.underlying24 Tryz.el86 rfl (by decide) rfl rfl stable_st (fun x cs h => h.one) ho6 hr6 (fun q hq _ h => by have := hx5.2.1 q h; have := hD q hq; omega) (by simp; omega) (by simp; omega)) ?_
  rintro vo7 w7 ⟨ho7, hf7, hk7⟩
  have hx7 := step_row (hE5.ext hk6) hx5.2.1 hx5.2.2 hBc6.lt hf7 hk7
  have hBc7 := hk7.blk hBc6 hx5.2.2
  have hA7 : Above w.heap.size w1 w7 := Above.then (hA5.ext' hk6) (Above.of_keep hk7 hx5.2.1)
  have hE7 := hx7.1
  have hs7 := hE7.size
  refine Gs 6 rfl (G.ld rfl Tryz.isAgg24 (hBc7.cells 8 _ rfl) (G.call rfl Tryz.call80 ((ih s hm).2 _ D w7 (hA7.sl stable_st q3 hD) (fun q hq => by have := hD q hq; omega) (by omega)) ?_))
  rintro r8 w8 ⟨hr8, hrf8, hk8⟩
  have ho8 := ho7.ext stable_st hk8
  have hBc8 := hk8.blk hBc7 (fun h => h)
  refine G.mem rfl rfl (M.appendR Tryz.underlying24 Tryz.el86 rfl (by decide) rfl rfl stable_st (fun x cs h => h.one) ho8 hr8 (fun q hq _ h => by have := hx7.2.1 q h; have := hD q hq; omega) (by simp; omega) (by simp; omega)) ?_
  rintro vo9 w9 ⟨ho9, hf9, hk9⟩
  have hx9 := step_row (hE7.ext hk8) hx7.2.1 hx7.2.2 hBc8.lt hf9 hk9
  refine Ga 8 rfl (by omega) (G.back ((i + 1, vo9)) (Sub.of rfl) (⟨by omega, by rw [hpt, s.pre_eq, show preL (l.take i) ++ s :: (preL s.thn ++ preL s.els) = preL (l.take i) ++ [s] ++ preL s.thn ++ preL s.els by simp]; exact ho9, hx9.2.1, hx9.1⟩) (by first | omega | (dsimp only; omega)))
 ·
  have hii : i = l.length := by omega
  subst hii
  rw [List.take_length] at ho
  refine Gs 12 rfl (G.ret1 Tryz.results80 rfl ⟨_, rfl, ho, hf, hE⟩)
end Go.Proofs.YtldhllpogdikdaaGreat
namespace Go.GL
open Go.RowKit Go.ChangeMaps
def lkm : List (Int × Value) → Int → Option (Nat × Value)
 | [], _ => none
 | (a, v) :: r, k => if k = a then some (0, v) else (lkm r k).map fun p => (p.1 + 1, p.2)
def getM (l : List (Int × Value)) (k : Int) : Option Value := (lkm l k).map (·.2)
def setM (l : List (Int × Value)) (k : Int) (v : Value) : List (Int × Value) := match lkm l k with
 | some p => l.set p.1 (k, v)
 | none => l ++ [(k, v)]
theorem lkm_some {l : List (Int × Value)} {k : Int} {p : Nat × Value} (h : lkm l k = some p) : l[p.1]? = some (k, p.2) := by
 induction l generalizing p with
 | nil => simp [lkm] at h
 | cons x r ih =>
  obtain ⟨a, v⟩ := x
  rw [lkm] at h
  split at h
  · rename_i h1; cases h; rw [h1]; rfl
  ·
   obtain ⟨q, h2, rfl⟩ := Option.map_eq_some_iff.1 h
   simpa using ih h2
theorem lkm_none {l : List (Int × Value)} {k : Int} (h : lkm l k = none) : ∀ p ∈ l, p.1 ≠ k := by
 induction l with
 | nil => intro p hp; simp at hp
 | cons x r ih =>
  obtain ⟨a, v⟩ := x
  rw [lkm] at h
  split at h
  · cases h
  ·
   rename_i h1
   intro p hp
   rcases List.mem_cons.1 hp with rfl | hp
   · exact fun h2 => h1 h2.symm
   · exact ih (by simpa using h) p hp
theorem getM_mem {l : List (Int × Value)} {k : Int} {v : Value} (h : getM l k = some v) : (k, v) ∈ l := by
 obtain ⟨p, h1, rfl⟩ := Option.map_eq_some_iff.1 h
 exact List.mem_of_getElem? (lkm_some h1)
theorem getM_of_mem {l : List (Int × Value)} (hn : (l.map (·.1)).Nodup) {k : Int} {v : Value} (h : (k, v) ∈ l) : getM l k = some v := by
 induction l with
 | nil => simp at h
 | cons x r ih =>
  obtain ⟨a, u⟩ := x
  rw [List.map_cons, List.nodup_cons] at hn
  rw [getM, lkm]
  rcases List.mem_cons.1 h with h1 | h1
  · cases h1; simp
  ·
   have hne : k ≠ a := fun e => hn.1 (List.mem_map.2 ⟨(k, v), h1, e⟩)
   rw [if_neg hne]
   have := ih hn.2 h1
   rw [getM] at this
   simpa [Option.map_map] using this
theorem getM_none_iff {l : List (Int × Value)} {k : Int} : getM l k = none ↔ ∀ p ∈ l, p.1 ≠ k := by
 rw [getM, Option.map_eq_none_iff]
 refine ⟨lkm_none, fun h => ?_⟩
 cases h1 : lkm l k with
 | none => rfl
 | some p => exact absurd rfl (h _ (List.mem_of_getElem? (lkm_some h1)))
theorem keys_setM (l : List (Int × Value)) (k : Int) (v : Value) : (setM l k v).map (·.1) = match lkm l k with
 | some _ => l.map (·.1)
 | none => l.map (·.1) ++ [k] := by
 unfold setM
 cases h : lkm l k with
 | none => simp
 | some p =>
  have h1 := lkm_some h
  simp only
  rw [List.map_set]
  apply List.ext_getElem?
  intro j
  rw [List.getElem?_set]
  split
  ·
   rename_i hj; subst hj
   rw [List.getElem?_map, h1]
   split
   · rfl
   · rename_i h2; rw [List.length_map] at h2; exact absurd (List.getElem?_eq_some_iff.1 h1).1 h2
  · rfl
theorem nodup_setM {l : List (Int × Value)} (hn : (l.map (·.1)).Nodup) (k : Int) (v : Value) : ((setM l k v).map (·.1)).Nodup := by
 rw [keys_setM]
 cases h : lkm l k with
 | some p => exact hn
 | none =>
  simp only
  rw [List.nodup_append]
  refine ⟨hn, by simp, fun a ha b hb => ?_⟩
  rw [List.mem_singleton] at hb
  subst hb
  obtain ⟨p, hp, rfl⟩ := List.mem_map.1 ha
  exact lkm_none h p hp
theorem getM_setM {l : List (Int × Value)} (hn : (l.map (·.1)).Nodup) (k k' : Int) (v : Value) : getM (setM l k v) k' = if k' = k then some v else getM l k' := by
 have hn' := nodup_setM hn k v
 have key : ∀ u, (k', u) ∈ setM l k v ↔ (k' = k ∧ u = v) ∨ (k' ≠ k ∧ (k', u) ∈ l) := by
  intro u
  unfold setM
  cases h : lkm l k with
  | none =>
   have h1 := lkm_none h
   simp only [List.mem_append, List.mem_singleton, Prod.mk.injEq]
   constructor
   ·
    rintro (h2 | h2)
    · exact .inr ⟨h1 _ h2, h2⟩
    · exact .inl h2
   ·
    rintro (h2 | h2)
    · exact .inr h2
    · exact .inl h2.2
  | some p =>
   have h1 := lkm_some h
   obtain ⟨hlt, h1'⟩ := List.getElem?_eq_some_iff.1 h1
   simp only
   constructor
   ·
    intro h2
    obtain ⟨j, hj⟩ := List.mem_iff_getElem?.1 h2
    rw [List.getElem?_set] at hj
    split at hj
    ·
     first
      | (split at hj <;> cases hj <;> exact .inl ⟨rfl, rfl⟩)
      | (cases hj; exact .inl ⟨rfl, rfl⟩)
    ·
     rename_i hne
     refine .inr ⟨?_, List.mem_of_getElem? hj⟩
     rintro rfl
     have hjl := (List.getElem?_eq_some_iff.1 hj).1
     have := (List.nodup_iff_pairwise_ne.1 hn)
     rw [List.pairwise_iff_getElem] at this
     have e1 : (l.map (·.1))[p.1]'(by rw [List.length_map]; exact hlt) = k' := by rw [List.getElem_map, h1']
     have e2 : (l.map (·.1))[j]'(by rw [List.length_map]; exact hjl) = k' := by rw [List.getElem_map, (List.getElem?_eq_some_iff.1 hj).2]
     rcases Nat.lt_or_ge p.1 j with h3 | h3
     · exact this p.1 j _ _ h3 (by rw [e1, e2])
     · exact this j p.1 _ _ (by omega) (by rw [e1, e2])
   ·
    rintro (⟨rfl, rfl⟩ | ⟨h2, h3⟩)
    · exact List.mem_of_getElem? (by rw [List.getElem?_set_self hlt])
    ·
     obtain ⟨j, hj⟩ := List.mem_iff_getElem?.1 h3
     refine List.mem_iff_getElem?.2 ⟨j, ?_⟩
     rw [List.getElem?_set_ne]
     · exact hj
     ·
      rintro rfl
      rw [h1] at hj
      exact h2 (congrArg Prod.fst (Option.some.inj hj)).symm
 by_cases h : k' = k
 ·
  rw [if_pos h]
  exact getM_of_mem hn' ((key v).2 (.inl ⟨h, rfl⟩))
 ·
  rw [if_neg h]
  cases h2 : getM l k' with
  | some u => exact getM_of_mem hn' ((key u).2 (.inr ⟨h, getM_mem h2⟩))
  | none =>
   rw [getM_none_iff] at h2 ⊢
   rintro ⟨a, u⟩ hp rfl
   rcases (key u).1 hp with h3 | h3
   · exact h h3.1
   · exact h2 _ h3.2 rfl
def MapI (w : World) (m : Nat) (l : List (Int × Value)) : Prop :=
 ∃ (es : Array MapEntry) (clock : Nat), w.heap[m]? = some (.map es clock) ∧ es.toList.map (fun e => (e.key, e.val)) = l.map (fun p => (Value.int .i64 p.1, p.2)) ∧ (∀ e ∈ es.toList, e.born < clock) ∧ (es.toList.map (·.born)).Nodup ∧ (l.map (·.1)).Nodup
theorem MapI.nodup {w : World} {m : Nat} {l : List (Int × Value)} (h : MapI w m l) : (l.map (·.1)).Nodup := h.choose_spec.choose_spec.2.2.2.2
theorem MapI.keep {w w' : World} {S : Nat → Prop} {m : Nat} {l : List (Int × Value)} (h : MapI w m l) (hk : Keep S w w') (hS : ¬ S m) : MapI w' m l := by
 obtain ⟨es, c, h1, r⟩ := h
 exact ⟨es, c, by rw [hk.block m (Array.getElem?_eq_some_iff.1 h1).1 hS]; exact h1, r⟩
theorem MapI.ext {w w' : World} {m : Nat} {l : List (Int × Value)} (h : MapI w m l) (hk : Ext w w') : MapI w' m l := h.keep hk (fun h => h)
theorem MapI.lt {w : World} {m : Nat} {l : List (Int × Value)} (h : MapI w m l) : m < w.heap.size := by
 obtain ⟨es, c, h1, r⟩ := h
 exact (Array.getElem?_eq_some_iff.1 h1).1
theorem MapI.ne {w : World} {m b : Nat} {l : List (Int × Value)} {cs : List Value} {e : TypeId} (h : MapI w m l) (hb : Blk w b cs e) : b ≠ m := by
 rintro rfl
 obtain ⟨es, c, h1, r⟩ := h
 unfold Blk at hb
 rw [h1] at hb
 cases hb
theorem findNow_int (k : Int) : ∀ (es : List MapEntry) (l : List (Int × Value)) (i : Nat), es.map (fun e => (e.key, e.val)) = l.map (fun p => (Value.int .i64 p.1, p.2)) → Instr.findNow (.int .i64) (.int .i64 k) es i = some ((lkm l k).map fun p => (i + p.1, p.2))
 | [], [], i, _ => rfl
 | [], _ :: _, i, h => by simp at h
 | _ :: _, [], i, h => by simp at h
 | e :: es, (a, v) :: l, i, h => by
  simp only [List.map_cons, List.cons.injEq, Prod.mk.injEq] at h
  rw [Instr.findNow, h.1.1, lkm]
  by_cases hk : k = a
  · simp [Instr.sameNow, hk, h.1.2]
  ·
   have : (k == a) = false := by simpa using hk
   simp only [Instr.sameNow, if_true, this, if_neg hk]
   rw [findNow_int k es l (i + 1) h.2]
   cases lkm l k <;> simp <;> omega
section
variable {P : Program} {w : World} {m : Nat} {l : List (Int × Value)} {t kt et : TypeId}
theorem checkKeyI (hk : P.underlying kt = some (.int .i64)) (k : Int) (b : Bool) (w : World) : (Instr.checkKey b 10000 kt (.int .i64 k)).run P w = .ok () w := MapKept.run_checkKey hk (by simp [MapKept.IsKey]) b 9999
theorem run_lookupI (h : MapI w m l) (ht : P.underlying t = some (.map kt et)) (hk : P.underlying kt = some (.int .i64)) {z : Value} (hz : ∀ w, (zeroValue et).run P w = .ok z w) (k : Int) : (Instr.lookup t (.map (some m)) (.int .i64 k) false).run P w = .ok ((getM l k).getD z) w := by
 obtain ⟨es, c, h1, h2, r⟩ := h
 have h3 := findNow_int k _ _ 0 h2
 have h5 := MapKept.run_findKey (P := P) (w := w) hk h3
 cases h6 : lkm l k with
 | none => rw [h6] at h5; simp [Instr.lookup, run_underlying ht, MapKept.run_getObj_map h1, checkKeyI hk, h5, hz, Result.andThen, getM, h6]
 | some p => rw [h6] at h5; simp [Instr.lookup, run_underlying ht, MapKept.run_getObj_map h1, checkKeyI hk, h5, Result.andThen, getM, h6]
theorem keep_setBlock {o o' : Obj} (h : w.heap[m]? = some o) : Keep (fun q => q = m) w (setBlock w m o') :=
 ⟨rfl, rfl, rfl, Nat.le_refl _, by simp [setBlock], fun k _ hn => (MapKept.heap_set h).2 k hn⟩
theorem modify_map {β : Type} (f : MapEntry → β) (g : MapEntry → MapEntry) (y : β) : ∀ (es : List MapEntry) (i : Nat), (∀ e, es[i]? = some e → f (g e) = y) → (es.modify i g).map f = (es.map f).set i y := by
 intro es i h
 apply List.ext_getElem?
 intro j
 rw [List.getElem?_map, List.getElem?_modify, List.getElem?_set]
 by_cases hj : i = j
 ·
  subst hj
  cases h1 : es[i]? with
  | none =>
   have := List.getElem?_eq_none_iff.1 h1
   rw [if_pos rfl, if_neg (by rw [List.length_map]; omega)]
   simp
  | some e =>
   have := (List.getElem?_eq_some_iff.1 h1).1
   rw [if_pos rfl, if_pos (by rw [List.length_map]; omega)]
   simp [h e h1]
 ·
  rw [if_neg hj, List.getElem?_map]
  cases es[j]? <;> simp [hj]
theorem run_updateI (h : MapI w m l) (ht : P.underlying t = some (.map kt et)) (hk : P.underlying kt = some (.int .i64)) (k : Int) (v : Value) :
  ∃ w', (Instr.mapUpdate t (.map (some m)) (.int .i64 k) v).run P w = .ok () w' ∧ MapI w' m (setM l k v) ∧ Keep (fun q => q = m) w w' ∧ w'.heap.size = w.heap.size := by
 obtain ⟨es, c, h1, h2, h3, h4, h5⟩ := h
 have h6 := findNow_int k _ _ 0 h2
 have h7 := MapKept.run_findKey (P := P) (w := w) hk h6
 have hlen : es.toList.length = l.length := by have := congrArg List.length h2; simpa using this
 cases h8 : lkm l k with
 | none =>
  rw [h8] at h7
  refine ⟨setBlock w m (.map (es.push ⟨.int .i64 k, v, c⟩) (c + 1)), by simp [Instr.mapUpdate, run_underlying ht, MapKept.run_getObj_map h1, checkKeyI hk, h7, MapKept.run_setObj_map _ h1, Result.andThen, setBlock], ?_, keep_setBlock h1, by simp [setBlock]⟩
  refine ⟨_, _, (MapKept.heap_set h1).1, ?_, ?_, ?_, nodup_setM h5 k v⟩
  · rw [setM, h8]; simp [h2]
  ·
   intro e he
   simp only [Array.toList_push, List.mem_append, List.mem_singleton] at he
   rcases he with he | rfl
   · have := h3 e he; omega
   · simp
  ·
   rw [Array.toList_push, List.map_append, List.nodup_append]
   refine ⟨h4, by simp, fun a ha b hb => ?_⟩
   obtain ⟨e, he, rfl⟩ := List.mem_map.1 ha
   simp at hb; subst hb
   have := h3 e he
   omega
 | some p =>
  rw [h8] at h7
  have h9 := lkm_some h8
  have hp := (List.getElem?_eq_some_iff.1 h9).1
  obtain ⟨e0, he0⟩ : ∃ e0, es.toList[p.1]? = some e0 := ⟨_, List.getElem?_eq_getElem (by omega)⟩
  have hkey : e0.key = .int .i64 k ∧ e0.val = p.2 := by
   have := congrArg (fun L => L[p.1]?) h2
   simp only [List.getElem?_map, he0, h9, Option.map_some, Option.some.injEq, Prod.mk.injEq] at this
   exact this
  have he0' : es[p.1]? = some e0 := by simpa using he0
  refine ⟨setBlock w m (.map (es.modify p.1 fun e => { e with key := .int .i64 k, val := v }) c), by simp [Instr.mapUpdate, run_underlying ht, MapKept.run_getObj_map h1, checkKeyI hk, h7, he0', hkey.1, Instr.keyThatStays, Instr.sameBits, MapKept.run_setObj_map _ h1, Result.andThen, setBlock], ?_, keep_setBlock h1, by simp [setBlock]⟩
  refine ⟨_, _, (MapKept.heap_set h1).1, ?_, ?_, ?_, nodup_setM h5 k v⟩
  · rw [setM, h8, Array.toList_modify, modify_map _ _ (.int .i64 k, v) _ _ (fun _ _ => rfl), h2]; simp only [List.map_set]
  ·
   intro e he
   rw [Array.toList_modify] at he
   obtain ⟨j, hj⟩ := List.mem_iff_getElem?.1 he
   rw [List.getElem?_modify] at hj
   obtain ⟨e1, he1, rfl⟩ := Option.map_eq_some_iff.1 hj
   have := h3 e1 (List.mem_of_getElem? he1)
   split <;> exact this
  ·
   have : (es.modify p.1 fun e => { e with key := .int .i64 k, val := v }).toList.map (·.born) = es.toList.map (·.born) := by
    rw [Array.toList_modify]
    apply List.ext_getElem?
    intro j
    rw [List.getElem?_map, List.getElem?_map, List.getElem?_modify]
    cases es.toList[j]? <;> simp
    split <;> rfl
   rw [this]; exact h4
end
section
variable {P : Program} {env : Env} {w : World} {dst : Option Tmp} {ty : TypeId} {pos : String} {aft : Array Edge} {g : Option (Nat × Bool)} {t kt et : TypeId} {m : Nat} {l : List (Int × Value)}
theorem M.makeMap : Makes P ⟨dst, .makeMap t none, ty, pos, aft, g⟩ env w (fun u w' => ∃ b, u = .map (some b) ∧ b = w.heap.size ∧ w'.heap.size = w.heap.size + 1 ∧ MapI w' b [] ∧ Ext w w') := by
 refine ⟨.map (some w.heap.size), w.alloc (.map #[] 0), ?_, _, rfl, rfl, by simp, ⟨#[], 0, (MapKept.heap_alloc w _).1, rfl, by simp, by simp, by simp⟩, Keep.alloc w _⟩
 intro n a ha
 have h : (Instr.makeMap t none).run P w = .ok (.map (some w.heap.size)) (w.alloc (.map #[] 0)) := by simp [Instr.makeMap, Result.andThen]
 simp [execOp, h]
theorem R.lookupI {x y : Operand} {k : Int} {z : Value} (h : MapI w m l) (ht : P.underlying t = some (.map kt et)) (hk : P.underlying kt = some (.int .i64)) (hz : ∀ w, (zeroValue et).run P w = .ok z w) (hx : ev env x = some (.map (some m))) (hy : ev env y = some (.int .i64 k)) :
  Runs P ⟨dst, .lookup t x y false, ty, pos, aft, g⟩ env w ((getM l k).getD z) w := by
 intro n a ha
 simp [execOp, ha.eval hx, ha.eval hy, run_lookupI h ht hk hz]
theorem M.update {x y u : Operand} {k : Int} {v : Value} (h : MapI w m l) (ht : P.underlying t = some (.map kt et)) (hk : P.underlying kt = some (.int .i64)) (hx : ev env x = some (.map (some m))) (hy : ev env y = some (.int .i64 k)) (hu : ev env u = some v) :
  Makes0 P ⟨dst, .mapUpdate t x y u, ty, pos, aft, g⟩ env w (fun w' => MapI w' m (setM l k v) ∧ Keep (fun q => q = m) w w' ∧ w'.heap.size = w.heap.size) := by
 obtain ⟨w', h1, h2⟩ := run_updateI (P := P) h ht hk k v
 refine ⟨w', ?_, h2⟩
 intro n a ha
 simp [execOp, ha.eval hx, ha.eval hy, ha.eval hu, h1]
theorem M.insert {x y u : Operand} {k : Int} {v : Value} (h : MapI w m l) (ht : P.underlying t = some (.map kt et)) (hk : P.underlying kt = some (.int .i64)) (hx : ev env x = some (.map (some m))) (hy : ev env y = some (.int .i64 k)) (hu : ev env u = some v) :
  Makes0 P ⟨dst, .insert t x y u, ty, pos, aft, g⟩ env w (fun w' => MapI w' m (setM l k v) ∧ Keep (fun q => q = m) w w' ∧ w'.heap.size = w.heap.size) := by
 obtain ⟨w', h1, h2⟩ := run_updateI (P := P) h ht hk k v
 refine ⟨w', ?_, h2⟩
 intro n a ha
 simp [execOp, ha.eval hx, ha.eval hy, ha.eval hu, h1]
end
def MapE (w : World) (m : Nat) (l : List (Int × Value)) (k : Int) (st : Nat) : Prop :=
 ∃ (es : Array MapEntry) (clock i : Nat) (e : MapEntry) (v : Value), w.heap[m]? = some (.map es clock) ∧ es.toList.map (fun e => (e.key, e.val)) = l.map (fun p => (Value.int .i64 p.1, p.2)) ∧ (∀ e ∈ es.toList, e.born < clock) ∧ (es.toList.map (·.born)).Nodup ∧ (l.map (·.1)).Nodup ∧
  es.toList[i]? = some e ∧ e.born = st ∧ lkm l k = some (i, v)
theorem MapE.keep {w w' : World} {S : Nat → Prop} {m st : Nat} {k : Int} {l : List (Int × Value)} (h : MapE w m l k st) (hk : Keep S w w') (hS : ¬ S m) : MapE w' m l k st := by
 obtain ⟨es, c, i, e, v, h1, r⟩ := h
 exact ⟨es, c, i, e, v, by rw [hk.block m (Array.getElem?_eq_some_iff.1 h1).1 hS]; exact h1, r⟩
theorem MapE.map {w : World} {m st : Nat} {k : Int} {l : List (Int × Value)} (h : MapE w m l k st) : MapI w m l := by
 obtain ⟨es, c, i, e, v, h1, h2, h3, h4, h5, _⟩ := h
 exact ⟨es, c, h1, h2, h3, h4, h5⟩
def RanI (w : World) (it m : Nat) (l : List (Int × Value)) (seen : List Int) (cur : Option (Int × Value)) : Prop :=
 ∃ (es : Array MapEntry) (clock since : Nat) (sb : Array Nat) (c0 : Nat), w.heap[m]? = some (.map es clock) ∧ es.toList.map (fun e => (e.key, e.val)) = l.map (fun p => (Value.int .i64 p.1, p.2)) ∧ (∀ e ∈ es.toList, e.born < clock) ∧ (es.toList.map (·.born)).Nodup ∧ (l.map (·.1)).Nodup ∧
  w.heap[it]? = some (.mapIter (some m) since sb c0) ∧ (∀ e ∈ es.toList, e.born < since) ∧ since ≤ c0 ∧ (∀ e ∈ es.toList, ∀ k, e.key = .int .i64 k → (e.born ∈ sb ↔ k ∈ seen)) ∧ seen.Nodup ∧ (∀ k ∈ seen, ∃ v, getM l k = some v) ∧
  since ≤ clock ∧ (∀ q, cur = some q → c0 = clock ∧ ∃ (e : MapEntry) (s : Array Nat), e ∈ es.toList ∧ sb = s.push e.born ∧ e.key = .int .i64 q.1 ∧ e.val = q.2)
theorem RanI.keep {w w' : World} {S : Nat → Prop} {it m : Nat} {l : List (Int × Value)} {seen : List Int} {cur : Option (Int × Value)} (h : RanI w it m l seen cur) (hk : Keep S w w') (hS : ¬ S m) (hI : ¬ S it) : RanI w' it m l seen cur := by
 obtain ⟨es, c, since, sb, c0, h1, h2, h3, h4, h5, h6, r⟩ := h
 exact ⟨es, c, since, sb, c0, by rw [hk.block m (Array.getElem?_eq_some_iff.1 h1).1 hS]; exact h1, h2, h3, h4, h5, by rw [hk.block it (Array.getElem?_eq_some_iff.1 h6).1 hI]; exact h6, r⟩
theorem RanI.map {w : World} {it m : Nat} {l : List (Int × Value)} {seen : List Int} {cur : Option (Int × Value)} (h : RanI w it m l seen cur) : MapI w m l := by
 obtain ⟨es, c, since, sb, c0, h1, h2, h3, h4, h5, _⟩ := h
 exact ⟨es, c, h1, h2, h3, h4, h5⟩
theorem RanI.lt {w : World} {it m : Nat} {l : List (Int × Value)} {seen : List Int} {cur : Option (Int × Value)} (h : RanI w it m l seen cur) : it < w.heap.size := by
 obtain ⟨es, c, since, sb, c0, h1, h2, h3, h4, h5, h6, _⟩ := h
 exact (Array.getElem?_eq_some_iff.1 h6).1
theorem RanI.ne {w : World} {it m : Nat} {l : List (Int × Value)} {seen : List Int} {cur : Option (Int × Value)} (h : RanI w it m l seen cur) : it ≠ m := by
 obtain ⟨es, c, since, sb, c0, h1, h2, h3, h4, h5, h6, _⟩ := h
 rintro rfl
 rw [h1] at h6; cases h6
theorem RanI.neB {w : World} {it m b : Nat} {l : List (Int × Value)} {seen : List Int} {cur : Option (Int × Value)} {cs : List Value} {e : TypeId} (h : RanI w it m l seen cur) (hb : Blk w b cs e) : b ≠ it := by
 obtain ⟨es, c, since, sb, c0, h1, h2, h3, h4, h5, h6, _⟩ := h
 rintro rfl
 unfold Blk at hb
 rw [h6] at hb; cases hb
section
variable {P : Program} {env : Env} {w : World} {dst : Option Tmp} {ty : TypeId} {pos : String} {aft : Array Edge} {g : Option (Nat × Bool)} {t kt et : TypeId} {m : Nat} {l : List (Int × Value)}
theorem M.mapEntry {x y : Operand} {k : Int} {v : Value} (h : MapI w m l) (hv : getM l k = some v) (ht : P.underlying t = some (.map kt et)) (hk : P.underlying kt = some (.int .i64)) (hx : ev env x = some (.map (some m))) (hy : ev env y = some (.int .i64 k)) :
  Makes P ⟨dst, .mapEntry t x y, ty, pos, aft, g⟩ env w (fun u w' => ∃ st : Nat, u = .tuple #[v, .int .i64 st] ∧ MapE w' m l k st ∧ Keep (fun q => q = m) w w' ∧ w'.heap.size = w.heap.size) := by
 obtain ⟨es, c, h1, h2, h3, h4, h5⟩ := h
 have h6 := findNow_int k _ _ 0 h2
 have h7 := MapKept.run_findKey (P := P) (w := w) hk h6
 have hlen : es.toList.length = l.length := by have := congrArg List.length h2; simpa using this
 obtain ⟨p, h8, rfl⟩ := Option.map_eq_some_iff.1 hv
 rw [h8] at h7
 have h9 := lkm_some h8
 have hp := (List.getElem?_eq_some_iff.1 h9).1
 obtain ⟨e0, he0⟩ : ∃ e0, es.toList[p.1]? = some e0 := ⟨_, List.getElem?_eq_getElem (by omega)⟩
 have hkey : e0.key = .int .i64 k ∧ e0.val = p.2 := by
  have := congrArg (fun L => L[p.1]?) h2
  simp only [List.getElem?_map, he0, h9, Option.map_some, Option.some.injEq, Prod.mk.injEq] at this
  exact this
 have he0' : es[p.1]? = some e0 := by simpa using he0
 have hrun : (Instr.mapEntry t (.map (some m)) (.int .i64 k)).run P w = .ok (.tuple #[p.2, .int .i64 e0.born]) (setBlock w m (.map (es.modify p.1 fun e => { e with key := .int .i64 k }) c)) := by
  simp [Instr.mapEntry, run_underlying ht, MapKept.run_getObj_map h1, checkKeyI hk, h7, he0', hkey.1, Instr.keyThatStays, Instr.sameBits, MapKept.run_setObj_map _ h1, Result.andThen, setBlock, goInt]
 have hmod : (es.modify p.1 fun e => { e with key := .int .i64 k }).toList = es.toList := by
  rw [Array.toList_modify]
  apply List.ext_getElem?
  intro j
  rw [List.getElem?_modify]
  by_cases hj : p.1 = j
  · subst hj; rw [he0]; simp [← hkey.1]
  · cases es.toList[j]? <;> simp [hj]
 refine ⟨_, _, fun n a ha => ?_, e0.born, rfl, ⟨_, c, p.1, e0, p.2, (MapKept.heap_set h1).1, by rw [hmod]; exact h2, by rw [hmod]; exact h3, by rw [hmod]; exact h4, h5, by rw [hmod]; exact he0, rfl, h8⟩, keep_setBlock h1, by simp [setBlock]⟩
 simp [execOp, ha.eval hx, ha.eval hy, hrun]
theorem M.entryStore {x y u : Operand} {k : Int} {st : Nat} {v : Value} (h : MapE w m l k st) (hx : ev env x = some (.map (some m))) (hy : ev env y = some (.int .i64 st)) (hu : ev env u = some v) :
  Makes0 P ⟨dst, .entryStore t x y u, ty, pos, aft, g⟩ env w (fun w' => MapI w' m (setM l k v) ∧ Keep (fun q => q = m) w w' ∧ w'.heap.size = w.heap.size) := by
 obtain ⟨es, c, i, e, v0, h1, h2, h3, h4, h5, h6, rfl, h8⟩ := h
 have hi := (List.getElem?_eq_some_iff.1 h6).1
 have hfind : es.findIdx? (fun x => (x.born : Int) == (e.born : Int)) = some i := by
  rw [show es = es.toList.toArray from by simp, List.findIdx?_toArray, List.findIdx?_eq_some_iff_getElem]
  refine ⟨hi, by rw [(List.getElem?_eq_some_iff.1 h6).2]; simp, fun j hj => ?_⟩
  have := List.nodup_iff_pairwise_ne.1 h4
  rw [List.pairwise_iff_getElem] at this
  have h9 := this j i (by rw [List.length_map]; omega) (by rw [List.length_map]; exact hi) hj
  rw [List.getElem_map, List.getElem_map, (List.getElem?_eq_some_iff.1 h6).2] at h9
  intro h10
  have h11 : (es.toList[j].born : Int) = e.born := eq_of_beq h10
  exact h9 (by omega)
 have hrun : (Instr.entryStore t (.map (some m)) (.int .i64 e.born) v).run P w = .ok () (setBlock w m (.map (es.modify i fun x => { x with val := v }) c)) := by
  simp [Instr.entryStore, MapKept.run_getObj_map h1, asInt, asIntOf, hfind, MapKept.run_setObj_map _ h1, Result.andThen, setBlock]
 have hkey : e.key = .int .i64 k := by
  have h9 := lkm_some h8
  have := congrArg (fun L => L[i]?) h2
  simp only [List.getElem?_map, h6, h9, Option.map_some, Option.some.injEq, Prod.mk.injEq] at this
  exact this.1
 refine ⟨setBlock w m (.map (es.modify i fun x => { x with val := v }) c), fun n a ha => ?_, ⟨_, c, (MapKept.heap_set h1).1, ?_, ?_, ?_, nodup_setM h5 k v⟩, keep_setBlock h1, by simp [setBlock]⟩
 · simp [execOp, ha.eval hx, ha.eval hy, ha.eval hu, hrun]
 · rw [setM, h8, Array.toList_modify, modify_map _ _ (.int .i64 k, v) _ _ (fun x hx => by rw [h6] at hx; cases hx; simp [hkey]), h2]; simp only [List.map_set]
 ·
  intro x hx'
  rw [Array.toList_modify] at hx'
  obtain ⟨j, hj⟩ := List.mem_iff_getElem?.1 hx'
  rw [List.getElem?_modify] at hj
  obtain ⟨e1, he1, rfl⟩ := Option.map_eq_some_iff.1 hj
  have := h3 e1 (List.mem_of_getElem? he1)
  split <;> exact this
 ·
  have : (es.modify i fun x => { x with val := v }).toList.map (·.born) = es.toList.map (·.born) := by
   rw [Array.toList_modify]
   apply List.ext_getElem?
   intro j
   rw [List.getElem?_map, List.getElem?_map, List.getElem?_modify]
   cases es.toList[j]? <;> simp
   split <;> rfl
  rw [this]; exact h4
theorem M.range {x : Operand} (h : MapI w m l) (ht : P.underlying t = some (.map kt et)) (hx : ev env x = some (.map (some m))) :
  Makes P ⟨dst, .range t x, ty, pos, aft, g⟩ env w (fun u w' => ∃ it, u = .pointer (some ⟨it, 0, none⟩) ∧ it = w.heap.size ∧ RanI w' it m l [] none ∧ Ext w w' ∧ w'.heap.size = w.heap.size + 1) := by
 have hlt := h.lt
 obtain ⟨es, c, h1, h2, h3, h4, h5⟩ := h
 have hrun : (Instr.range t (.map (some m))).run P w = .ok (.pointer (some ⟨w.heap.size, 0, none⟩)) (w.alloc (.mapIter (some m) c #[] c)) := by
  simp [Instr.range, run_underlying ht, MapKept.run_getObj_map h1, Result.andThen]
 refine ⟨.pointer (some ⟨w.heap.size, 0, none⟩), w.alloc (.mapIter (some m) c #[] c), fun n a ha => ?_, w.heap.size, rfl, rfl, ⟨es, c, c, #[], c, by rw [(MapKept.heap_alloc w _).2 _ hlt]; exact h1, h2, h3, h4, h5, (MapKept.heap_alloc w _).1, h3, Nat.le_refl _, fun e _ k _ => by simp, List.Pairwise.nil, by simp, Nat.le_refl _, by simp⟩, Keep.alloc w _, by simp⟩
 simp [execOp, ha.eval hx, hrun]
theorem M.next {x : Operand} {it : Nat} {seen : List Int} {cur : Option (Int × Value)} (h : RanI w it m l seen cur) (hx : ev env x = some (.pointer (some ⟨it, 0, none⟩))) :
  Makes P ⟨dst, .next x false, ty, pos, aft, g⟩ env w (fun u w' => (u = .tuple #[.bool false] ∧ w' = w ∧ ∀ p ∈ l, p.1 ∈ seen) ∨ ∃ k v, u = .tuple #[.bool true, .int .i64 k, v] ∧ getM l k = some v ∧ k ∉ seen ∧ RanI w' it m l (seen ++ [k]) (some (k, v)) ∧ Keep (fun q => q = it) w w' ∧ w'.heap.size = w.heap.size) := by
 have hne := h.ne
 obtain ⟨es, c, since, sb, c0, h1, h2, h3, h4, h5, h6, h7, h8, h9, h10, h11, hsc, h12⟩ := h
 have hkey : ∀ e ∈ es.toList, ∃ k, e.key = .int .i64 k ∧ getM l k = some e.val := by
  intro e he
  obtain ⟨i, hi⟩ := List.mem_iff_getElem?.1 he
  have := congrArg (fun L => L[i]?) h2
  simp only [List.getElem?_map, hi, Option.map_some] at this
  obtain ⟨p, hp, hp2⟩ := Option.map_eq_some_iff.1 this.symm
  simp only [Prod.mk.injEq] at hp2
  refine ⟨p.1, hp2.1.symm, ?_⟩
  rw [← hp2.2]
  exact getM_of_mem h5 (List.mem_of_getElem? hp)
 rcases run_next_at (P := P) w ty it m since c0 sb es c h6 h1 h7 h8 with ⟨h0, hrun⟩ | ⟨e, he, w1, hal, hrun⟩
 ·
  refine ⟨_, _, fun n a ha => ?_, .inl ⟨rfl, rfl, fun p hp => ?_⟩⟩
  · simp [execOp, ha.eval hx, hrun]
  ·
   obtain ⟨i, hi⟩ := List.mem_iff_getElem?.1 hp
   have h13 := congrArg (fun L => L[i]?) h2
   simp only [List.getElem?_map, hi, Option.map_some] at h13
   obtain ⟨e, he, he2⟩ := Option.map_eq_some_iff.1 h13
   simp only [Prod.mk.injEq] at he2
   rw [← h9 e (List.mem_of_getElem? he) p.1 he2.1]
   have h14 : e ∉ leftOf es sb := by
    have : leftOf es sb = #[] := Array.eq_empty_of_size_eq_zero h0
    rw [this]; simp
   unfold leftOf at h14
   have h15 := List.mem_of_getElem? he
   simp at h14 h15
   exact h14 h15
 ·
  have he' : e ∈ es.toList ∧ e.born ∉ sb := by
   unfold leftOf at he
   simp at he
   exact ⟨by simpa using he.1, he.2⟩
  obtain ⟨k, hk1, hk2⟩ := hkey e he'.1
  have hr1 : w1.heap[it]? = some (.mapIter (some m) since sb c0) := by rcases hal with rfl | rfl <;> exact h6
  have hb1 : w1.heap[m]? = some (.map es c) := by rcases hal with rfl | rfl <;> exact h1
  have hset := MapKept.heap_set (o' := .mapIter (some m) since (sb.push e.born) c) hr1
  have hks : k ∉ seen := fun hh => he'.2 ((h9 e he'.1 k hk1).2 hh)
  have hinj : ∀ e' ∈ es.toList, e'.born = e.born → e' = e := by
   intro e' h' hb
   obtain ⟨i, hi⟩ := List.mem_iff_getElem?.1 h'
   obtain ⟨j, hj⟩ := List.mem_iff_getElem?.1 he'.1
   have hil := (List.getElem?_eq_some_iff.1 hi).1
   have hjl := (List.getElem?_eq_some_iff.1 hj).1
   have hp := List.nodup_iff_pairwise_ne.1 h4
   rw [List.pairwise_iff_getElem] at hp
   by_cases hij : i = j
   · subst hij; rw [hi] at hj; exact Option.some.inj hj
   ·
    exfalso
    rcases Nat.lt_or_ge i j with h3 | h3
    ·
     have := hp i j (by rw [List.length_map]; omega) (by rw [List.length_map]; omega) h3
     rw [List.getElem_map, List.getElem_map, (List.getElem?_eq_some_iff.1 hi).2, (List.getElem?_eq_some_iff.1 hj).2] at this
     exact this hb
    ·
     have := hp j i (by rw [List.length_map]; omega) (by rw [List.length_map]; omega) (by omega)
     rw [List.getElem_map, List.getElem_map, (List.getElem?_eq_some_iff.1 hi).2, (List.getElem?_eq_some_iff.1 hj).2] at this
     exact this hb.symm
  have hKeep : Keep (fun q => q = it) w (setBlock w1 it (.mapIter (some m) since (sb.push e.born) c)) := by
   rcases hal with rfl | rfl
   · exact keep_setBlock h6
   · exact (Keep.mono (Keep.drew w) (fun _ _ h => h.elim)).trans (keep_setBlock hr1) (fun _ _ h => h)
  refine ⟨_, _, fun n a ha => ?_, .inr ⟨k, e.val, by rw [← hk1], hk2, hks, ⟨es, c, since, sb.push e.born, c, ?_, h2, h3, h4, h5, hset.1, h7, hsc, ?_, ?_, ?_, hsc, ?_⟩, hKeep, ?_⟩⟩
  · simp [execOp, ha.eval hx, hrun]
  · exact (hset.2 m (fun h => hne h.symm)).trans hb1
  ·
   intro e' h' k' hk'
   rw [Array.mem_push, h9 e' h' k' hk', List.mem_append, List.mem_singleton]
   constructor
   ·
    rintro (h13 | h13)
    · exact .inl h13
    ·
     have := hinj e' h' h13
     subst this
     rw [hk1] at hk'; cases hk'
     exact .inr rfl
   ·
    rintro (h13 | h13)
    · exact .inl h13
    ·
     subst h13
     right
     obtain ⟨i, hi⟩ := List.mem_iff_getElem?.1 h'
     obtain ⟨j, hj⟩ := List.mem_iff_getElem?.1 he'.1
     have g1 := congrArg (fun L => L[i]?) h2
     have g2 := congrArg (fun L => L[j]?) h2
     simp only [List.getElem?_map, hi, hj, Option.map_some] at g1 g2
     obtain ⟨p1, hp1, hp1'⟩ := Option.map_eq_some_iff.1 g1.symm
     obtain ⟨p2, hp2, hp2'⟩ := Option.map_eq_some_iff.1 g2.symm
     simp only [Prod.mk.injEq] at hp1' hp2'
     have e1 : p1.1 = k' := by have := hp1'.1.trans hk'; cases this; rfl
     have e2 : p2.1 = k' := by have := hp2'.1.trans hk1; cases this; rfl
     have hil := (List.getElem?_eq_some_iff.1 hp1).1
     have hjl := (List.getElem?_eq_some_iff.1 hp2).1
     have hp := List.nodup_iff_pairwise_ne.1 h5
     rw [List.pairwise_iff_getElem] at hp
     by_cases hij : i = j
     · subst hij; rw [hi] at hj; rw [Option.some.inj hj]
     ·
      exfalso
      rcases Nat.lt_or_ge i j with h3' | h3'
      ·
       have := hp i j (by rw [List.length_map]; omega) (by rw [List.length_map]; omega) h3'
       rw [List.getElem_map, List.getElem_map, (List.getElem?_eq_some_iff.1 hp1).2, (List.getElem?_eq_some_iff.1 hp2).2, e1, e2] at this
       exact this rfl
      ·
       have := hp j i (by rw [List.length_map]; omega) (by rw [List.length_map]; omega) (by omega)
       rw [List.getElem_map, List.getElem_map, (List.getElem?_eq_some_iff.1 hp1).2, (List.getElem?_eq_some_iff.1 hp2).2, e1, e2] at this
       exact this rfl
  ·
   rw [List.nodup_append]
   exact ⟨h10, by simp, fun a ha b hb => by rw [List.mem_singleton] at hb; subst hb; exact fun h => hks (h ▸ ha)⟩
  ·
   intro k' hk'
   rcases List.mem_append.1 hk' with hk' | hk'
   · exact h11 k' hk'
   · rw [List.mem_singleton] at hk'; subst hk'; exact ⟨_, hk2⟩
  ·
   intro q hq
   cases hq
   exact ⟨rfl, e, sb, he'.1, rfl, hk1, rfl⟩
  · rcases hal with rfl | rfl <;> simp [setBlock]
theorem R.entry {x : Operand} {it : Nat} {seen : List Int} {k : Int} {v : Value} (h : RanI w it m l seen (some (k, v))) (hx : ev env x = some (.pointer (some ⟨it, 0, none⟩))) : Runs P ⟨dst, .entry x, ty, pos, aft, g⟩ env w (.tuple #[.int .i64 k, v]) w := by
 obtain ⟨es, c, since, sb, c0, h1, h2, h3, h4, h5, h6, h7, h8, h9, h10, h11, _, h12⟩ := h
 obtain ⟨rfl, e, s, he, rfl, hk, hv⟩ := h12 _ rfl
 have := run_entry_at (P := P) w it m since s es c0 e h6 h1 he h4
 rw [hk, hv] at this
 intro n a ha
 simp [execOp, ha.eval hx, this]
end
end Go.GL
namespace Go.Proofs.YtldhllpogdikdaaGreat
open Go.GL
def flagI (b : Bool) : Int := if b then 1 else 0
def lki (l : List Int) (i : Nat) : Int := l[i]?.getD 0
theorem lki_eq {l : List Int} {i : Nat} {x : Int} (h : l[i]? = some x) : lki l i = x := by simp [lki, h]
theorem lki_at {l : List Int} {i : Nat} (h : i < l.length) : l[i]? = some (lki l i) := by simp [lki, List.getElem?_eq_getElem h]
def binI (op a b : Int) : Int :=
 if op = 8 then a + b else if op = 9 then a - b else if op = 10 then a * b else if op = 11 then a.fdiv b
 else if op = 12 then (if b = 0 then 0 else a - b * a.fdiv b) else if op = 13 then flagI (decide (a = b)) else if op = 14 then flagI (decide (a ≠ b))
 else if op = 15 then flagI (decide (a < b)) else if op = 16 then flagI (decide (a ≤ b)) else if op = 17 then flagI (decide (b < a)) else if op = 18 then flagI (decide (b ≤ a))
 else if op = 19 then flagI (decide (a ≠ 0) && decide (b ≠ 0)) else if op = 20 then flagI (decide (a ≠ 0) || decide (b ≠ 0)) else if op = 21 then min a b else max a b
def valOf (vals : List Int) (op n : Int) (ks : List Int) : Int :=
 if op = 0 then n else if op = 24 then lki vals n.toNat else if op = 6 then -(lki ks 0) else if op = 7 then flagI (decide (lki ks 0 = 0))
 else if op = 23 then (if lki ks 0 ≠ 0 then lki ks 1 else lki ks 2)
 else if op = 25 then lki ks (1 + clampI (lki ks 0) 0 ((ks.length : Int) - 2)).toNat
 else binI op (lki ks 0) (lki ks 1)
mutual
def valT (vals : List Int) : Tm → Int
 | .mk op n ks => valOf vals op n (valL vals ks)
def valL (vals : List Int) : List Tm → List Int
 | [] => []
 | k :: r => valT vals k :: valL vals r
end
theorem valT_eq (vals : List Int) (t : Tm) : valT vals t = valOf vals t.op t.n (valL vals t.kids) := by cases t; rw [valT]; rfl
theorem valL_map (vals : List Int) (l : List Tm) : valL vals l = l.map (valT vals) := by
 induction l with
 | nil => rfl
 | cons x r ih => rw [valL, ih]; rfl
theorem valL_len (vals : List Int) (l : List Tm) : (valL vals l).length = l.length := by rw [valL_map, List.length_map]
theorem valL_get {vals : List Int} {l : List Tm} {i : Nat} {k : Tm} (h : l[i]? = some k) : lki (valL vals l) i = valT vals k := by
 apply lki_eq; rw [valL_map, List.getElem?_map, h]; rfl
structure InV (vs : List Vr) (vals : List Int) : Prop where
 len : vals.length = vs.length
 at_ : ∀ (i : Nat) (v : Vr), vs[i]? = some v → v.low ≤ lki vals i ∧ lki vals i ≤ v.high
theorem fdiv_abs (a b : Int) (ha : -1048576 ≤ a ∧ a ≤ 1048576) : (0 ≤ a → -a ≤ a.fdiv b ∧ a.fdiv b ≤ a) ∧ (a ≤ 0 → a ≤ a.fdiv b ∧ a.fdiv b ≤ -a) ∧ (0 ≤ a → 0 ≤ b → 0 ≤ a.fdiv b) := by
 rcases Int.lt_trichotomy b 0 with hb | hb | hb
 ·
  have h1 : a.fdiv b = (-a).ediv (-b) := by
   rw [← Int.neg_fdiv_neg, Int.fdiv_eq_ediv_of_nonneg _ (by omega)]; rfl
  rw [h1]
  have h2 := Int.mul_ediv_add_emod (-a) (-b)
  have h3 := Int.emod_nonneg (-a) (show -b ≠ 0 by omega)
  have h4 := Int.emod_lt_of_pos (-a) (show 0 < -b by omega)
  change -b * ((-a).ediv (-b)) + (-a).emod (-b) = -a at h2
  change 0 ≤ (-a).emod (-b) at h3
  change (-a).emod (-b) < -b at h4
  generalize (-a).ediv (-b) = q at *
  generalize (-a).emod (-b) = r at *
  obtain ⟨c, rfl⟩ : ∃ c, b = -c := ⟨-b, by omega⟩
  simp only [Int.neg_neg] at *
  have hc : 0 < c := by omega
  refine ⟨fun h => ⟨?_, ?_⟩, fun h => ⟨?_, ?_⟩, fun h h' => by omega⟩
  ·
   rcases Int.lt_or_le q (-a) with h5 | h5
   ·
    have : c * q ≤ c * (-a - 1) := Int.mul_le_mul_of_nonneg_left (by omega) (by omega)
    have : c * (-a - 1) ≤ 1 * (-a - 1) := Int.mul_le_mul_of_nonpos_right (by omega) (by omega)
    have e : c * (-a - 1) = c * (-a) - c := by rw [Int.mul_sub, Int.mul_one]
    have : c * (-a) ≤ 1 * (-a) := Int.mul_le_mul_of_nonpos_right (by omega) (by omega)
    omega
   · exact h5
  ·
   rcases Int.lt_or_le 0 q with h5 | h5
   ·
    have : c * 1 ≤ c * q := Int.mul_le_mul_of_nonneg_left (by omega) (by omega)
    omega
   · omega
  ·
   rcases Int.lt_or_le q 0 with h5 | h5
   ·
    have : c * q ≤ c * (-1) := Int.mul_le_mul_of_nonneg_left (by omega) (by omega)
    omega
   · omega
  ·
   rcases Int.lt_or_le (-a) q with h5 | h5
   ·
    have : c * (-a + 1) ≤ c * q := Int.mul_le_mul_of_nonneg_left (by omega) (by omega)
    have : 1 * (-a + 1) ≤ c * (-a + 1) := Int.mul_le_mul_of_nonneg_right (by omega) (by omega)
    omega
   · exact h5
 ·
  subst hb
  simp only [Int.fdiv_zero]
  omega
 ·
  have h1 : a.fdiv b = a.ediv b := Int.fdiv_eq_ediv_of_nonneg _ (by omega)
  rw [h1]
  have h2 := Int.mul_ediv_add_emod a b
  have h3 := Int.emod_nonneg a (show b ≠ 0 by omega)
  have h4 := Int.emod_lt_of_pos a hb
  change b * (a.ediv b) + a.emod b = a at h2
  change 0 ≤ a.emod b at h3
  change a.emod b < b at h4
  generalize a.ediv b = q at *
  generalize a.emod b = r at *
  have hq : 0 ≤ a → 0 ≤ q := fun h => by
   rcases Int.lt_or_le q 0 with h5 | h5
   ·
    have : b * q ≤ b * (-1) := Int.mul_le_mul_of_nonneg_left (by omega) (by omega)
    omega
   · exact h5
  refine ⟨fun h => ⟨by have := hq h; omega, ?_⟩, fun h => ⟨?_, ?_⟩, fun h _ => hq h⟩
  ·
   rcases Int.lt_or_le a q with h5 | h5
   ·
    have : b * (a + 1) ≤ b * q := Int.mul_le_mul_of_nonneg_left (by omega) (by omega)
    have : 1 * (a + 1) ≤ b * (a + 1) := Int.mul_le_mul_of_nonneg_right (by omega) (by omega)
    omega
   · exact h5
  ·
   rcases Int.lt_or_le q a with h5 | h5
   ·
    have : b * q ≤ b * (a - 1) := Int.mul_le_mul_of_nonneg_left (by omega) (by omega)
    have : b * (a - 1) ≤ 1 * (a - 1) := Int.mul_le_mul_of_nonpos_right (by omega) (by omega)
    have e : b * (a - 1) = b * a - b := by rw [Int.mul_sub, Int.mul_one]
    have : b * a ≤ 1 * a := Int.mul_le_mul_of_nonpos_right (by omega) (by omega)
    omega
   · exact h5
  ·
   rcases Int.lt_or_le 0 q with h5 | h5
   ·
    have : b * 1 ≤ b * q := Int.mul_le_mul_of_nonneg_left (by omega) (by omega)
    omega
   · omega
theorem fmod_range (a b : Int) : (b < 0 → b < a - b * a.fdiv b ∧ a - b * a.fdiv b ≤ 0) ∧ (0 < b → 0 ≤ a - b * a.fdiv b ∧ a - b * a.fdiv b < b) := by
 have h2 := Int.mul_fdiv_add_fmod a b
 refine ⟨fun hb => ?_, fun hb => ?_⟩
 ·
  have h3 : a.fmod b = -((-a).emod (-b)) := by
   have := Int.neg_fmod_neg (-a) (-b)
   simp only [Int.neg_neg] at this
   rw [this, Int.fmod_eq_emod_of_nonneg _ (by omega)]; rfl
  have h4 := Int.emod_nonneg (-a) (show -b ≠ 0 by omega)
  have h5 := Int.emod_lt_of_pos (-a) (show 0 < -b by omega)
  change 0 ≤ (-a).emod (-b) at h4
  change (-a).emod (-b) < -b at h5
  omega
 ·
  have h3 : a.fmod b = a.emod b := Int.fmod_eq_emod_of_nonneg _ (by omega)
  have h4 := Int.emod_nonneg a (show b ≠ 0 by omega)
  have h5 := Int.emod_lt_of_pos a hb
  change 0 ≤ a.emod b at h4
  change a.emod b < b at h5
  omega
theorem corner_le {x y a b c d : Int} (hx : a ≤ x ∧ x ≤ b) (hy : c ≤ y ∧ y ≤ d) : min (min (a * c) (a * d)) (min (b * c) (b * d)) ≤ x * y ∧ x * y ≤ max (max (a * c) (a * d)) (max (b * c) (b * d)) := by
 have key : ∀ (u v p q : Int), p ≤ v → v ≤ q → min (u * p) (u * q) ≤ u * v ∧ u * v ≤ max (u * p) (u * q) := by
  intro u v p q h1 h2
  rcases Int.le_total 0 u with hu | hu
  ·
   have := Int.mul_le_mul_of_nonneg_left h1 hu
   have := Int.mul_le_mul_of_nonneg_left h2 hu
   omega
  ·
   have := Int.mul_le_mul_of_nonpos_left (a := u) hu h1
   have := Int.mul_le_mul_of_nonpos_left (a := u) hu h2
   omega
 have h1 := key y x a b hx.1 hx.2
 have h2 := key a y c d hy.1 hy.2
 have h3 := key b y c d hy.1 hy.2
 rw [Int.mul_comm y a, Int.mul_comm y b, Int.mul_comm y x] at h1
 omega
theorem hullL_mem (x : Rg) : ∀ l : List Rg, ((hullL x l).1 ≤ x.1 ∧ x.2 ≤ (hullL x l).2) ∧ ∀ r ∈ l, (hullL x l).1 ≤ r.1 ∧ r.2 ≤ (hullL x l).2 := by
 intro l
 induction l generalizing x with
 | nil => simp [hullL]
 | cons y r ih =>
  have h := ih (min x.1 y.1, max x.2 y.2)
  rw [show hullL x (y :: r) = hullL (min x.1 y.1, max x.2 y.2) r from rfl]
  refine ⟨by have := h.1; dsimp only at this; omega, fun z hz => ?_⟩
  rcases List.mem_cons.1 hz with rfl | hz
  · have := h.1; dsimp only at this; omega
  · exact h.2 z hz
theorem binI_else {op a b : Int} (h1 : op ≠ 8) (h2 : op ≠ 9) (h3 : op ≠ 10) (h4 : op ≠ 11) (h5 : op ≠ 12) (h6 : op ≠ 21) (h7 : op ≤ 20) (h8 : 8 ≤ op) : binI op a b = 0 ∨ binI op a b = 1 := by
 have hf : ∀ b, flagI b = 0 ∨ flagI b = 1 := fun b => by cases b <;> simp [flagI]
 unfold binI
 rw [if_neg h1, if_neg h2, if_neg h3, if_neg h4, if_neg h5]
 (repeat' split); all_goals first | exact hf _ | omega
theorem clampI_range (n : Int) {lo hi : Int} (h : lo ≤ hi) : lo ≤ clampI n lo hi ∧ clampI n lo hi ≤ hi := by
 unfold clampI
 (repeat' split); all_goals omega
theorem valOf_in {vs : List Vr} {vals : List Int} {op n : Int} {ks : List Int} {l : List Rg} (hV : InV vs vals) (hn : NodeOk vs op n l) (hlen : ks.length = l.length) (h23 : op = 23 → l.length = 3) (hop : op = 0 ∨ op = 24 ∨ op = 6 ∨ op = 7 ∨ 8 ≤ op ∧ op ≤ 22 ∨ op = 23 ∨ op = 25)
  (hk : ∀ i, i < l.length → (at2 l i).1 ≤ lki ks i ∧ lki ks i ≤ (at2 l i).2) : (spanOf vs op n l).1 ≤ valOf vals op n ks ∧ valOf vals op n ks ≤ (spanOf vs op n l).2 := by
 have hg : ∀ i, i < l.length → Good (at2 l i) := fun i hi => hn.good _ (at2_mem hi)
 have hf : ∀ b, 0 ≤ flagI b ∧ flagI b ≤ 1 := fun b => by cases b <;> simp [flagI]
 unfold Good at hg
 unfold spanOf valOf
 by_cases c0 : op = 0
 · rw [if_pos c0, if_pos c0]; exact ⟨Int.le_refl _, Int.le_refl _⟩
 rw [if_neg c0, if_neg c0]
 by_cases c24 : op = 24
 ·
  rw [if_pos c24, if_pos c24]
  have h1 := hn.var c24
  obtain ⟨v, hv⟩ : ∃ v, vs[n.toNat]? = some v := ⟨_, List.getElem?_eq_getElem (by omega)⟩
  rw [vat_eq hv]
  exact hV.at_ _ _ hv
 rw [if_neg c24, if_neg c24]
 by_cases c6 : op = 6
 ·
  have := hn.k1 (.inl c6); have := hk 0 (by omega)
  rw [if_pos c6, if_pos c6]; dsimp only; omega
 rw [if_neg c6, if_neg c6]
 by_cases c7 : op = 7
 ·
  rw [if_pos c7]
  repeat rw [if_neg (by omega)]
  exact hf _
 rw [if_neg c7]
 by_cases c23 : op = 23
 ·
  have h3 := hn.k3 (.inl c23)
  rw [if_pos c23]
  repeat rw [if_neg (show ¬ op = _ by omega)]
  rw [if_pos (.inl c23)]
  have hm := hullL_mem (at2 l 1) (l.drop 2)
  split
  · have := hk 1 (by omega); omega
  ·
   have h2 : 2 < l.length := by have := h23 c23; omega
   have := hk 2 (by omega)
   have := hm.2 (at2 l 2) (by
    unfold at2
    rw [List.getElem?_eq_getElem h2]
    exact List.mem_iff_getElem?.2 ⟨0, by rw [List.getElem?_drop]; exact List.getElem?_eq_getElem h2⟩)
   omega
 rw [if_neg c23]
 by_cases c25 : op = 25
 ·
  have h3 := hn.k3 (.inr c25)
  rw [if_pos c25]
  repeat rw [if_neg (show ¬ op = _ by omega)]
  rw [if_pos (.inr c25)]
  have hm := hullL_mem (at2 l 1) (l.drop 2)
  have hcl := clampI_range (lki ks 0) (show (0 : Int) ≤ (ks.length : Int) - 2 by omega)
  obtain ⟨j, hj⟩ : ∃ j : Nat, clampI (lki ks 0) 0 ((ks.length : Int) - 2) = j := Int.eq_ofNat_of_zero_le hcl.1
  have hj2 : j + 2 ≤ l.length := by omega
  rw [hj, show (1 + (j : Int)).toNat = j + 1 by omega]
  have := hk (j + 1) (by omega)
  by_cases h2 : j = 0
  · subst h2; have := hm.1; rw [Nat.zero_add] at *; omega
  ·
   have := hm.2 (at2 l (j + 1)) (by
    unfold at2
    rw [List.getElem?_eq_getElem (show j + 1 < l.length by omega)]
    exact List.mem_iff_getElem?.2 ⟨j - 1, by rw [List.getElem?_drop, show 2 + (j - 1) = j + 1 by omega]; exact List.getElem?_eq_getElem (by omega)⟩)
   omega
 rw [if_neg c25]
 have hb : 8 ≤ op ∧ op ≤ 22 := by omega
 have hl2 := hn.k2 hb
 have h0 := hk 0 (by omega)
 have h1 := hk 1 (by omega)
 have g0 := hg 0 (by omega)
 have g1 := hg 1 (by omega)
 generalize lki ks 0 = x at *
 generalize lki ks 1 = y at *
 generalize at2 l 0 = r0 at *
 generalize at2 l 1 = r1 at *
 by_cases c8 : op = 8
 · rw [if_pos c8, binI, if_pos c8]; dsimp only; omega
 rw [if_neg c8]
 by_cases c9 : op = 9
 · rw [if_pos c9, binI, if_neg c8, if_pos c9]; dsimp only; omega
 rw [if_neg c9]
 by_cases c10 : op = 10
 ·
  rw [if_pos c10, binI, if_neg c8, if_neg c9, if_pos c10]
  have := corner_le h0 h1
  unfold cornersI hullL
  simp only [List.foldl_cons, List.foldl_nil]
  omega
 rw [if_neg c10]
 by_cases c11 : op = 11
 ·
  rw [if_pos c11, binI, if_neg c8, if_neg c9, if_neg c10, if_pos c11]
  have := fdiv_abs x y (by omega)
  dsimp only
  split <;> omega
 rw [if_neg c11]
 by_cases c12 : op = 12
 ·
  rw [if_pos c12, binI, if_neg c8, if_neg c9, if_neg c10, if_neg c11, if_pos c12]
  have := fmod_range x y
  dsimp only
  generalize x - y * x.fdiv y = m at *
  split <;> split <;> split <;> omega
 rw [if_neg c12]
 by_cases c21 : op = 21
 ·
  rw [if_pos c21]
  have e : binI op x y = min x y := by
   unfold binI
   repeat rw [if_neg (show ¬ op = _ by omega)]
   rw [if_pos c21]
  rw [e]; dsimp only; omega
 rw [if_neg c21]
 by_cases c22 : op = 22
 ·
  rw [if_pos c22]
  have e : binI op x y = max x y := by
   unfold binI
   repeat rw [if_neg (show ¬ op = _ by omega)]
  rw [e]; dsimp only; omega
 rw [if_neg c22, if_neg (by omega)]
 have := binI_else (a := x) (b := y) c8 c9 c10 c11 c12 c21 (by omega) (by omega)
 dsimp only; omega
theorem valT_in {vs : List Vr} {inp : Bool} (hv : ∀ v ∈ vs, Good (v.low, v.high)) {vals : List Int} (hV : InV vs vals) (t : Tm) : formedT vs inp t = true → ∀ r, rng vs t = some r → r.1 ≤ valT vals t ∧ valT vals t ≤ r.2 := by
 induction t using Tm.ind with
 | h t ih =>
  intro hf r hr
  rw [formedT_eq, Bool.and_eq_true, Bool.and_eq_true] at hf
  rw [rng_eq, Option.bind_eq_some_iff] at hr
  obtain ⟨l, h1, h2⟩ := hr
  have hlen := rngL_len _ _ h1
  have hn : NodeOk vs t.op t.n l := nodeOk_of hlen hf.1.1 hf.1.2 (fun x hx => by
   obtain ⟨k, hk, hkx⟩ := rngL_mem _ _ h1 x hx
   exact rng_good hv k (formedL_mem hf.2 hk) x hkx) hv
  have hfit := hf.1.1
  have hget : ∀ (ks : List Tm) (m : List Rg), rngL vs ks = some m → ∀ (i : Nat) k, ks[i]? = some k → rng vs k = some (at2 m i) := by
   intro ks
   induction ks with
   | nil => intro m _ i k h; simp at h
   | cons y ys ihy =>
    intro m hm i k hk
    simp only [rngL, Option.bind_eq_some_iff, Option.map_eq_some_iff] at hm
    obtain ⟨z, g1, u, g2, rfl⟩ := hm
    cases i with
    | zero => simp at hk; subst hk; simpa [at2] using g1
    | succ i => simp at hk; have := ihy u g2 i k hk; simpa [at2] using this
  have H := valOf_in (n := t.n) (op := t.op) (ks := valL vals t.kids) (l := l) hV hn (by rw [valL_len, hlen]) (fun h => by
    unfold kidsFit at hfit
    rw [show kidsN t.op = 3 by unfold kidsN; rw [h]; rfl] at hfit
    simp at hfit; omega) (by
    by_cases h : 0 ≤ kidsN t.op ∨ kidsN t.op = -2
    ·
     unfold kidsN at h
     repeat' split at h
     all_goals omega
    ·
     exfalso
     have := kidsN_vals t.op
     rw [kidsFit_no (.inl (by omega))] at hfit
     cases hfit) (fun i hi => by
    obtain ⟨k, hk⟩ : ∃ k, t.kids[i]? = some k := ⟨_, List.getElem?_eq_getElem (by omega)⟩
    rw [valL_get hk]
    exact ih k (List.mem_of_getElem? hk) (formedL_mem hf.2 (List.mem_of_getElem? hk)) _ (hget _ _ h1 i k hk))
  rw [valT_eq]
  split at h2
  · cases h2; exact H
  · cases h2
end Go.Proofs.YtldhllpogdikdaaGreat
namespace Go.GL
section
variable {P : Program} {env : Env} {w : World} {dst : Option Tmp} {ty : TypeId} {pos : String} {aft : Array Edge} {g : Option (Nat × Bool)} {t t' : TypeId} {x y : Operand} {m j : Int}
theorem R.quo (hx : ev env x = some (.int .i64 m)) (hy : ev env y = some (.int .i64 j)) (hj : j ≠ 0) (hr : -9223372036854775808 < m ∧ m ≤ 9223372036854775807) : Runs P ⟨dst, .binOp .quo t x y t', ty, pos, aft, g⟩ env w (.int .i64 (m.tdiv j)) w := by
 intro n a ha
 have h1 : (m.tdiv j).natAbs ≤ m.natAbs := Int.natAbs_tdiv_le_natAbs m j
 have h2 : IntKind.i64.wrap (m.tdiv j) = m.tdiv j := wrap_i64_in (by omega)
 simp [execOp, ha.eval hx, ha.eval hy, eqGuard_quo, binOp_quo, Op.intDiv, hj, h2]
theorem R.rem (hx : ev env x = some (.int .i64 m)) (hy : ev env y = some (.int .i64 j)) (hj : j ≠ 0) (_ : -9223372036854775808 < m ∧ m ≤ 9223372036854775807) : Runs P ⟨dst, .binOp .rem t x y t', ty, pos, aft, g⟩ env w (.int .i64 (m.tmod j)) w := by
 intro n a ha
 simp [execOp, ha.eval hx, ha.eval hy, eqGuard_rem, binOp_rem, Op.intDiv, hj]
end
theorem fdiv_tdiv (a b : Int) (hb : b ≠ 0) : a.fdiv b = if a.tmod b ≠ 0 ∧ (decide (a < 0) ≠ decide (b < 0)) then a.tdiv b - 1 else a.tdiv b := by
 rw [Int.fdiv_eq_tdiv]
 have hd : b ∣ a ↔ a.tmod b = 0 := ⟨Int.tmod_eq_zero_of_dvd, Int.dvd_of_tmod_eq_zero⟩
 by_cases h : b ∣ a
 · rw [if_pos h, if_neg (fun h2 => h2.1 (hd.1 h))]; omega
 ·
  have hm : a.tmod b ≠ 0 := fun h2 => h (hd.2 h2)
  rw [if_neg h]
  by_cases ha : 0 ≤ a
  ·
   rw [if_pos ha]
   by_cases hb2 : 0 ≤ b
   · rw [if_pos hb2, if_neg (fun h2 => h2.2 (by rw [decide_eq_false (by omega), decide_eq_false (by omega)]))]; omega
   · rw [if_neg hb2, if_pos ⟨hm, by rw [decide_eq_false (by omega), decide_eq_true (by omega)]; decide⟩]
  ·
   rw [if_neg ha]
   by_cases hb2 : 0 ≤ b
   · rw [if_pos hb2, if_pos ⟨hm, by rw [decide_eq_true (by omega), decide_eq_false (by omega)]; decide⟩, Int.sign_eq_one_of_pos (by omega)]
   · rw [if_neg hb2, if_neg (fun h2 => h2.2 (by rw [decide_eq_true (by omega), decide_eq_true (by omega)])), Int.sign_eq_neg_one_of_neg (by omega)]; omega
end Go.GL
namespace Go.Proofs.YtldhllpogdikdaaGreat
open Go.GL
abbrev In20 (a : Int) : Prop := -1048576 ≤ a ∧ a ≤ 1048576
theorem flatDivide_ok (a b : Int) (w : World) (ha : In20 a) (hb : In20 b) : Calls Tryz.prog 229 #[.int .i64 a, .int .i64 b] w (Ret fun r w' => r = .int .i64 (a.fdiv b) ∧ Ext w w') := by
 have hE := Keep.refl (fun _ => False) w
 refine G.in2 Tryz.func229 rfl Tryz.ntmps229 rfl (Gs 12 rfl (G.ite rfl (fun h0 => ?_) (fun h0 => ?_)))
 ·
  subst h0
  refine Gs 7 rfl (G.ret1 Tryz.results229 rfl ⟨_, rfl, by rw [Int.fdiv_zero], hE⟩)
 ·
  have hd := fdiv_tdiv a b h0
  have hq : (a.tdiv b).natAbs ≤ a.natAbs := Int.natAbs_tdiv_le_natAbs a b
  refine Gs 6 rfl (G.ops1 rfl rfl (R.quo rfl rfl h0 (by omega)) (Gs 8 rfl (G.ops1 rfl rfl (R.rem rfl rfl h0 (by omega)) (Gs 2 rfl (G.sp 15 rfl (fun h1 => ?_) (fun h1 => ?_))))))
  ·
   refine Gs 8 rfl (G.ite rfl (fun h2 => ?_) (fun h2 => ?_))
   · refine Ga 13 rfl (by omega) (G.ret1 Tryz.results229 rfl ⟨_, rfl, by rw [hd, if_pos ⟨h1, h2⟩], hE⟩)
   · refine Gs 9 rfl (G.ret1 Tryz.results229 rfl ⟨_, rfl, by rw [hd, if_neg (fun h => h2 h.2)], hE⟩)
  · refine Gs 18 rfl (G.ret1 Tryz.results229 rfl ⟨_, rfl, by rw [hd, if_neg (fun h => h1 h.1)], hE⟩)
theorem mulq_bound (a b : Int) (hb : b ≠ 0) : -(a.natAbs : Int) - b.natAbs ≤ b * a.fdiv b ∧ b * a.fdiv b ≤ (a.natAbs : Int) + b.natAbs := by
 have h := fmod_range a b
 generalize b * a.fdiv b = q at *
 omega
theorem flatModulo_ok (a b : Int) (w : World) (ha : In20 a) (hb : In20 b) : Calls Tryz.prog 230 #[.int .i64 a, .int .i64 b] w (Ret fun r w' => r = .int .i64 (if b = 0 then 0 else a - b * a.fdiv b) ∧ Ext w w') := by
 have hE := Keep.refl (fun _ => False) w
 refine G.in2 Tryz.func230 rfl Tryz.ntmps230 rfl (Gs 12 rfl (G.ite rfl (fun h0 => ?_) (fun h0 => ?_)))
 · refine Gs 7 rfl (G.ret1 Tryz.results230 rfl ⟨_, rfl, by rw [if_pos h0], hE⟩)
 ·
  have hm := mulq_bound a b h0
  refine Gs 8 rfl (G.call rfl Tryz.call229 (flatDivide_ok a b _ ha hb) ?_)
  rintro _ wz1 ⟨rfl, hz1⟩
  replace hE := Tr1 hz1 hE
  refine Ga 6 rfl (by omega) (G.ret1 Tryz.results230 rfl ⟨_, rfl, by rw [if_neg h0], hE⟩)
theorem flatBinary_ok (op a b : Int) (w : World) (ha : In20 a) (hb : In20 b) : Calls Tryz.prog 224 #[.int .i64 op, .int .i64 a, .int .i64 b] w (Ret fun r w' => r = .int .i64 (binI op a b) ∧ Ext w w') := by
 have hE := Keep.refl (fun _ => False) w
 have hml := mul_le ha hb
 refine G.in3 Tryz.func224 rfl Tryz.ntmps224 rfl (Gs 18 rfl (G.ite rfl (fun hh1 => ?_) (fun hh1 => ?_)))
 · refine Ga 11 rfl (by omega) (G.ret1 Tryz.results224 rfl ⟨_, rfl, by simp [binI, hh1], hE⟩)
 ·
  refine Gs 6 rfl (G.ite rfl (fun hh2 => ?_) (fun hh2 => ?_))
  · refine Ga 11 rfl (by omega) (G.ret1 Tryz.results224 rfl ⟨_, rfl, by simp [binI, hh2], hE⟩)
  ·
   refine Gs 6 rfl (G.ite rfl (fun hh3 => ?_) (fun hh3 => ?_))
   · refine Ga 11 rfl (by omega) (G.ret1 Tryz.results224 rfl ⟨_, rfl, by simp [binI, hh3], hE⟩)
   ·
    refine Gs 6 rfl (G.ite rfl (fun hh4 => ?_) (fun hh4 => ?_))
    ·
     refine Gs 4 rfl (G.call rfl Tryz.call229 (flatDivide_ok a b _ ha hb) ?_)
     rintro _ wz5 ⟨rfl, hz5⟩
     replace hE := Tr1 hz5 hE
     refine Gs 6 rfl (G.ret1 Tryz.results224 rfl ⟨_, rfl, by simp [binI, hh4], hE⟩)
    ·
     refine Gs 6 rfl (G.ite rfl (fun hh6 => ?_) (fun hh6 => ?_))
     ·
      refine Gs 4 rfl (G.call rfl Tryz.call230 (flatModulo_ok a b _ ha hb) ?_)
      rintro _ wz7 ⟨rfl, hz7⟩
      replace hE := Tr1 hz7 hE
      refine Gs 6 rfl (G.ret1 Tryz.results224 rfl ⟨_, rfl, by simp [binI, hh6], hE⟩)
     ·
      refine Gs 6 rfl (G.ite rfl (fun hh8 => ?_) (fun hh8 => ?_))
      ·
       refine Gs 5 rfl (G.call rfl Tryz.call222 (flatFlag_ok _ _) ?_)
       rintro _ wz9 ⟨rfl, hz9⟩
       replace hE := Tr1 hz9 hE
       refine Gs 6 rfl (G.ret1 Tryz.results224 rfl ⟨_, rfl, by simp [binI, flagI, hh8], hE⟩)
      ·
       refine Gs 6 rfl (G.ite rfl (fun hh10 => ?_) (fun hh10 => ?_))
       ·
        refine Gs 5 rfl (G.call rfl Tryz.call222 (flatFlag_ok _ _) ?_)
        rintro _ wz11 ⟨rfl, hz11⟩
        replace hE := Tr1 hz11 hE
        refine Gs 6 rfl (G.ret1 Tryz.results224 rfl ⟨_, rfl, by simp [binI, flagI, hh10], hE⟩)
       ·
        refine Gs 6 rfl (G.ite rfl (fun hh12 => ?_) (fun hh12 => ?_))
        ·
         refine Gs 5 rfl (G.call rfl Tryz.call222 (flatFlag_ok _ _) ?_)
         rintro _ wz13 ⟨rfl, hz13⟩
         replace hE := Tr1 hz13 hE
         refine Gs 6 rfl (G.ret1 Tryz.results224 rfl ⟨_, rfl, by simp [binI, flagI, hh12], hE⟩)
        ·
         refine Gs 6 rfl (G.ite rfl (fun hh14 => ?_) (fun hh14 => ?_))
         ·
          refine Gs 5 rfl (G.call rfl Tryz.call222 (flatFlag_ok _ _) ?_)
          rintro _ wz15 ⟨rfl, hz15⟩
          replace hE := Tr1 hz15 hE
          refine Gs 6 rfl (G.ret1 Tryz.results224 rfl ⟨_, rfl, by simp [binI, flagI, hh14], hE⟩)
         ·
          refine Gs 6 rfl (G.ite rfl (fun hh16 => ?_) (fun hh16 => ?_))
          ·
           refine Gs 5 rfl (G.call rfl Tryz.call222 (flatFlag_ok _ _) ?_)
           rintro _ wz17 ⟨rfl, hz17⟩
           replace hE := Tr1 hz17 hE
           refine Gs 6 rfl (G.ret1 Tryz.results224 rfl ⟨_, rfl, by simp [binI, flagI, hh16], hE⟩)
          ·
           refine Gs 6 rfl (G.ite rfl (fun hh18 => ?_) (fun hh18 => ?_))
           ·
            refine Gs 5 rfl (G.call rfl Tryz.call222 (flatFlag_ok _ _) ?_)
            rintro _ wz19 ⟨rfl, hz19⟩
            replace hE := Tr1 hz19 hE
            refine Gs 6 rfl (G.ret1 Tryz.results224 rfl ⟨_, rfl, by simp [binI, flagI, hh18], hE⟩)
           ·
            refine Gs 6 rfl (G.ite rfl (fun hh20 => ?_) (fun hh20 => ?_))
            ·
             refine Gs 5 rfl (G.sp 73 rfl (fun hh21 => ?_) (fun hh21 => ?_))
             ·
              refine Gs 3 rfl (G.call rfl Tryz.call222 (flatFlag_ok _ _) ?_)
              rintro _ wz22 ⟨rfl, hz22⟩
              replace hE := Tr1 hz22 hE
              refine Gs 6 rfl (G.ret1 Tryz.results224 rfl ⟨_, rfl, by simp [binI, flagI, hh20, hh21], hE⟩)
             ·
              refine Gs 3 rfl (G.call rfl Tryz.call222 (flatFlag_ok _ _) ?_)
              rintro _ wz23 ⟨rfl, hz23⟩
              replace hE := Tr1 hz23 hE
              refine Gs 6 rfl (G.ret1 Tryz.results224 rfl ⟨_, rfl, by simp [binI, flagI, hh20, hh21], hE⟩)
            ·
             refine Gs 6 rfl (G.ite rfl (fun hh24 => ?_) (fun hh24 => ?_))
             ·
              refine Gs 5 rfl (G.sp 82 rfl (fun hh25 => ?_) (fun hh25 => ?_))
              ·
               refine Gs 3 rfl (G.call rfl Tryz.call222 (flatFlag_ok _ _) ?_)
               rintro _ wz26 ⟨rfl, hz26⟩
               replace hE := Tr1 hz26 hE
               refine Gs 6 rfl (G.ret1 Tryz.results224 rfl ⟨_, rfl, by simp [binI, flagI, hh24, hh25], hE⟩)
              ·
               refine Gs 3 rfl (G.call rfl Tryz.call222 (flatFlag_ok _ _) ?_)
               rintro _ wz27 ⟨rfl, hz27⟩
               replace hE := Tr1 hz27 hE
               refine Gs 6 rfl (G.ret1 Tryz.results224 rfl ⟨_, rfl, by simp [binI, flagI, hh24, hh25], hE⟩)
             ·
              refine Gs 6 rfl (G.ite rfl (fun hh28 => ?_) (fun hh28 => ?_))
              · refine Gs 11 rfl (G.ret1 Tryz.results224 rfl ⟨_, rfl, by simp [binI, hh28], hE⟩)
              · refine Gs 12 rfl (G.ret1 Tryz.results224 rfl ⟨_, rfl, by simp [binI, hh1, hh2, hh3, hh4, hh6, hh8, hh10, hh12, hh14, hh16, hh18, hh20, hh24, hh28], hE⟩)
structure TmOk (vs : List Vr) (vals : List Int) (t : Tm) : Prop where
 ops : t.op = 0 ∨ t.op = 24 ∨ t.op = 6 ∨ t.op = 7 ∨ 8 ≤ t.op ∧ t.op ≤ 22 ∨ t.op = 23 ∨ t.op = 25
 k1 : t.op = 6 ∨ t.op = 7 → t.kids.length = 1
 k2 : 8 ≤ t.op ∧ t.op ≤ 22 → t.kids.length = 2
 k3 : t.op = 23 → t.kids.length = 3
 k25 : t.op = 25 → 2 ≤ t.kids.length ∧ t.kids.length ≤ 33
 var : t.op = 24 → 0 ≤ t.n ∧ t.n < vs.length
 self : In20 (valT vals t)
 kid : ∀ k ∈ t.kids, In20 (valT vals k)
theorem tmOk {vs : List Vr} {inp : Bool} (hv : ∀ v ∈ vs, Good (v.low, v.high)) {vals : List Int} (hV : InV vs vals) {t : Tm} (hf : formedT vs inp t = true) (hr : (rng vs t).isSome = true) : TmOk vs vals t ∧ ∀ k ∈ t.kids, formedT vs inp k = true ∧ (rng vs k).isSome = true := by
 obtain ⟨r, hr⟩ := Option.isSome_iff_exists.1 hr
 have hin : ∀ k, formedT vs inp k = true → ∀ r, rng vs k = some r → In20 (valT vals k) := fun k h1 r h2 => by
  have h3 := valT_in hv hV k h1 r h2
  have h4 := rng_good hv k h1 r h2
  unfold Good at h4
  exact ⟨by omega, by omega⟩
 have hself := hin t hf r hr
 rw [formedT_eq, Bool.and_eq_true, Bool.and_eq_true] at hf
 rw [rng_eq, Option.bind_eq_some_iff] at hr
 obtain ⟨l, h1, h2⟩ := hr
 have hlen := rngL_len _ _ h1
 have hgr : ∀ (ks : List Tm) (m : List Rg), rngL vs ks = some m → ∀ k ∈ ks, (rng vs k).isSome = true := by
  intro ks
  induction ks with
  | nil => intro m _ k h; simp at h
  | cons y ys ihy =>
   intro m hm k hk
   simp only [rngL, Option.bind_eq_some_iff, Option.map_eq_some_iff] at hm
   obtain ⟨z, g1, u, g2, rfl⟩ := hm
   rcases List.mem_cons.1 hk with rfl | hk
   · rw [g1]; rfl
   · exact ihy u g2 k hk
 have hkid : ∀ k ∈ t.kids, formedT vs inp k = true ∧ (rng vs k).isSome = true := fun k hk => ⟨formedL_mem hf.2 hk, hgr _ _ h1 k hk⟩
 have hn : NodeOk vs t.op t.n l := nodeOk_of hlen hf.1.1 hf.1.2 (fun x hx => by
  obtain ⟨k, hk, hkx⟩ := rngL_mem _ _ h1 x hx
  exact rng_good hv k (formedL_mem hf.2 hk) x hkx) hv
 refine ⟨⟨?_, fun h => by rw [← hlen]; exact hn.k1 h, fun h => by rw [← hlen]; exact hn.k2 h, fun h => ?_, fun h => by rw [← hlen]; exact hn.k3 (.inr h), hn.var, hself, fun k hk => ?_⟩, hkid⟩
 ·
  by_cases h : 0 ≤ kidsN t.op ∨ kidsN t.op = -2
  ·
   unfold kidsN at h
   repeat' split at h
   all_goals omega
  ·
   exfalso
   have := kidsN_vals t.op
   have h3 := hf.1.1
   rw [kidsFit_no (.inl (by omega))] at h3
   cases h3
 ·
  have h3 := hf.1.1
  unfold kidsFit at h3
  rw [show kidsN t.op = 3 by unfold kidsN; rw [h]; rfl] at h3
  simp at h3; omega
 ·
  obtain ⟨h3, h4⟩ := hkid k hk
  obtain ⟨r', h5⟩ := Option.isSome_iff_exists.1 h4
  exact hin k h3 r' h5
def ValOk (vals : List Int) (k : Tm) : Prop := ∀ (cs : List Value) (D Dv : Nat → Prop) (w : World) (vv : Value), SlR 1 RInt Dv w vv vals → RTm D w k cs → Calls Tryz.prog 207 #[vv, .agg cs.toArray] w (Ret fun r w' => r = .int .i64 (valT vals k) ∧ Ext w w')
theorem kid_ok (vals : List Int) (t : Tm) (i : Nat) (k : Tm) (hk : t.kids[i]? = some k) (b2 b3 : Nat) (vv kv : Value) (D Dv : Nat → Prop) (w : World) (hB2 : Blk w b2 [vv] 50) (hB3 : Blk w b3 [.int .i64 t.op, .int .i64 t.n, kv] 84) (hks : SlR 3 RTm D w kv t.kids) (hvv : SlR 1 RInt Dv w vv vals) (ih : ValOk vals k) :
  Calls Tryz.prog 221 #[.int .i64 i, .pointer (some ⟨b2, 0, none⟩), .pointer (some ⟨b3, 0, none⟩)] w (Ret fun r w' => r = .int .i64 (valT vals k) ∧ Ext w w') := by
 have hE := Keep.refl (fun _ => False) w
 have hi := (List.getElem?_eq_some_iff.1 hk).1
 obtain ⟨a3, c3, rfl⟩ := hks.form
 obtain ⟨bk, ok, ck, hak, _, hck, hRk⟩ := hks.at hk
 obtain ⟨kv', rfl, hkk⟩ := hRk.get
 refine G.in3 Tryz.func221 rfl Tryz.ntmps221 rfl (Gs 6 rfl (Dw (fun q => Ext w q) [] (fun wd1 hD _ => ?_)))
 refine WD.take 0 rfl (by kernel_rfl) rfl rfl rfl hD (fun w1 hw1 => R.load Tryz.isAgg50 rfl ((hw1.blk hB2 (fun h => h)).cells 0 _ rfl)) (Ds [1] (by kernel_rfl) rfl (WD.take 2 rfl (by kernel_rfl) rfl rfl rfl hD (fun w1 hw1 => R.load Tryz.isAgg82 rfl ((hw1.blk hB3 (fun h => h)).cells 2 _ rfl)) (Ds [3] (by kernel_rfl) rfl (WD.takeW 4 rfl (by kernel_rfl) rfl rfl rfl (fun w1 => R.indexS Tryz.runUnderlying82 Tryz.sizeOf84 rfl rfl hak (by omega)) (WD.take 5 rfl (by kernel_rfl) rfl rfl rfl hD (fun w1 hw1 => R.loadK Tryz.isAgg84 Tryz.sizeOf84 rfl (by rfl) (hw1.cells hck (fun h => h))) (WD.call 6 rfl (by kernel_rfl) rfl rfl rfl (F.call (vs := [_, _]) Tryz.call207 rfl) (ih _ D Dv _ _ (hvv.ext stable_int hD) (RTm.put (hkk.ext stable_tm hD))) ?_))))))
 rintro _ wz2 ⟨rfl, hz2⟩
 replace hD := hD.ext hz2
 refine ⟨fun _ => hD, ?_⟩
 refine Ds [7] (by kernel_rfl) rfl (G.done (by kernel_rfl) ?_ _)
 replace hE := Tr1 hD hE
 refine Gs 2 rfl (G.ret1 Tryz.results221 rfl ⟨_, rfl, rfl, hE⟩)
theorem value_ok {vs : List Vr} {inp : Bool} (hv : ∀ v ∈ vs, Good (v.low, v.high)) {vals : List Int} (hV : InV vs vals) (t : Tm) : formedT vs inp t = true → (rng vs t).isSome = true → ValOk vals t := by
 induction t using Tm.ind with
 | h t ih =>
 intro hf hr cs D Dv w vv hvv ht
 obtain ⟨ok, hkf⟩ := tmOk hv hV hf hr
 have ihk : ∀ k ∈ t.kids, ValOk vals k := fun k hk => ih k hk (hkf k hk).1 (hkf k hk).2
 obtain ⟨kv, rfl, hks⟩ := ht.get
 obtain ⟨a3, c3, rfl⟩ := hks.form
 obtain ⟨av, cv, rfl⟩ := hvv.form
 have hve := valT_eq vals t
 have hops := ok.ops
 have hE := Keep.refl (fun _ => False) w
 refine G.in2 Tryz.func207 rfl Tryz.ntmps207 rfl (Gs 2 rfl (G.mem rfl rfl (M.box rfl rfl) ?_))
 rintro _ w_b2 ⟨b2, rfl, hg_b2, hs_b2, hB_b2, hk_b2⟩
 have hge_b2 : _ ≤ b2 := Nat.le_trans hE.size (Nat.le_of_eq hg_b2.symm)
 obtain ⟨hE, hks, hvv⟩ := Tr3 hk_b2 hE hks hvv
 refine G.mem rfl rfl (M.box rfl rfl) ?_
 rintro _ w_b3 ⟨b3, rfl, hg_b3, hs_b3, hB_b3, hk_b3⟩
 have hn_b2_b3 : b2 ≠ b3 := by have := hB_b2.lt; omega
 have hge_b3 : _ ≤ b3 := Nat.le_trans hE.size (Nat.le_of_eq hg_b3.symm)
 obtain ⟨hE, hks, hvv, hB_b2⟩ := Tr4 hk_b3 hE hks hvv hB_b2
 refine Gs 13 rfl (G.ld rfl Tryz.isAgg81 (hB_b3.cells 0 _ rfl) (Gs 9 rfl ?_))
 have hkid : ∀ (i : Int) (j : Nat) (k : Tm), i = (j : Int) → t.kids[j]? = some k → ∀ w', Ext w_b3 w' → Calls Tryz.prog 221 #[.int .i64 i, .pointer (some ⟨b2, 0, none⟩), .pointer (some ⟨b3, 0, none⟩)] w' (Ret fun r w'' => r = .int .i64 (valT vals k) ∧ Ext w' w'') := fun i j k hij hk w' hw' => by
  subst hij
  exact kid_ok vals t j k hk b2 b3 _ _ D Dv w' (hw'.blk hB_b2 (fun h => h)) (hw'.blk hB_b3 (fun h => h)) (hks.ext stable_tm hw') (hvv.ext stable_int hw') (ihk k (List.mem_of_getElem? hk))
 have hget : ∀ i : Nat, i < t.kids.length → ∃ k, t.kids[i]? = some k ∧ lki (valL vals t.kids) i = valT vals k ∧ In20 (valT vals k) := fun i hi => by
  obtain ⟨k, hk⟩ : ∃ k, t.kids[i]? = some k := ⟨_, List.getElem?_eq_getElem hi⟩
  exact ⟨k, hk, valL_get hk, ok.kid k (List.mem_of_getElem? hk)⟩
 have hX := Keep.refl (fun _ => False) w_b3
 refine G.ite rfl (fun c0 => ?_) (fun c0 => ?_)
 · refine Gs 3 rfl (G.ld rfl Tryz.isAgg3 (hB_b3.cells 1 _ rfl) (Gs 6 rfl (G.ret1 Tryz.results207 rfl ⟨_, rfl, by rw [hve, valOf, if_pos c0], hE⟩)))
 ·
  refine Gs 6 rfl (G.ite rfl (fun c24 => ?_) (fun c24 => ?_))
  ·
   have hn := ok.var c24
   have hln := hV.len
   obtain ⟨bx, ox, cx, hax, _, hcx, rfl⟩ := hvv.at (lki_at (l := vals) (i := t.n.toNat) (by omega))
   refine Gs 2 rfl (G.ld rfl Tryz.isAgg50 (hB_b2.cells 0 _ rfl) (Gs 1 rfl (G.ld rfl Tryz.isAgg3 (hB_b3.cells 1 _ rfl) (G.ops1 rfl rfl (R.indexS Tryz.runUnderlying50 Tryz.sizeOf3 rfl rfl hax (by omega)) (G.ld rfl Tryz.isAgg3 (hcx 0 _ rfl) (Gs 6 rfl (G.ret1 Tryz.results207 rfl ⟨_, rfl, by rw [hve, valOf, if_neg c0, if_pos c24], hE⟩)))))))
  ·
   refine Gs 6 rfl (G.ite rfl (fun c6 => ?_) (fun c6 => ?_))
   ·
    have h1 := ok.k1 (.inl c6)
    obtain ⟨k0, hk0, hl0, hi0⟩ := hget 0 (by omega)
    refine Gs 3 rfl (G.callV rfl Tryz.call221 (hkid 0 0 k0 rfl hk0 _ hX) ?_)
    rintro _ wz1 ⟨rfl, hz1⟩
    obtain ⟨hE, hks, hvv, hB_b2, hB_b3, hX⟩ := Tr6 hz1 hE hks hvv hB_b2 hB_b3 hX
    refine Ga 7 rfl (by omega) (G.ret1 Tryz.results207 rfl ⟨_, rfl, by rw [hve, valOf, if_neg c0, if_neg c24, if_pos c6, hl0], hE⟩)
   ·
    refine Gs 6 rfl (G.ite rfl (fun c7 => ?_) (fun c7 => ?_))
    ·
     have h1 := ok.k1 (.inr c7)
     obtain ⟨k0, hk0, hl0, hi0⟩ := hget 0 (by omega)
     refine Gs 3 rfl (G.callV rfl Tryz.call221 (hkid 0 0 k0 rfl hk0 _ hX) ?_)
     rintro _ wz2 ⟨rfl, hz2⟩
     obtain ⟨hE, hks, hvv, hB_b2, hB_b3, hX⟩ := Tr6 hz2 hE hks hvv hB_b2 hB_b3 hX
     refine Gs 1 rfl (G.call rfl Tryz.call222 (flatFlag_ok _ _) ?_)
     rintro _ wz3 ⟨rfl, hz3⟩
     obtain ⟨hE, hks, hvv, hB_b2, hB_b3, hX⟩ := Tr6 hz3 hE hks hvv hB_b2 hB_b3 hX
     refine Gs 6 rfl (G.ret1 Tryz.results207 rfl ⟨_, rfl, by rw [hve, valOf, if_neg c0, if_neg c24, if_neg c6, if_pos c7, hl0]; rfl, hE⟩)
    ·
     refine Gs 6 rfl (G.ite rfl (fun c23 => ?_) (fun c23 => ?_))
     ·
      have h1 := ok.k3 c23
      obtain ⟨k0, hk0, hl0, hi0⟩ := hget 0 (by omega)
      obtain ⟨k1, hk1, hl1, hi1⟩ := hget 1 (by omega)
      obtain ⟨k2, hk2, hl2, hi2⟩ := hget 2 (by omega)
      refine Gs 4 rfl (G.callV rfl Tryz.call221 (hkid 0 0 k0 rfl hk0 _ hX) ?_)
      rintro _ wz4 ⟨rfl, hz4⟩
      obtain ⟨hE, hks, hvv, hB_b2, hB_b3, hX⟩ := Tr6 hz4 hE hks hvv hB_b2 hB_b3 hX
      refine Gs 3 rfl (G.ite rfl (fun z => ?_) (fun z => ?_))
      ·
       refine Gs 3 rfl (G.callV rfl Tryz.call221 (hkid 1 1 k1 rfl hk1 _ hX) ?_)
       rintro _ wz5 ⟨rfl, hz5⟩
       obtain ⟨hE, hks, hvv, hB_b2, hB_b3, hX⟩ := Tr6 hz5 hE hks hvv hB_b2 hB_b3 hX
       refine Gs 7 rfl (G.ret1 Tryz.results207 rfl ⟨_, rfl, by rw [hve, valOf, if_neg c0, if_neg c24, if_neg c6, if_neg c7, if_pos c23, hl0, if_pos z, hl1], hE⟩)
      ·
       refine Gs 5 rfl (G.callV rfl Tryz.call221 (hkid 2 2 k2 rfl hk2 _ hX) ?_)
       rintro _ wz6 ⟨rfl, hz6⟩
       obtain ⟨hE, hks, hvv, hB_b2, hB_b3, hX⟩ := Tr6 hz6 hE hks hvv hB_b2 hB_b3 hX
       refine Gs 6 rfl (G.ret1 Tryz.results207 rfl ⟨_, rfl, by rw [hve, valOf, if_neg c0, if_neg c24, if_neg c6, if_neg c7, if_pos c23, hl0, if_neg z, hl2], hE⟩)
     ·
      refine Gs 6 rfl (G.ite rfl (fun c25 => ?_) (fun c25 => ?_))
      ·
       have h1 := ok.k25 c25
       obtain ⟨k0, hk0, hl0, hi0⟩ := hget 0 (by omega)
       have hcl := clampI_range (valT vals k0) (show (0 : Int) ≤ (t.kids.length : Int) - 2 by omega)
       obtain ⟨kj, hkj, hlj, hij⟩ := hget (1 + clampI (valT vals k0) 0 ((t.kids.length : Int) - 2)).toNat (by omega)
       refine Gs 1 rfl (Dw (fun q => Ext w_b3 q) [] (fun wd7 hD _ => ?_))
       refine Ds [0, 1, 3] (by kernel_rfl) rfl (WD.take 4 rfl (by kernel_rfl) rfl rfl rfl hD (fun w1 hw1 => R.load Tryz.isAgg82 rfl ((hw1.blk hB_b3 (fun h => h)).cells 2 _ rfl)) (Da [5, 6] (by kernel_rfl) rfl (by omega) (WD.call 2 rfl (by kernel_rfl) rfl rfl rfl (F.callV (vs := [_]) Tryz.call221 rfl rfl) (hkid 0 0 k0 rfl hk0 _ (hX.ext hD)) ?_)))
       rintro _ wz8 ⟨rfl, hz8⟩
       replace hD := hD.ext hz8
       refine ⟨fun _ => hD, ?_⟩
       refine WD.call 7 rfl (by kernel_rfl) rfl rfl rfl (F.call (vs := [_, _, _]) Tryz.call223 rfl) (flatClamp_ok _ _ _ _ (by omega)) ?_
       rintro _ wz9 ⟨rfl, hz9⟩
       replace hD := hD.ext hz9
       refine ⟨fun _ => hD, ?_⟩
       refine Da [8] (by kernel_rfl) rfl (by omega) (WD.call 9 rfl (by kernel_rfl) rfl rfl rfl (F.callV (vs := [_]) Tryz.call221 rfl rfl) (hkid _ _ kj (by omega) hkj _ (hX.ext hD)) ?_)
       rintro _ wz10 ⟨rfl, hz10⟩
       replace hD := hD.ext hz10
       refine ⟨fun _ => hD, ?_⟩
       refine Ds [10] (by kernel_rfl) rfl (G.done (by kernel_rfl) ?_ _)
       obtain ⟨hE, hks, hvv, hB_b2, hB_b3, hX⟩ := Tr6 hD hE hks hvv hB_b2 hB_b3 hX
       refine Gs 4 rfl (G.ret1 Tryz.results207 rfl ⟨_, rfl, by rw [hve, valOf, if_neg c0, if_neg c24, if_neg c6, if_neg c7, if_neg c23, if_pos c25, hl0, valL_len, hlj], hE⟩)
      ·
       have h1 := ok.k2 (by omega)
       obtain ⟨k0, hk0, hl0, hi0⟩ := hget 0 (by omega)
       obtain ⟨k1, hk1, hl1, hi1⟩ := hget 1 (by omega)
       refine Gs 4 rfl (Dw (fun q => Ext w_b3 q) [] (fun wd11 hD _ => ?_))
       refine Ds [0] (by kernel_rfl) rfl (WD.take 1 rfl (by kernel_rfl) rfl rfl rfl hD (fun w1 hw1 => R.load Tryz.isAgg81 rfl ((hw1.blk hB_b3 (fun h => h)).cells 0 _ rfl)) (Ds [2, 4] (by kernel_rfl) rfl (WD.call 3 rfl (by kernel_rfl) rfl rfl rfl (F.callV (vs := [_]) Tryz.call221 rfl rfl) (hkid 0 0 k0 rfl hk0 _ (hX.ext hD)) ?_)))
       rintro _ wz12 ⟨rfl, hz12⟩
       replace hD := hD.ext hz12
       refine ⟨fun _ => hD, ?_⟩
       refine WD.call 5 rfl (by kernel_rfl) rfl rfl rfl (F.callV (vs := [_]) Tryz.call221 rfl rfl) (hkid 1 1 k1 rfl hk1 _ (hX.ext hD)) ?_
       rintro _ wz13 ⟨rfl, hz13⟩
       replace hD := hD.ext hz13
       refine ⟨fun _ => hD, ?_⟩
       refine WD.call 6 rfl (by kernel_rfl) rfl rfl rfl (F.call (vs := [_, _, _]) Tryz.call224 rfl) (flatBinary_ok _ _ _ _ hi0 hi1) ?_
       rintro _ wz14 ⟨rfl, hz14⟩
       replace hD := hD.ext hz14
       refine ⟨fun _ => hD, ?_⟩
       refine Ds [7] (by kernel_rfl) rfl (G.done (by kernel_rfl) ?_ _)
       obtain ⟨hE, hks, hvv, hB_b2, hB_b3, hX⟩ := Tr6 hD hE hks hvv hB_b2 hB_b3 hX
       refine Gs 2 rfl (G.ret1 Tryz.results207 rfl ⟨_, rfl, by rw [hve, valOf, if_neg c0, if_neg c24, if_neg c6, if_neg c7, if_neg c23, if_neg c25, hl0, hl1], hE⟩)
theorem flatEval_ok {vs : List Vr} (hg : ∀ v ∈ vs, Good (v.low, v.high)) {vals : List Int} (hV : InV vs vals) (t : Tm) (hf : formedT vs false t = true) (hr : (rng vs t).isSome = true) (hsz : t.nodes ≤ 1000000) (cs : List Value) (D Dv Dl : Nat → Prop) (w : World) (vv lv : Value) (hvs : SlR 5 RVr Dv w vv vs) (hvv : SlR 1 RInt Dl w lv vals) (ht : RTm D w t cs) :
  Calls Tryz.prog 165 #[vv, lv, .agg cs.toArray] w (Ret fun r w' => r = .tuple #[.int .i64 (valT vals t), .int .i64 0] ∧ Ext w w') := by
 have hln := hV.len
 have h1t := ht.one
 obtain ⟨kv, rfl, hks⟩ := ht.get
 obtain ⟨a3, c3, rfl⟩ := hks.form
 obtain ⟨av, cv, rfl⟩ := hvs.form
 obtain ⟨al, cl, rfl⟩ := hvv.form
 have hmx := hvs.max
 have hE := Keep.refl (fun _ => False) w
 refine G.in3 Tryz.func165 rfl Tryz.ntmps165 rfl (Gs 2 rfl (G.mem rfl rfl (M.box rfl rfl) ?_))
 rintro _ w_b ⟨b, rfl, hg_b, hs_b, hB_b, hk_b⟩
 have hge_b : _ ≤ b := Nat.le_trans hE.size (Nat.le_of_eq hg_b.symm)
 obtain ⟨hE, hks, hvs, hvv⟩ := Tr4 hk_b hE hks hvs hvv
 refine Gs 13 rfl (G.sp 17 rfl (fun hne => ?_) (fun hne => ?_))
 · exact absurd hne (by omega)
 ·
  refine Gs 1 rfl (G.ldK rfl Tryz.isAgg84 Tryz.sizeOf84 hB_b.cells rfl (G.call rfl Tryz.call196 (flatFormed_ok vs false _ Dv t _ D _ hvs (RTm.put hks)) ?_))
  rintro _ wz1 ⟨rfl, hz1⟩
  obtain ⟨hE, hks, hvs, hvv, hB_b⟩ := Tr5 hz1 hE hks hvs hvv hB_b
  rw [hf]
  refine G.ops1 rfl rfl (R.notU rfl (by first | exact not_decide_eq | rfl)) (Gs 3 rfl (G.ff rfl (rfl) (Gs 11 rfl (G.loop (σ := Nat) (fun i => [(0, .slice av vs.length cv), (1, .slice al vals.length cl), (5, .pointer (some ⟨b, 0, none⟩)), (23, .slice av vs.length cv), (24, .int .i64 vs.length), (25, .int .i64 i)]) (fun i => fun w' => i ≤ vs.length ∧ Ext wz1 w') (fun i => vs.length - i) (0) (Sub.of rfl) (⟨Nat.zero_le _, Keep.refl _ _⟩) ?_))))
  rintro i w2 ⟨hi, hL1⟩
  obtain ⟨hE, hks, hvs, hvv, hB_b⟩ := Tr5 hL1 hE hks hvs hvv hB_b
  refine Gs 6 rfl (G.ite rfl (fun hlt => ?_) (fun hge => ?_))
  ·
   obtain ⟨x, he_x⟩ : ∃ x, vs[i]? = some x := ⟨_, List.getElem?_eq_getElem (by omega)⟩
   have hm_x := List.mem_of_getElem? he_x
   obtain ⟨b_x, o_x, c_x, ha_x, _, hc_x, hR_x⟩ := hvs.at he_x
   have h1_x := RVr.one hR_x
   obtain rfl := hR_x
   have hlt_x : b_x < _ := World.block_lt_of_cell? _ _ (hc_x 0 _ rfl)
   have hgx := hg x hm_x
   have hbb : bndB x.low x.high = true := by unfold Good at hgx; unfold bndB; exact decide_eq_true ⟨hgx.2.1, hgx.1, hgx.2.2⟩
   have hin := hV.at_ i x he_x
   obtain ⟨bx, ox, cx, hax, _, hcx, hrx⟩ := hvv.at (lki_at (l := vals) (i := i) (by omega))
   obtain rfl := hrx
   refine Gs 7 rfl (G.ops1 rfl rfl (R.indexS Tryz.runUnderlying22 Tryz.sizeOf125 rfl rfl ha_x (by omega)) (G.ldK rfl Tryz.isAgg125 Tryz.sizeOf125 hc_x rfl (G.mem rfl rfl (M.alloc (cs := _) Tryz.zeroValue125 rfl) ?_)))
   rintro _ wa2 ⟨c, rfl, hg_c, hs_c, hB_c, hk_c⟩
   refine Gs 1 rfl (G.mem0 rfl (M.storeK Tryz.sizeOf125 rfl rfl rfl rfl h1_x hB_c (by simp)) ?_)
   rintro w_c ⟨_, hB_c, hkk_c⟩
   replace hk_c := hk_c.trans hkk_c (fun q hq h => by have h : q = c := h; omega)
   have hn_b_c : b ≠ c := by have := hB_b.lt; omega
   have hge_c : _ ≤ c := Nat.le_trans hE.size (Nat.le_of_eq hg_c.symm)
   obtain ⟨hE, hks, hvs, hvv, hB_b, hL1, hc_x⟩ := Tr7 hk_c hE hks hvs hvv hB_b hL1 hc_x
   replace hcx := Tr1 hk_c hcx
   refine Gs 3 rfl (Dw (fun q => Ext w_c q) [] (fun wd3 hD _ => ?_))
   refine Ds [0] (by kernel_rfl) rfl (WD.take 1 rfl (by kernel_rfl) rfl rfl rfl hD (fun w1 hw1 => R.load Tryz.isAgg3 rfl ((hw1.blk hB_c (fun h => h)).cells 2 _ rfl)) (Ds [2] (by kernel_rfl) rfl (WD.take 3 rfl (by kernel_rfl) rfl rfl rfl hD (fun w1 hw1 => R.load Tryz.isAgg3 rfl ((hw1.blk hB_c (fun h => h)).cells 3 _ rfl)) (WD.call 4 rfl (by kernel_rfl) rfl rfl rfl (F.call (vs := [_, _]) Tryz.call152 rfl) (flatBounded_ok x.low x.high _) ?_))))
   rintro _ wz4 ⟨rfl, hz4⟩
   replace hD := hD.ext hz4
   refine ⟨fun _ => hD, ?_⟩
   refine WD.takeW 5 rfl (by kernel_rfl) rfl rfl rfl (fun w1 => R.notU rfl (by first | exact not_decide_eq | rfl)) (Ds [6] (by kernel_rfl) rfl (WD.sb 36 rfl (fun n3 => ?_) (fun n3 => ?_)))
   · rw [hbb] at n3; cases n3
   ·
    refine Ds [7, 8] (by kernel_rfl) rfl (WD.takeG 9 rfl (by kernel_rfl) rfl rfl hD (.inl ⟨fun a ha => wanted_yes ha rfl rfl rfl rfl, fun w1 hw1 => R.indexS Tryz.runUnderlying50 Tryz.sizeOf3 rfl rfl hax (by omega)⟩) (WD.takeG 10 rfl (by kernel_rfl) rfl rfl hD (.inl ⟨fun a ha => wanted_yes ha rfl rfl rfl rfl, fun w1 hw1 => R.load Tryz.isAgg3 rfl (hw1.cells hcx (fun h => h) 0 _ rfl)⟩) (Ds [11] (by kernel_rfl) rfl (WD.takeG 12 rfl (by kernel_rfl) rfl rfl hD (.inl ⟨fun a ha => wanted_yes ha rfl rfl rfl rfl, fun w1 hw1 => R.load Tryz.isAgg3 rfl ((hw1.blk hB_c (fun h => h)).cells 2 _ rfl)⟩) (Ds [13, 14, 15] (by kernel_rfl) rfl ?_)))))
    refine WD.sp 45 rfl (fun n4 => ?_) (fun n4 => ?_)
    · exact absurd n4 (by omega)
    ·
     refine Ds [16, 17] (by kernel_rfl) rfl (WD.takeG 18 rfl (by kernel_rfl) rfl rfl hD (.inl ⟨fun a ha => wanted_yes ha rfl rfl rfl rfl, fun w1 hw1 => R.indexS Tryz.runUnderlying50 Tryz.sizeOf3 rfl rfl hax (by omega)⟩) (WD.takeG 19 rfl (by kernel_rfl) rfl rfl hD (.inl ⟨fun a ha => wanted_yes ha rfl rfl rfl rfl, fun w1 hw1 => R.load Tryz.isAgg3 rfl (hw1.cells hcx (fun h => h) 0 _ rfl)⟩) (Ds [20] (by kernel_rfl) rfl (WD.takeG 21 rfl (by kernel_rfl) rfl rfl hD (.inl ⟨fun a ha => wanted_yes ha rfl rfl rfl rfl, fun w1 hw1 => R.load Tryz.isAgg3 rfl ((hw1.blk hB_c (fun h => h)).cells 3 _ rfl)⟩) (Ds [22, 23] (by kernel_rfl) rfl ?_)))))
     refine G.done (by kernel_rfl) ?_ _
     obtain ⟨hE, hks, hvs, hvv, hB_b, hL1, hc_x⟩ := Tr7 hD hE hks hvs hvv hB_b hL1 hc_x
     obtain ⟨hcx, hB_c⟩ := Tr2 hD hcx hB_c
     refine Gs 1 rfl (G.ite rfl (fun n5 => ?_) (fun n5 => ?_))
     · exact absurd n5 (by omega)
     · refine Ga 7 rfl (by omega) (G.back (i + 1) (Sub.of rfl) (⟨by omega, hL1⟩) (by first | omega | (dsimp only; omega)))
  ·
   refine Gs 9 rfl (G.ldK rfl Tryz.isAgg84 Tryz.sizeOf84 hB_b.cells rfl (G.call rfl Tryz.call197 (ranged_ok vs false _ Dv hg t _ D _ hvs (RTm.put hks) hf hsz) ?_))
   rintro _ wz5 ⟨⟨a, b', rfl, hab⟩, hz5⟩
   obtain ⟨hE, hks, hvs, hvv, hB_b, hL1⟩ := Tr6 hz5 hE hks hvs hvv hB_b hL1
   rw [hr]
   refine Gs 3 rfl (G.mem rfl rfl (M.alloc (cs := _) Tryz.zeroValue243 rfl) ?_)
   rintro _ wa6 ⟨d, rfl, hg_d, hs_d, hB_d, hk_d⟩
   refine G.mem0 rfl (M.storeK Tryz.sizeOf243 rfl rfl rfl rfl (by simp [Value.oneCell']) hB_d (by simp)) ?_
   rintro w_d ⟨_, hB_d, hkk_d⟩
   replace hk_d := hk_d.trans hkk_d (fun q hq h => by have h : q = d := h; omega)
   have hn_b_d : b ≠ d := by have := hB_b.lt; omega
   have hge_d : _ ≤ d := Nat.le_trans hE.size (Nat.le_of_eq hg_d.symm)
   obtain ⟨hE, hks, hvs, hvv, hB_b, hL1⟩ := Tr6 hk_d hE hks hvs hvv hB_b hL1
   refine Gs 6 rfl (G.ops1 rfl rfl (R.notU rfl (by first | exact not_decide_eq | rfl)) (Gs 2 rfl (G.ff rfl (rfl) (Gs 5 rfl (G.ldK rfl Tryz.isAgg84 Tryz.sizeOf84 hB_b.cells rfl (G.call rfl Tryz.call207 (value_ok hg hV t hf hr _ D Dl _ _ hvv (RTm.put hks)) ?_))))))
   rintro _ wz7 ⟨rfl, hz7⟩
   obtain ⟨hE, hks, hvs, hvv, hB_b, hL1, hB_d⟩ := Tr7 hz7 hE hks hvs hvv hB_b hL1 hB_d
   refine Gs 5 rfl (G.ret2 Tryz.results165 rfl rfl ⟨_, rfl, rfl, hE⟩)
def settleStep (time : Int) (s : Int × Bool) (b : Int) : Int × Bool := if time ≤ b ∧ (s.2 = false ∨ b < s.1) then (b, true) else s
def settleN (bounds : List Int) (time : Int) : Int := (bounds.foldl (settleStep time) (time, false)).1
theorem foldl_take {α β : Type} (f : β → α → β) (b : β) {l : List α} {i : Nat} {x : α} (h : l[i]? = some x) : (l.take (i + 1)).foldl f b = f ((l.take i).foldl f b) x := by rw [take_get h, List.foldl_append]; rfl
theorem flatSettled_ok (l : List Int) (time : Int) (v : Value) (D : Nat → Prop) (w : World) (hl : SlR 1 RInt D w v l) : Calls Tryz.prog 209 #[v, .int .i64 time] w (Ret fun r w' => r = .int .i64 (settleN l time) ∧ Ext w w') := by
 have hmx := hl.max
 obtain ⟨al, cl, rfl⟩ := hl.form
 refine G.in2 Tryz.func209 rfl Tryz.ntmps209 rfl (Gs 21 rfl (G.loop (σ := Nat × Int × Bool) (fun ⟨i, b, fd⟩ => [(1, .int .i64 time), (5, .int .i64 b), (6, .bool fd), (10, .slice al l.length cl), (11, .int .i64 l.length), (12, .int .i64 i)]) (fun ⟨i, b, fd⟩ => fun w' => i ≤ l.length ∧ (b, fd) = (l.take i).foldl (settleStep time) (time, false) ∧ Ext w w') (fun ⟨i, b, fd⟩ => l.length - i) ((0, time, false)) (Sub.of rfl) (⟨Nat.zero_le _, rfl, Keep.refl _ _⟩) ?_))
 rintro ⟨i, b, fd⟩ w1 ⟨hi, hs, hL1⟩
 show G _ _ _ _ _ [(1, .int .i64 time), (5, .int .i64 b), (6, .bool fd), (10, .slice al l.length cl), (11, .int .i64 l.length), (12, .int .i64 i)] _
 replace hl := Tr1 hL1 hl
 refine Gs 6 rfl (G.ite rfl (fun hlt => ?_) (fun hge => ?_))
 ·
  obtain ⟨x, he_x⟩ : ∃ x, l[i]? = some x := ⟨_, List.getElem?_eq_getElem (by omega)⟩
  obtain ⟨bx, ox, cx, hax, _, hcx, rfl⟩ := hl.at he_x
  have hst := foldl_take (settleStep time) (time, false) he_x
  rw [← hs, show settleStep time (b, fd) x = if time ≤ x ∧ (fd = false ∨ x < b) then (x, true) else (b, fd) from rfl] at hst
  refine Gs 6 rfl (G.ops1 rfl rfl (R.indexS Tryz.runUnderlying50 Tryz.sizeOf3 rfl rfl hax (by omega)) (G.ld rfl Tryz.isAgg3 (hcx 0 _ rfl) (Gs 9 rfl (G.sp 19 rfl (fun h1 => ?_) (fun h1 => ?_)))))
  ·
   refine Gs 1 rfl (G.ops1 rfl rfl (R.notU rfl (by first | exact not_decide_eq | rfl)) (Gs 1 rfl (G.sb 22 rfl (fun h2 => ?_) (fun h2 => ?_))))
   ·
    have h2' : fd = false := by simpa using h2
    refine Ga 19 rfl (by omega) (G.back ((i + 1, x, true)) (Sub.cons rfl (Sub.cons rfl (Sub.cons (by first | rfl | (show some (Value.bool true) = some (Value.bool _); simp [*])) (Sub.of rfl)))) (⟨by omega, by rw [hst, if_pos ⟨h1, .inl h2'⟩], hL1⟩) (by first | omega | (dsimp only; omega)))
   ·
    have h2' : fd = true := by simpa using h2
    refine Gs 7 rfl (G.ite rfl (fun h3 => ?_) (fun h3 => ?_))
    · refine Ga 11 rfl (by omega) (G.back ((i + 1, x, true)) (Sub.cons rfl (Sub.cons rfl (Sub.cons (by first | rfl | (show some (Value.bool true) = some (Value.bool _); simp [*])) (Sub.of rfl)))) (⟨by omega, by rw [hst, if_pos ⟨h1, .inr h3⟩], hL1⟩) (by first | omega | (dsimp only; omega)))
    · refine Ga 7 rfl (by omega) (G.back ((i + 1, b, fd)) (Sub.of rfl) (⟨by omega, by rw [hst, if_neg (fun h => h.2.elim (fun h4 => by rw [h2'] at h4; cases h4) h3)], hL1⟩) (by first | omega | (dsimp only; omega)))
  · refine Ga 18 rfl (by omega) (G.back ((i + 1, b, fd)) (Sub.of rfl) (⟨by omega, by rw [hst, if_neg (fun h => h1 h.1)], hL1⟩) (by first | omega | (dsimp only; omega)))
 ·
  have : i = l.length := by omega
  subst this
  rw [List.take_length] at hs
  refine Gs 12 rfl (G.ret1 Tryz.results209 rfl ⟨_, rfl, by rw [settleN, ← hs], hL1⟩)
end Go.Proofs.YtldhllpogdikdaaGreat
namespace Go.GL
section
variable {P : Program} {env : Env} {w : World} {dst : Option Tmp} {ty : TypeId} {pos : String} {aft : Array Edge} {g : Option (Nat × Bool)}
theorem M.make0 {t e : TypeId} {k by' : Nat} {z : Value} {x y : Operand} {m : Nat} {kl kc : IntKind} {zs : List Value} (hu : P.underlying t = some (.slice e)) (he : (P.info? e).map (fun i => (i.zero, i.size, i.bytes)) = some (some z, k, by')) (hx : ev env x = some (.int kl 0)) (hy : ev env y = some (.int kc (m : Int)))
  (hb : by' * m ≤ 281474976710656) (hm : m ≤ 9223372036854775807) (hz : madeCells z.cells (m * k) = zs.toArray) :
  Makes P ⟨dst, .makeSlice t x y, ty, pos, aft, g⟩ env w (fun u w' => ∃ b, u = .slice (some ⟨b, 0, none⟩) 0 m ∧ New w zs e b w') := by
 obtain ⟨i, hi, hz0, hz1, hz2⟩ := info_parts he
 refine ⟨.slice (some ⟨w.heap.size, 0, none⟩) 0 m, w.alloc (.cells zs.toArray e), ?_, _, rfl, New.mk w zs e⟩
 intro n a ha
 have := run_make (P := P) w t e i z hu hi hz0 kl kc 0 (m : Int) (by omega) (by omega) (by rw [hz2]; omega) (by omega)
 rw [hz1] at this
 simp only [Int.toNat_natCast, hz, Int.toNat_zero] at this
 simp [execOp, ha.eval hx, ha.eval hy, this]
end
def pickI (r : Ins) (k : Int) : List Int := if k = 1 then r.secret else if k = 2 then r.pub else r.random
structure StS where
 vals : List Int
 a : Nat
 b : Nat
 c : Nat
def cntK (s : StS) (k : Int) : Nat := if k = 1 then s.a else if k = 2 then s.b else s.c
def bumpK (s : StS) (k : Int) (n : Int) : StS := if k = 1 then ⟨s.vals ++ [n], s.a + 1, s.b, s.c⟩ else if k = 2 then ⟨s.vals ++ [n], s.a, s.b + 1, s.c⟩ else ⟨s.vals ++ [n], s.a, s.b, s.c + 1⟩
def startStep (r : Ins) (o : Option StS) (v : Vr) : Option StS := o.bind fun s => if v.kind = 0 then some { s with vals := s.vals ++ [v.init] } else ((pickI r v.kind)[cntK s v.kind]?).map fun n => bumpK s v.kind n
def startS (vs : List Vr) (r : Ins) : Option StS := vs.foldl (startStep r) (some ⟨[], 0, 0, 0⟩)
def inB (p : Vr × Int) : Bool := decide (p.1.low ≤ p.2) && decide (p.2 ≤ p.1.high)
def startFin (vs : List Vr) (r : Ins) (s : StS) : Int := if s.a ≠ r.secret.length ∨ s.b ≠ r.pub.length ∨ s.c ≠ r.random.length then 1 else if (vs.zip s.vals).all inB then 0 else 3
def startCode (vs : List Vr) (r : Ins) : Int := match startS vs r with
 | none => 1
 | some s => startFin vs r s
def startVals (vs : List Vr) (r : Ins) : List Int := match startS vs r with
 | none => []
 | some s => s.vals
theorem foldl_none (r : Ins) (vs : List Vr) : vs.foldl (startStep r) none = none := by
 induction vs with
 | nil => rfl
 | cons x t ih => rw [List.foldl_cons]; exact ih
theorem startS_none {vs : List Vr} {r : Ins} {i : Nat} (h : (vs.take i).foldl (startStep r) (some ⟨[], 0, 0, 0⟩) = none) : startS vs r = none := by
 have := List.take_append_drop i vs
 rw [startS, ← this, List.foldl_append, h, foldl_none]
theorem startS_take {vs : List Vr} {r : Ins} {i : Nat} {x : Vr} (h : vs[i]? = some x) {s : StS} (hs : (vs.take i).foldl (startStep r) (some ⟨[], 0, 0, 0⟩) = some s) : (vs.take (i + 1)).foldl (startStep r) (some ⟨[], 0, 0, 0⟩) = if x.kind = 0 then some { s with vals := s.vals ++ [x.init] } else ((pickI r x.kind)[cntK s x.kind]?).map fun n => bumpK s x.kind n := by
 rw [take_get h, List.foldl_append, hs]; rfl
theorem bumpK_vals (s : StS) (k n : Int) : (bumpK s k n).vals = s.vals ++ [n] := by
 unfold bumpK
 (repeat' split); all_goals rfl
theorem startS_len {vs : List Vr} {r : Ins} : ∀ (i : Nat) (s : StS), i ≤ vs.length → (vs.take i).foldl (startStep r) (some ⟨[], 0, 0, 0⟩) = some s → s.vals.length = i ∧ s.a ≤ i ∧ s.b ≤ i ∧ s.c ≤ i := by
 intro i
 induction i with
 | zero => intro s _ h; simp at h; subst h; simp
 | succ i ih =>
  intro s hi h
  obtain ⟨x, hx⟩ : ∃ x, vs[i]? = some x := ⟨_, List.getElem?_eq_getElem (by omega)⟩
  cases h1 : (vs.take i).foldl (startStep r) (some ⟨[], 0, 0, 0⟩) with
  | none => rw [take_get hx, List.foldl_append, h1] at h; cases h
  | some s0 =>
   obtain ⟨e1, e2, e3, e4⟩ := ih s0 (by omega) h1
   rw [startS_take hx h1] at h
   split at h
   · cases h; simp; omega
   ·
    obtain ⟨n, _, rfl⟩ := Option.map_eq_some_iff.1 h
    unfold bumpK
    (repeat' split); all_goals (simp; omega)
theorem cntK_bump (s : StS) {k k' : Int} (hk : 1 ≤ k ∧ k ≤ 3) (hk' : 1 ≤ k' ∧ k' ≤ 3) (n : Int) : cntK (bumpK s k n) k' = if k' = k then cntK s k' + 1 else cntK s k' := by
 have h1 : k = 1 ∨ k = 2 ∨ k = 3 := by omega
 have h2 : k' = 1 ∨ k' = 2 ∨ k' = 3 := by omega
 rcases h1 with rfl | rfl | rfl <;> rcases h2 with rfl | rfl | rfl <;> simp [bumpK, cntK]
theorem startS_le {vs : List Vr} {r : Ins} (hkd : ∀ v ∈ vs, 0 ≤ v.kind ∧ v.kind ≤ 3) : ∀ (i : Nat) (s : StS), i ≤ vs.length → (vs.take i).foldl (startStep r) (some ⟨[], 0, 0, 0⟩) = some s → ∀ k, 1 ≤ k → k ≤ 3 → cntK s k ≤ (pickI r k).length := by
 intro i
 induction i with
 | zero => intro s _ h k _ _; simp at h; subst h; unfold cntK; (repeat' split); all_goals simp
 | succ i ih =>
  intro s hi h k hk1 hk3
  obtain ⟨x, hx⟩ : ∃ x, vs[i]? = some x := ⟨_, List.getElem?_eq_getElem (by omega)⟩
  have hkx := hkd x (List.mem_of_getElem? hx)
  cases h1 : (vs.take i).foldl (startStep r) (some ⟨[], 0, 0, 0⟩) with
  | none => rw [take_get hx, List.foldl_append, h1] at h; cases h
  | some s0 =>
   have e1 := ih s0 (by omega) h1 k hk1 hk3
   rw [startS_take hx h1] at h
   split at h
   · cases h; exact e1
   ·
    obtain ⟨n, hn, rfl⟩ := Option.map_eq_some_iff.1 h
    have := (List.getElem?_eq_some_iff.1 hn).1
    rw [cntK_bump s0 (k := x.kind) (by omega) ⟨hk1, hk3⟩]
    split
    · rename_i h2; subst h2; omega
    · exact e1
theorem nodup_len {α : Type} [DecidableEq α] : ∀ {l l' : List α}, l.Nodup → (∀ x ∈ l, x ∈ l') → l.length ≤ l'.length
 | [], _, _, _ => Nat.zero_le _
 | x :: r, l', h, hs => by
  rw [List.nodup_cons] at h
  have h1 := hs x (List.mem_cons_self ..)
  have h2 := nodup_len (l := r) (l' := l'.erase x) h.2 (fun y hy => by
   refine (List.mem_erase_of_ne ?_).2 (hs y (List.mem_cons_of_mem _ hy))
   rintro rfl; exact h.1 hy)
  rw [List.length_erase_of_mem h1] at h2
  have := List.length_pos_of_mem h1
  simp only [List.length_cons]; omega
theorem RanI.len {w : World} {it m : Nat} {l : List (Int × Value)} {seen : List Int} {cur : Option (Int × Value)} (h : RanI w it m l seen cur) : seen.length ≤ l.length := by
 obtain ⟨es, c, since, sb, c0, h1, h2, h3, h4, h5, h6, h7, h8, h9, h10, h11, _⟩ := h
 have := nodup_len (l := seen) (l' := l.map (·.1)) h10 (fun k hk => by
  obtain ⟨v, hv⟩ := h11 k hk
  exact List.mem_map.2 ⟨(k, v), getM_mem hv, rfl⟩)
 simpa using this
theorem zip_take {vs : List Vr} {i : Nat} {x : Vr} (hx : vs[i]? = some x) (vals : List Int) (hv : vals.length = i) (n : Int) : ((vs.take (i + 1)).zip (vals ++ [n])).all inB = (((vs.take i).zip vals).all inB && inB (x, n)) := by
 have hi := (List.getElem?_eq_some_iff.1 hx).1
 rw [take_get hx, List.zip_append (by rw [List.length_take]; omega), List.all_append]; simp
end Go.GL
namespace Go.Proofs.YtldhllpogdikdaaGreat
open Go.GL
def RestI (D : Nat → Prop) (r : Ins) (s : StS) (w : World) (m : Nat) (l : List (Int × Value)) : Prop :=
 MapI w m l ∧ (∀ k, 1 ≤ k → k ≤ 3 → ∃ v, getM l k = some v ∧ SlR 1 RInt D w v ((pickI r k).drop (cntK s k))) ∧ ∀ p ∈ l, 1 ≤ p.1 ∧ p.1 ≤ 3
theorem RestI.ext {D : Nat → Prop} {r : Ins} {s : StS} {w w' : World} {m : Nat} {l : List (Int × Value)} (h : RestI D r s w m l) (hk : Ext w w') : RestI D r s w' m l :=
 ⟨h.1.ext hk, fun k h1 h3 => by obtain ⟨v, h4, h5⟩ := h.2.1 k h1 h3; exact ⟨v, h4, h5.ext stable_int hk⟩, h.2.2⟩
theorem RestI.keep {D : Nat → Prop} {r : Ins} {s : StS} {w w' : World} {S : Nat → Prop} {m : Nat} {l : List (Int × Value)} (h : RestI D r s w m l) (hk : Keep S w w') (hm : ¬ S m) (hD : ∀ q, D q → ¬ S q) : RestI D r s w' m l :=
 ⟨h.1.keep hk hm, fun k h1 h3 => by obtain ⟨v, h4, h5⟩ := h.2.1 k h1 h3; exact ⟨v, h4, h5.keep stable_int hk (fun q hq _ => hD q hq)⟩, h.2.2⟩
theorem start_ok (f : Fl) (r : Ins) (v1 v2 v3 s1 s2 s3 : Value) (D : Nat → Prop) (w : World) (hf : RFl D w f v1 v2 v3) (h1 : SlR 1 RInt D w s1 r.secret) (h2 : SlR 1 RInt D w s2 r.pub) (h3 : SlR 1 RInt D w s3 r.random) (hDw : ∀ q, D q → q < w.heap.size) (hkd : ∀ v ∈ f.vars, 0 ≤ v.kind ∧ v.kind ≤ 3) (hlen : f.vars.length ≤ 1000) :
  Calls Tryz.prog 121 #[.agg #[v1, v2, v3], .agg #[s1, s2, s3]] w (Ret fun rr w' => (∃ vv, rr = .tuple #[vv, .int .i64 (startCode f.vars r)] ∧ (startCode f.vars r = 0 → w'.ownsRow 0 3 1 vv f.vars.length ((startVals f.vars r).flatMap encI) ∧ ∀ g, vv.ownBlock = some g → w.heap.size ≤ g)) ∧ Ext w w') := by
 have hvs := hf.vars
 obtain ⟨av, cv, rfl⟩ := hvs.form
 refine G.in2 Tryz.func121 rfl Tryz.ntmps121 rfl (Gs 2 rfl (G.mem rfl rfl (M.box rfl rfl) ?_))
 rintro _ w1 ⟨b1, rfl, hb1, hs1, hB1, hk1⟩
 refine G.mem rfl rfl (M.box rfl rfl) ?_
 rintro _ w2 ⟨b2, rfl, hb2, hs2, hB2, hk2⟩
 replace hB1 := hk2.blk hB1 (fun h => h)
 refine Gs 6 rfl (G.mem rfl rfl (M.makeMap) ?_)
 rintro _ w3 ⟨m, rfl, hm, hs3, hM, hk3⟩
 replace hB1 := hk3.blk hB1 (fun h => h)
 replace hB2 := hk3.blk hB2 (fun h => h)
 refine Gs 1 rfl (G.ld rfl Tryz.isAgg50 (hB2.cells 0 _ rfl) (G.mem0 rfl (M.insert hM Tryz.underlying220 Tryz.underlying121 rfl rfl rfl) ?_))
 rintro w4 ⟨hM4, hk4, hs4⟩
 have hB14 := hk4.blk hB1 (fun h => hM.ne hB1 h)
 have hB24 := hk4.blk hB2 (fun h => hM.ne hB2 h)
 refine Gs 1 rfl (G.ld rfl Tryz.isAgg50 (hB24.cells 1 _ rfl) (G.mem0 rfl (M.insert hM4 Tryz.underlying220 Tryz.underlying121 rfl rfl rfl) ?_))
 rintro w5 ⟨hM5, hk5, hs5⟩
 have hB15 := hk5.blk hB14 (fun h => hM4.ne hB14 h)
 have hB25 := hk5.blk hB24 (fun h => hM4.ne hB24 h)
 refine Gs 1 rfl (G.ld rfl Tryz.isAgg50 (hB25.cells 2 _ rfl) (G.mem0 rfl (M.insert hM5 Tryz.underlying220 Tryz.underlying121 rfl rfl rfl) ?_))
 rintro w6 ⟨hM6, hk6, hs6⟩
 have hB16 := hk6.blk hB15 (fun h => hM5.ne hB15 h)
 have e6 : setM (setM (setM [] 1 s1) 2 s2) 3 s3 = [(1, s1), (2, s2), (3, s3)] := by simp [setM, lkm]
 rw [e6] at hM6
 have hE3 : Ext w w3 := (hk1.ext hk2).ext hk3
 have hE6 : Ext w w6 := ((hE3.trans hk4 (fun q hq h => by have h : q = m := h; omega)).trans hk5 (fun q hq h => by have h : q = m := h; omega)).trans hk6 (fun q hq h => by have h : q = m := h; omega)
 have hR6 : RestI D r ⟨[], 0, 0, 0⟩ w6 m [(1, s1), (2, s2), (3, s3)] := by
  refine ⟨hM6, fun k q1 q3 => ?_, by simp⟩
  have : k = 1 ∨ k = 2 ∨ k = 3 := by omega
  rcases this with rfl | rfl | rfl
  · exact ⟨s1, by simp [getM, lkm], h1.ext stable_int hE6⟩
  · exact ⟨s2, by simp [getM, lkm], h2.ext stable_int hE6⟩
  · exact ⟨s3, by simp [getM, lkm], h3.ext stable_int hE6⟩
 refine Gs 7 rfl (G.ld rfl Tryz.isAgg22 (hB16.cells 0 _ rfl) (Gs 1 rfl (G.mem rfl rfl (M.make0 Tryz.underlying50 Tryz.el3 rfl rfl (by omega) (by omega) (made1 _ _ rfl)) ?_)))
 rintro _ w7 ⟨g7, rfl, hg7, hs7, hB7, hk7⟩
 have hE7 := hE6.ext hk7
 have hR7 := hR6.ext hk7
 have hB17 := hk7.blk hB16 (fun h => h)
 have ho7 : w7.ownsRow 0 3 1 (.slice (some ⟨g7, 0, none⟩) 0 f.vars.length) 0 (([] : List Int).flatMap encI) := by
  have := own_blk (k := 1) (n := 0) (cap := f.vars.length) hB7 (Nat.zero_le _) (by omega) (by simp)
  simpa using this
 refine Gs 12 rfl (G.ld rfl Tryz.isAgg22 (hB17.cells 0 _ rfl) (Gs 5 rfl ?_))
 have hsz7 := hE6.size
 refine G.loop (σ := Nat × Value × StS × List (Int × Value)) (fun ⟨i, vo, s, l⟩ => [(6, .map (some m)), (7, vo), (8, .int .i64 (if ((f.vars.take i).zip s.vals).all inB then 0 else 3)), (27, .slice av f.vars.length cv), (28, .int .i64 f.vars.length), (29, .int .i64 i)]) (fun ⟨i, vo, s, l⟩ => fun w' => i ≤ f.vars.length ∧ (f.vars.take i).foldl (startStep r) (some ⟨[], 0, 0, 0⟩) = some s ∧ RestI D r s w' m l ∧ w'.ownsRow 0 3 1 vo i (s.vals.flatMap encI) ∧ (∀ g, vo.ownBlock = some g → w.heap.size ≤ g) ∧ Ext w w') (fun ⟨i, vo, s, l⟩ => f.vars.length - i) ((0, .slice (some ⟨g7, 0, none⟩) 0 f.vars.length, ⟨[], 0, 0, 0⟩, [(1, s1), (2, s2), (3, s3)])) (Sub.of rfl) (⟨Nat.zero_le _, rfl, hR7, ho7, fun g hg => by obtain rfl : g7 = g := Option.some.inj hg; omega, hE7⟩) ?_
 rintro ⟨i, vo, s, l⟩ w8 ⟨hi, hfold, hR, ho, hfr, hE⟩
 show G _ _ _ _ _ [(6, .map (some m)), (7, vo), (8, .int .i64 (if ((f.vars.take i).zip s.vals).all inB then 0 else 3)), (27, .slice av f.vars.length cv), (28, .int .i64 f.vars.length), (29, .int .i64 i)] _
 have hln := startS_len i s hi hfold
 refine Gs 6 rfl (G.ite rfl (fun hlt => ?_) (fun hge => ?_))
 ·
  have hvs8 := hvs.ext stable_vr hE
  obtain ⟨x, he_x⟩ : ∃ x, f.vars[i]? = some x := ⟨_, List.getElem?_eq_getElem (by omega)⟩
  have hm_x := List.mem_of_getElem? he_x
  obtain ⟨b_x, o_x, c_x, ha_x, _, hc_x, hR_x⟩ := hvs8.at he_x
  have h1_x := RVr.one hR_x
  obtain rfl := hR_x
  have hlt_x : b_x < _ := World.block_lt_of_cell? _ _ (hc_x 0 _ rfl)
  have hkx := hkd x hm_x
  have hst := startS_take he_x hfold
  refine Gs 6 rfl (G.ops1 rfl rfl (R.indexS Tryz.runUnderlying22 Tryz.sizeOf125 rfl rfl ha_x (by omega)) (G.ldK rfl Tryz.isAgg125 Tryz.sizeOf125 hc_x rfl (G.mem rfl rfl (M.alloc (cs := _) Tryz.zeroValue125 rfl) ?_)))
  rintro _ wa1 ⟨c, rfl, hg_c, hs_c, hB_c, hk_c⟩
  refine G.mem0 rfl (M.storeK Tryz.sizeOf125 rfl rfl rfl rfl h1_x hB_c (by simp)) ?_
  rintro w_c ⟨_, hB_c, hkk_c⟩
  replace hk_c := hk_c.trans hkk_c (fun q hq h => by have h : q = c := h; omega)
  replace hc_x := Tr1 hk_c hc_x
  refine Gs 5 rfl (G.ld rfl Tryz.isAgg3 (hB_c.cells 4 _ rfl) (Gs 7 rfl (G.ld rfl Tryz.isAgg121 (hB_c.cells 1 _ rfl) (Gs 3 rfl ?_))))
  replace hE := hE.ext hk_c
  replace hR := hR.ext hk_c
  replace ho := own_keep ho hk_c (fun _ _ h => h)
  refine G.cut (σ := Int × StS × List (Int × Value)) (fun ⟨n, s', l'⟩ => [(6, .map (some m)), (7, vo), (8, .int .i64 (if ((f.vars.take i).zip s.vals).all inB then 0 else 3)), (10, .pointer (some ⟨c, 0, none⟩)), (11, .int .i64 n), (27, .slice av f.vars.length cv), (28, .int .i64 f.vars.length), (29, .int .i64 i)]) (fun ⟨n, s', l'⟩ => fun w' => (f.vars.take (i + 1)).foldl (startStep r) (some ⟨[], 0, 0, 0⟩) = some s' ∧ s'.vals = s.vals ++ [n] ∧ RestI D r s' w' m l' ∧ w'.ownsRow 0 3 1 vo i (s.vals.flatMap encI) ∧ Blk w' c [.string x.name, .int .i64 x.kind, .int .i64 x.low, .int .i64 x.high, .int .i64 x.init] 125 ∧ Ext w w') ?_ ?_
  ·
   refine G.ite rfl (fun k0 => ?_) (fun k0 => ?_)
   ·
    rw [if_neg k0] at hst
    obtain ⟨v, hgv, hsv⟩ := hR.2.1 x.kind (by omega) (by omega)
    have hle := startS_le (r := r) hkd i s hi hfold x.kind (by omega) (by omega)
    obtain ⟨pa, pc, rfl⟩ := hsv.form
    have hlk : (getM l x.kind).getD (.slice none 0 0) = .slice pa ((pickI r x.kind).drop (cntK s x.kind)).length pc := by rw [hgv]; rfl
    refine Gs 5 rfl (G.ld rfl Tryz.isAgg121 (hB_c.cells 1 _ rfl) (G.ops1 rfl rfl (R.lookupI hR.1 Tryz.underlying220 Tryz.underlying121 Tryz.zeroValue50 rfl rfl) ?_))
    rw [hlk]
    refine Gs 4 rfl (G.ite rfl (fun z0 => ?_) (fun z0 => ?_))
    ·
     have hnone : (pickI r x.kind)[cntK s x.kind]? = none := by rw [List.getElem?_eq_none_iff]; rw [List.length_drop] at z0; omega
     rw [hnone] at hst
     have hS : startS f.vars r = none := startS_none (i := i + 1) hst
     have hC : startCode f.vars r = 1 := by unfold startCode; rw [hS]
     refine Gs 15 rfl (G.ret2 Tryz.results121 rfl rfl ⟨_, rfl, ⟨_, by rw [hC], fun h => by rw [hC] at h; cases h⟩, hE⟩)
    ·
     obtain ⟨n, hn⟩ : ∃ n, (pickI r x.kind)[cntK s x.kind]? = some n := ⟨_, List.getElem?_eq_getElem (by rw [List.length_drop] at z0; omega)⟩
     rw [hn] at hst
     have hn0 : ((pickI r x.kind).drop (cntK s x.kind))[0]? = some n := by rw [List.getElem?_drop]; exact hn
     have hlen0 := (List.getElem?_eq_some_iff.1 hn0).1
     obtain ⟨bx, ox, cx, hax, hDx, _, hcx, hrx⟩ : ∃ b o cs, pa = some ⟨b, o, none⟩ ∧ D b ∧ cs.length = 1 ∧ Cells w_c b (o + 0 * 1) cs ∧ RInt D w_c n cs := by
      obtain ⟨ao', cap', h1, h2, h3, h4⟩ := hsv
      cases h1
      exact h4 0 n hn0
     obtain rfl := hrx
     refine Gs 2 rfl (Dw (fun q => RestI D r s q m l ∧ Blk q c [.string x.name, .int .i64 x.kind, .int .i64 x.low, .int .i64 x.high, .int .i64 x.init] 125 ∧ Cells q bx (ox + 0 * 1) [.int .i64 n]) [17] (fun y0 yk0 _ => ?_))
     have yR0 := hR.ext yk0
     have yB0 := yk0.blk hB_c (fun h => h)
     have yC0 := yk0.cells hcx (fun h => h)
     have yE0 := hE.ext yk0
     have yo0 := own_keep ho yk0 (fun _ _ h => h)
     refine Ds [0, 1] (by kernel_rfl) rfl (WD.take 2 rfl (by kernel_rfl) rfl rfl rfl ⟨yR0, yB0, yC0⟩ (fun w1 hw1 => R.load Tryz.isAgg121 rfl (hw1.2.1.cells 1 _ rfl)) (Ds [3, 4] (by kernel_rfl) rfl (WD.take 5 rfl (by kernel_rfl) rfl rfl rfl ⟨yR0, yB0, yC0⟩ (fun w1 hw1 => R.load Tryz.isAgg121 rfl (hw1.2.1.cells 1 _ rfl)) (WD.take 6 rfl (by kernel_rfl) rfl rfl rfl ⟨yR0, yB0, yC0⟩ (fun w1 hw1 => R.lookupI hw1.1.1 Tryz.underlying220 Tryz.underlying121 Tryz.zeroValue50 rfl rfl) ?_))))
     rw [hlk]
     refine WD.takeW 7 rfl (by kernel_rfl) rfl rfl rfl (fun w1 => R.indexS Tryz.runUnderlying50 Tryz.sizeOf3 rfl rfl hax (by omega)) (WD.take 8 rfl (by kernel_rfl) rfl rfl rfl ⟨yR0, yB0, yC0⟩ (fun w1 hw1 => R.load Tryz.isAgg3 rfl (hw1.2.2 0 _ rfl)) (Ds [9, 10] (by kernel_rfl) rfl (WD.take 11 rfl (by kernel_rfl) rfl rfl rfl ⟨yR0, yB0, yC0⟩ (fun w1 hw1 => R.load Tryz.isAgg121 rfl (hw1.2.1.cells 1 _ rfl)) (WD.take 12 rfl (by kernel_rfl) rfl rfl rfl ⟨yR0, yB0, yC0⟩ (fun w1 hw1 => R.lookupI hw1.1.1 Tryz.underlying220 Tryz.underlying121 Tryz.zeroValue50 rfl rfl) ?_))))
     rw [hlk]
     refine WD.takeW 13 rfl (by kernel_rfl) rfl rfl rfl (fun w1 => R.sliceLo Tryz.runUnderlying50 Tryz.sizeOf3 rfl rfl (by omega)) (Ds [14] (by kernel_rfl) rfl (WD.mem 15 rfl (by kernel_rfl) rfl rfl rfl (M.mapEntry yR0.1 hgv Tryz.underlying220 Tryz.underlying121 rfl rfl) ?_))
     rintro _ y1 ⟨st, rfl, hME, yk1, ys1⟩
     have yR1 : RestI D r s y1 m l := ⟨hME.map, fun k q1 q3 => by
      obtain ⟨v, h4, h5⟩ := yR0.2.1 k q1 q3
      exact ⟨v, h4, h5.keep stable_int yk1 (fun q hq _ (h : q = m) => by have := hDw q hq; omega)⟩, yR0.2.2⟩
     have yB1 := yk1.blk yB0 (fun h => yR0.1.ne yB0 h)
     have yC1 := yk1.cells yC0 (fun (h : bx = m) => by have := hDw bx hDx; omega)
     refine ⟨fun _ => ⟨yR1, yB1, yC1⟩, ?_⟩
     refine Ds [16] (by kernel_rfl) rfl (WD.mem0 17 rfl (by kernel_rfl) rfl rfl (M.entryStore hME rfl rfl rfl) ?_)
     rintro y2 ⟨hM2, yk2, ys2⟩
     refine ⟨fun h => absurd (by simp) h, ?_⟩
     refine G.done (by kernel_rfl) ?_ _
     have yE2 : Ext w y2 := (yE0.trans yk1 (fun q hq (h : q = m) => by omega)).trans yk2 (fun q hq (h : q = m) => by omega)
     have hnm : vo.ownBlock ≠ some m := fun h => by obtain ⟨cs', hb'⟩ := own_blkty yo0 h; exact yR0.1.ne hb' rfl
     refine G.meet ((n, bumpK s x.kind n, setM l x.kind (.slice (if pc = (1 : Int).toNat then pa else pa.map (·.add ((1 : Int).toNat * 1))) (((pickI r x.kind).drop (cntK s x.kind)).length - (1 : Int).toNat) (pc - (1 : Int).toNat)))) (Sub.of rfl) (⟨hst, bumpK_vals s x.kind n, ⟨hM2, ?_, ?_⟩, own_keep (own_keep yo0 yk1 (fun g hg (h : g = m) => hnm (by rw [← h]; exact hg))) yk2 (fun g hg (h : g = m) => hnm (by rw [← h]; exact hg)), yk2.blk yB1 (fun h => hME.map.ne yB1 h), yE2⟩)
     ·
      intro k q1 q3
      rw [getM_setM hME.map.nodup, cntK_bump s (k := x.kind) (by omega) ⟨q1, q3⟩]
      by_cases hkk : k = x.kind
      ·
       rw [if_pos hkk, if_pos hkk]
       refine ⟨_, rfl, ?_⟩
       have := hsv.drop 1 (by omega)
       rw [List.drop_drop] at this
       rw [hkk]
       exact (this.ext stable_int yk0).keep stable_int (yk1.trans yk2 (fun _ _ h => h)) (fun q hq _ (h : q = m) => by have := hDw q hq; omega)
      ·
       rw [if_neg hkk, if_neg hkk]
       obtain ⟨v, h4, h5⟩ := yR1.2.1 k q1 q3
       exact ⟨v, h4, h5.keep stable_int yk2 (fun q hq _ (h : q = m) => by have := hDw q hq; omega)⟩
     ·
      intro p hp
      have hk1 : p.1 ∈ (setM l x.kind (.slice (if pc = (1 : Int).toNat then pa else pa.map (·.add ((1 : Int).toNat * 1))) (((pickI r x.kind).drop (cntK s x.kind)).length - (1 : Int).toNat) (pc - (1 : Int).toNat))).map (·.1) := List.mem_map.2 ⟨p, hp, rfl⟩
      rw [keys_setM] at hk1
      have hkeys : ∀ k ∈ l.map (·.1), 1 ≤ k ∧ k ≤ 3 := fun k hk => by
       obtain ⟨p', hp', rfl⟩ := List.mem_map.1 hk
       exact yR1.2.2 p' hp'
      split at hk1
      · exact hkeys _ hk1
      ·
       rcases List.mem_append.1 hk1 with h | h
       · exact hkeys _ h
       · rw [List.mem_singleton] at h; omega
   ·
    have hk0 : x.kind = 0 := by omega
    rw [if_pos hk0] at hst
    refine Gs 1 rfl (G.meet ((x.init, { s with vals := s.vals ++ [x.init] }, l)) (Sub.of rfl) (⟨hst, rfl, hR, ho, hB_c, hE⟩))
  ·
   rintro ⟨n, s', l'⟩ w9 ⟨xfold, xvals, xR, xo, hB_c, xE⟩
   show G _ _ _ _ _ [(6, .map (some m)), (7, vo), (8, .int .i64 (if ((f.vars.take i).zip s.vals).all inB then 0 else 3)), (10, .pointer (some ⟨c, 0, none⟩)), (11, .int .i64 n), (27, .slice av f.vars.length cv), (28, .int .i64 f.vars.length), (29, .int .i64 i)] _
   refine Gs 6 rfl (G.ld rfl Tryz.isAgg3 (hB_c.cells 2 _ rfl) (Gs 2 rfl (G.sp 64 rfl (fun n1 => ?_) (fun n1 => ?_))))
   ·
    have hinb : inB (x, n) = false := by unfold inB; rw [decide_eq_false (by dsimp only; omega)]; rfl
    refine Gs 15 rfl (G.mem rfl rfl (M.buildSlice (cs := [.int .i64 n]) [(0, _)] Tryz.runUnderlying50 Tryz.sizeOf3 Tryz.zeroValue3 (by decide) rfl (by kernel_rfl)) ?_)
    rintro _ z1 ⟨gb, rfl, hgb, hzs, hBb, zk1⟩
    have zo1 := own_keep xo zk1 (fun _ _ h => h)
    have zE1 := xE.ext zk1
    have zR1 := xR.ext zk1
    refine G.mem rfl rfl (M.append Tryz.underlying50 Tryz.el3 rfl (by decide) rfl rfl zo1 rfl (Cells.add hBb.cells) (by simp [Value.oneCell']) (by omega) (by omega)) ?_
    rintro vo' z2 ⟨zo2, zf2, zk2, _⟩
    have zE2 : Ext w z2 := Keep.trans zE1 zk2 (fun k hk h => by have := hfr k h; omega)
    have zf3 : ∀ g, vo'.ownBlock = some g → w.heap.size ≤ g := fun g hg => by
     rcases zf2 with h | ⟨g', h, h'⟩
     · exact hfr g (by rw [← h]; exact hg)
     · rw [h] at hg; cases hg; have := zE1.size; omega
    have zR2 : RestI D r s' z2 m l' := zR1.keep zk2 (fun h => by obtain ⟨cs', hb'⟩ := own_blkty zo1 h; exact zR1.1.ne hb' rfl) (fun q hq h => by have := hfr q h; have := hDw q hq; omega)
    refine Ga 8 rfl (by omega) (G.back ((i + 1, vo', s', l')) (Sub.cons rfl (Sub.cons rfl (Sub.cons (slotI rfl (by rw [xvals, zip_take he_x s.vals hln.1 n]; rw [hinb, Bool.and_false]; rfl)) (Sub.of rfl)))) (⟨by omega, xfold, zR2, by rw [xvals, List.flatMap_append]; exact zo2, zf3, zE2⟩) (by first | omega | (dsimp only; omega)))
   ·
    refine Gs 2 rfl (G.ld rfl Tryz.isAgg3 (hB_c.cells 3 _ rfl) (Gs 4 rfl (G.ite rfl (fun n2 => ?_) (fun n2 => ?_))))
    ·
     have hinb : inB (x, n) = false := by unfold inB; rw [decide_eq_false (show ¬ (x, n).2 ≤ (x, n).1.high by dsimp only; omega), Bool.and_false]
     refine Gs 7 rfl (G.mem rfl rfl (M.buildSlice (cs := [.int .i64 n]) [(0, _)] Tryz.runUnderlying50 Tryz.sizeOf3 Tryz.zeroValue3 (by decide) rfl (by kernel_rfl)) ?_)
     rintro _ z1 ⟨gb, rfl, hgb, hzs, hBb, zk1⟩
     have zo1 := own_keep xo zk1 (fun _ _ h => h)
     have zE1 := xE.ext zk1
     have zR1 := xR.ext zk1
     refine G.mem rfl rfl (M.append Tryz.underlying50 Tryz.el3 rfl (by decide) rfl rfl zo1 rfl (Cells.add hBb.cells) (by simp [Value.oneCell']) (by omega) (by omega)) ?_
     rintro vo' z2 ⟨zo2, zf2, zk2, _⟩
     have zE2 : Ext w z2 := Keep.trans zE1 zk2 (fun k hk h => by have := hfr k h; omega)
     have zf3 : ∀ g, vo'.ownBlock = some g → w.heap.size ≤ g := fun g hg => by
      rcases zf2 with h | ⟨g', h, h'⟩
      · exact hfr g (by rw [← h]; exact hg)
      · rw [h] at hg; cases hg; have := zE1.size; omega
     have zR2 : RestI D r s' z2 m l' := zR1.keep zk2 (fun h => by obtain ⟨cs', hb'⟩ := own_blkty zo1 h; exact zR1.1.ne hb' rfl) (fun q hq h => by have := hfr q h; have := hDw q hq; omega)
     refine Ga 8 rfl (by omega) (G.back ((i + 1, vo', s', l')) (Sub.cons rfl (Sub.cons rfl (Sub.cons (slotI rfl (by rw [xvals, zip_take he_x s.vals hln.1 n]; rw [hinb, Bool.and_false]; rfl)) (Sub.of rfl)))) (⟨by omega, xfold, zR2, by rw [xvals, List.flatMap_append]; exact zo2, zf3, zE2⟩) (by first | omega | (dsimp only; omega)))
    ·
     have hinb : inB (x, n) = true := by unfold inB; rw [decide_eq_true (by dsimp only; omega), decide_eq_true (by dsimp only; omega)]; rfl
     refine Gs 5 rfl (G.mem rfl rfl (M.buildSlice (cs := [.int .i64 n]) [(0, _)] Tryz.runUnderlying50 Tryz.sizeOf3 Tryz.zeroValue3 (by decide) rfl (by kernel_rfl)) ?_)
     rintro _ z1 ⟨gb, rfl, hgb, hzs, hBb, zk1⟩
     have zo1 := own_keep xo zk1 (fun _ _ h => h)
     have zE1 := xE.ext zk1
     have zR1 := xR.ext zk1
     refine G.mem rfl rfl (M.append Tryz.underlying50 Tryz.el3 rfl (by decide) rfl rfl zo1 rfl (Cells.add hBb.cells) (by simp [Value.oneCell']) (by omega) (by omega)) ?_
     rintro vo' z2 ⟨zo2, zf2, zk2, _⟩
     have zE2 : Ext w z2 := Keep.trans zE1 zk2 (fun k hk h => by have := hfr k h; omega)
     have zf3 : ∀ g, vo'.ownBlock = some g → w.heap.size ≤ g := fun g hg => by
      rcases zf2 with h | ⟨g', h, h'⟩
      · exact hfr g (by rw [← h]; exact hg)
      · rw [h] at hg; cases hg; have := zE1.size; omega
     have zR2 : RestI D r s' z2 m l' := zR1.keep zk2 (fun h => by obtain ⟨cs', hb'⟩ := own_blkty zo1 h; exact zR1.1.ne hb' rfl) (fun q hq h => by have := hfr q h; have := hDw q hq; omega)
     refine Ga 8 rfl (by omega) (G.back ((i + 1, vo', s', l')) (Sub.cons rfl (Sub.cons rfl (Sub.cons (slotI rfl (by rw [xvals, zip_take he_x s.vals hln.1 n]; rw [hinb, Bool.and_true])) (Sub.of rfl)))) (⟨by omega, xfold, zR2, by rw [xvals, List.flatMap_append]; exact zo2, zf3, zE2⟩) (by first | omega | (dsimp only; omega)))
 ·
  have hii : i = f.vars.length := by omega
  subst hii
  rw [List.take_length] at hfold
  have hS : startS f.vars r = some s := hfold
  have hCC : startCode f.vars r = startFin f.vars r s := by unfold startCode; rw [hS]
  have hle := startS_le (r := r) hkd f.vars.length s (Nat.le_refl _) (by rw [List.take_length]; exact hfold)
  refine Gs 9 rfl (G.mem rfl rfl (M.range hR.1 Tryz.underlying220 rfl) ?_)
  rintro _ x1 ⟨it, rfl, hit, hRan, xk1, xs1⟩
  have xo1 := own_keep ho xk1 (fun _ _ h => h)
  have xE1 := hE.ext xk1
  have hkeys : ∀ k v, getM l k = some v → 1 ≤ k ∧ k ≤ 3 := fun k v h => hR.2.2 _ (getM_mem h)
  have hval : ∀ k v, getM l k = some v → ∀ w', Keep (fun q => q = it) x1 w' → SlR 1 RInt D w' v ((pickI r k).drop (cntK s k)) := fun k v h w' hk => by
   have h1 := hkeys k v h
   obtain ⟨v', h4, h5⟩ := hR.2.1 k h1.1 h1.2
   rw [h] at h4; cases h4
   exact (h5.ext stable_int xk1).keep stable_int hk (fun q hq _ (h : q = it) => by have := hDw q hq; have := hE.size; omega)
  refine Gs 3 rfl (G.loop (σ := List Int × Option (Int × Value)) (fun ⟨seen, cur⟩ => [(7, vo), (8, .int .i64 (if ((f.vars.take f.vars.length).zip s.vals).all inB then 0 else 3)), (76, .pointer (some ⟨it, 0, none⟩))]) (fun ⟨seen, cur⟩ => fun w' => RanI w' it m l seen cur ∧ (∀ k ∈ seen, (pickI r k).drop (cntK s k) = []) ∧ Keep (fun q => q = it) x1 w') (fun ⟨seen, cur⟩ => l.length - seen.length) (([], none)) (Sub.of rfl) (⟨hRan, by simp, Keep.refl _ _⟩) ?_)
  rintro ⟨seen, cur⟩ x2 ⟨hR2, hem, xk2⟩
  show G _ _ _ _ _ [(7, vo), (8, .int .i64 (if ((f.vars.take f.vars.length).zip s.vals).all inB then 0 else 3)), (76, .pointer (some ⟨it, 0, none⟩))] _
  have hsl := hR2.len
  refine Gs 2 rfl (G.mem rfl rfl (M.next hR2 rfl) ?_)
  rintro u x3 (⟨rfl, rfl, hall⟩ | ⟨k, v, rfl, hgk, hns, hR3, xk3, xs3⟩)
  ·
   refine Gs 4 rfl (G.ff rfl (rfl) (Gs 14 rfl ?_))
   have hemp : ∀ k, 1 ≤ k → k ≤ 3 → cntK s k = (pickI r k).length := fun k q1 q3 => by
    obtain ⟨v, h4, h5⟩ := hR.2.1 k q1 q3
    have h6 := hem k (hall _ (getM_mem h4))
    rw [List.drop_eq_nil_iff] at h6
    have := hle k q1 q3
    omega
   have e1 := hemp 1 (by omega) (by omega)
   have e2 := hemp 2 (by omega) (by omega)
   have e3 := hemp 3 (by omega) (by omega)
   simp only [cntK, pickI] at e1 e2 e3
   simp at e1 e2 e3
   have hfin : startFin f.vars r s = if (f.vars.zip s.vals).all inB then 0 else 3 := by unfold startFin; rw [if_neg (by omega)]
   have hEf : Ext w x3 := xE1.trans xk2 (fun q hq (h : q = it) => by have := hE.size; omega)
   refine G.ret2 Tryz.results121 rfl rfl ⟨_, rfl, ⟨_, by rw [hCC, hfin, List.take_length], fun h => ⟨?_, hfr⟩⟩, hEf⟩
   have hv : startVals f.vars r = s.vals := by unfold startVals; rw [hS]
   rw [hv]
   exact own_keep xo1 xk2 (fun g hg (h : g = it) => by obtain ⟨cs', hb'⟩ := own_blkty xo1 hg; exact hRan.neB hb' h)
  ·
   have hk13 := hkeys k v hgk
   have hsv := hval k v hgk x3 (xk2.trans xk3 (fun _ _ h => h))
   obtain ⟨pa, pc, rfl⟩ := hsv.form
   have hR3len := hR3.len
   rw [List.length_append, List.length_singleton] at hR3len
   refine Gs 4 rfl (G.tt rfl (rfl) (Gs 5 rfl (G.ops1 rfl rfl (R.entry hR3 rfl) (Gs 11 rfl (G.ite rfl (fun q1 => ?_) (fun q1 => ?_))))))
   ·
    have hne : startFin f.vars r s = 1 := by
     unfold startFin
     have hlt : cntK s k < (pickI r k).length := by rw [List.length_drop] at q1; omega
     have : k = 1 ∨ k = 2 ∨ k = 3 := by omega
     rcases this with rfl | rfl | rfl <;> simp [cntK, pickI] at hlt <;> rw [if_pos (by omega)]
    refine Gs 11 rfl (G.ret2 Tryz.results121 rfl rfl ⟨_, rfl, ⟨_, by rw [hCC, hne], fun h => by rw [hCC, hne] at h; cases h⟩, xE1.trans (xk2.trans xk3 (fun _ _ h => h)) (fun q hq (h : q = it) => by have := hE.size; omega)⟩)
   ·
    refine Gs 2 rfl (G.back ((seen ++ [k], some (k, .slice pa ((pickI r k).drop (cntK s k)).length pc))) (Sub.of rfl) (⟨hR3, fun k' hk' => ?_, xk2.trans xk3 (fun _ _ h => h)⟩) (by dsimp only; rw [List.length_append, List.length_singleton]; omega))
    rcases List.mem_append.1 hk' with h | h
    · exact hem k' h
    ·
     rw [List.mem_singleton] at h
     rw [h]
     exact List.eq_nil_of_length_eq_zero (by omega)
end Go.Proofs.YtldhllpogdikdaaGreat
namespace Go.GL
structure Sg where
 vals : List Int
 outs : List Int
 time : Int
end Go.GL
namespace Go.Proofs.YtldhllpogdikdaaGreat
open Go.GL
abbrev encI1 : Int → Value := .int .i64
structure WkV where
 (W m : Nat) (v1 v2 v3 sv vv hv ov : Value) (rm : List (Int × Value))
structure WkS (D : Nat → Prop) (f : Fl) (hs : List Int) (w : World) (σ : Sg) (z : WkV) : Prop where
 blk : Blk w z.W [z.v1, z.v2, z.v3, z.sv, z.vv, z.hv, .map (some z.m), z.ov, .int .i64 σ.time] 182
 fl : RFl D w f z.v1 z.v2 z.v3
 steps : SlR 10 RSt D w z.sv (preL f.body)
 vals : w.ownsRow 0 3 1 z.vv σ.vals.length (σ.vals.map encI1)
 hats : w.ownsRow 0 3 1 z.hv hs.length (hs.map encI1)
 outs : w.ownsRow 0 3 1 z.ov σ.outs.length (σ.outs.map encI1)
 map : MapI w z.m z.rm
 low : ∀ q, D q → q < w.heap.size
 nW : ¬ D z.W
 nm : ¬ D z.m
 nv : ∀ g, z.vv.ownBlock = some g → ¬ D g ∧ z.hv.ownBlock ≠ some g ∧ z.ov.ownBlock ≠ some g
 no : ∀ g, z.ov.ownBlock = some g → ¬ D g ∧ z.hv.ownBlock ≠ some g
def KW (z : WkV) (k : Nat) : Prop := k = z.W ∨ k = z.m ∨ z.vv.ownBlock = some k ∨ z.ov.ownBlock = some k
section
variable {D : Nat → Prop} {f : Fl} {hs : List Int} {w w' : World} {σ : Sg} {z : WkV}
theorem WkS.ext (h : WkS D f hs w σ z) (hk : Ext w w') : WkS D f hs w' σ z :=
 ⟨hk.blk h.blk (fun h => h), h.fl.ext hk, h.steps.ext stable_st hk, own_keep h.vals hk (fun _ _ h => h), own_keep h.hats hk (fun _ _ h => h), own_keep h.outs hk (fun _ _ h => h), h.map.ext hk, fun q hq => by have := h.low q hq; have := hk.size; omega, h.nW, h.nm, h.nv, h.no⟩
instance : Tr (WkS D f hs w σ z) w w' (WkS D f hs w' σ z) := ⟨WkS.ext⟩
theorem rflKeepD {v1 v2 v3 : Value} {S : Nat → Prop} (h : RFl D w f v1 v2 v3) (hk : Keep S w w') (hS : ∀ q, D q → ¬ S q) : RFl D w' f v1 v2 v3 :=
 ⟨h.vars.keep stable_vr hk (fun q hq _ => hS q hq), h.hatches.keep stable_ht hk (fun q hq _ => hS q hq), h.body.keep stable_st hk (fun q hq _ => hS q hq)⟩
theorem WkS.vne (h : WkS D f hs w σ z) {g : Nat} (hg : z.vv.ownBlock = some g) : g ≠ z.W := by obtain ⟨cs, hb⟩ := own_blkty h.vals hg; exact hb.ne h.blk (by decide)
theorem WkS.one (h : WkS D f hs w σ z) {g : Nat} (hg : z.ov.ownBlock = some g) : g ≠ z.W := by obtain ⟨cs, hb⟩ := own_blkty h.outs hg; exact hb.ne h.blk (by decide)
theorem WkS.hne (h : WkS D f hs w σ z) {g : Nat} (hg : z.hv.ownBlock = some g) : g ≠ z.W := by obtain ⟨cs, hb⟩ := own_blkty h.hats hg; exact hb.ne h.blk (by decide)
theorem WkS.vnm (h : WkS D f hs w σ z) {g : Nat} (hg : z.vv.ownBlock = some g) : g ≠ z.m := by obtain ⟨cs, hb⟩ := own_blkty h.vals hg; exact h.map.ne hb
theorem WkS.onm (h : WkS D f hs w σ z) {g : Nat} (hg : z.ov.ownBlock = some g) : g ≠ z.m := by obtain ⟨cs, hb⟩ := own_blkty h.outs hg; exact h.map.ne hb
theorem WkS.hnm (h : WkS D f hs w σ z) {g : Nat} (hg : z.hv.ownBlock = some g) : g ≠ z.m := by obtain ⟨cs, hb⟩ := own_blkty h.hats hg; exact h.map.ne hb
theorem WkS.wm (h : WkS D f hs w σ z) : z.W ≠ z.m := h.map.ne h.blk
theorem WkS.time (h : WkS D f hs w σ z) {t : Int} (hw : Wrote w z.W [z.v1, z.v2, z.v3, z.sv, z.vv, z.hv, .map (some z.m), z.ov, .int .i64 t] 182 w') : WkS D f hs w' { σ with time := t } z ∧ Keep (KW z) w w' := by
 obtain ⟨hsz, hB, hk⟩ := hw
 refine ⟨⟨hB, rflKeepD h.fl hk (fun q hq (e : q = z.W) => h.nW (e ▸ hq)), h.steps.keep stable_st hk (fun q hq _ (e : q = z.W) => h.nW (e ▸ hq)), own_keep h.vals hk (fun g hg (e : g = z.W) => h.vne hg e), own_keep h.hats hk (fun g hg (e : g = z.W) => h.hne hg e), own_keep h.outs hk (fun g hg (e : g = z.W) => h.one hg e), h.map.keep hk (fun e => h.wm e.symm), fun q hq => by have := h.low q hq; omega, h.nW, h.nm, h.nv, h.no⟩, Keep.mono hk (fun _ _ e => .inl e)⟩
theorem WkS.valsR (h : WkS D f hs w σ z) : SlR 1 RInt (fun _ => True) w z.vv σ.vals := SlR.ofRow1 encI1 (fun _ _ => rfl) h.vals (fun _ _ => trivial)
theorem WkS.hatsR (h : WkS D f hs w σ z) : SlR 1 RInt (fun _ => True) w z.hv hs := SlR.ofRow1 encI1 (fun _ _ => rfl) h.hats (fun _ _ => trivial)
end
theorem wValue_ok {D : Nat → Prop} {f : Fl} {hs : List Int} {w : World} {σ : Sg} {z : WkV} (h : WkS D f hs w σ z) (hg : ∀ v ∈ f.vars, Good (v.low, v.high)) (hV : InV f.vars σ.vals) (t : Tm) (hf : formedT f.vars false t = true) (hr : (rng f.vars t).isSome = true) (hsz : t.nodes ≤ 1000000) (cs : List Value) (Dt : Nat → Prop) (ht : RTm Dt w t cs) :
  Calls Tryz.prog 122 #[.pointer (some ⟨z.W, 0, none⟩), .agg cs.toArray] w (Ret fun r w' => r = .int .i64 (valT σ.vals t) ∧ Ext w w') := by
 have hE := Keep.refl (fun _ => False) w
 obtain ⟨kv, rfl, hks⟩ := ht.get
 refine G.in2 Tryz.func122 rfl Tryz.ntmps122 rfl (Gs 2 rfl (G.mem rfl rfl (M.box rfl rfl) ?_))
 rintro _ w_b ⟨b, rfl, hg_b, hs_b, hB_b, hk_b⟩
 have hge_b : _ ≤ b := Nat.le_trans hE.size (Nat.le_of_eq hg_b.symm)
 obtain ⟨hE, h, hks⟩ := Tr3 hk_b hE h hks
 refine Gs 4 rfl (Dw (fun q => Ext w_b q) [] (fun wd1 hD _ => ?_))
 refine Ds [0, 1, 2, 3] (by kernel_rfl) rfl (WD.take 4 rfl (by kernel_rfl) rfl rfl rfl hD (fun w1 hw1 => R.load Tryz.isAgg22 rfl ((hw1.blk h.blk (fun h => h)).cells 0 _ rfl)) (Ds [5, 6, 7] (by kernel_rfl) rfl (WD.take 8 rfl (by kernel_rfl) rfl rfl rfl hD (fun w1 hw1 => R.load Tryz.isAgg50 rfl ((hw1.blk h.blk (fun h => h)).cells 4 _ rfl)) (WD.take 9 rfl (by kernel_rfl) rfl rfl rfl hD (fun w1 hw1 => R.loadK Tryz.isAgg84 Tryz.sizeOf84 rfl (by rfl) (hw1.blk hB_b (fun h => h)).cells) (WD.call 10 rfl (by kernel_rfl) rfl rfl rfl (F.call (vs := [_, _, _]) Tryz.call165 rfl) (flatEval_ok hg hV t hf hr hsz _ Dt D _ _ _ _ (h.fl.vars.ext stable_vr hD) (h.valsR.ext stable_int hD) (RTm.put (hks.ext stable_tm hD))) ?_)))))
 rintro _ wz2 ⟨rfl, hz2⟩
 replace hD := hD.ext hz2
 refine ⟨fun _ => hD, ?_⟩
 refine Ds [11, 12, 13, 14, 15] (by kernel_rfl) rfl (G.done (by kernel_rfl) ?_ _)
 obtain ⟨hE, h, hks, hB_b⟩ := Tr4 hD hE h hks hB_b
 refine Gs 8 rfl (G.ret1 Tryz.results122 rfl ⟨_, rfl, rfl, hE⟩)
def setV (vs : List Vr) (vals : List Int) (v n : Int) : List Int := match vs[v.toNat]? with
 | some x => vals.set v.toNat (clampI n x.low x.high)
 | none => vals
theorem InV.set {vs : List Vr} {vals : List Int} (hg : ∀ v ∈ vs, Good (v.low, v.high)) (h : InV vs vals) (v n : Int) : InV vs (setV vs vals v n) := by
 unfold setV
 cases hx : vs[v.toNat]? with
 | none => exact h
 | some x =>
  have hgx := hg x (List.mem_of_getElem? hx)
  unfold Good at hgx
  have hc := clampI_range n (show x.low ≤ x.high from hgx.2.1)
  refine ⟨by simp [h.len], fun i y hy => ?_⟩
  simp only [lki, List.getElem?_set]
  by_cases hi : v.toNat = i
  ·
   subst hi
   rw [hx] at hy; cases hy
   have := (List.getElem?_eq_some_iff.1 hx).1
   rw [if_pos rfl, if_pos (by rw [h.len]; exact this)]
   exact hc
  ·
   rw [if_neg hi]
   exact h.at_ i y hy
theorem wPut_ok {D : Nat → Prop} {f : Fl} {hs : List Int} {w : World} {σ : Sg} {z : WkV} (h : WkS D f hs w σ z) (hg : ∀ v ∈ f.vars, Good (v.low, v.high)) (hV : InV f.vars σ.vals) (v n : Int) (hv : 0 ≤ v ∧ v < f.vars.length) :
  Calls Tryz.prog 208 #[.pointer (some ⟨z.W, 0, none⟩), .int .i64 v, .int .i64 n] w (Ret fun _ w' => WkS D f hs w' { σ with vals := setV f.vars σ.vals v n } z ∧ Keep (KW z) w w') := by
 have hln := hV.len
 obtain ⟨x, hx⟩ : ∃ x, f.vars[v.toNat]? = some x := ⟨_, List.getElem?_eq_getElem (by omega)⟩
 have hgx := hg x (List.mem_of_getElem? hx)
 unfold Good at hgx
 have hvs := h.fl.vars
 obtain ⟨av, cv, hav⟩ := hvs.form
 rw [hav] at hvs
 obtain ⟨bq, oq, cq, haq, _, hcq, rfl⟩ := hvs.at hx
 obtain ⟨g, cap, sp, hvv, _, hnc, hcm, hBg, hlen⟩ := own_open1 h.vals (by intro e; rw [e] at hln; simp at hln; omega)
 have hgW := h.vne (g := g) (by rw [hvv]; rfl)
 have hgm := h.vnm (g := g) (by rw [hvv]; rfl)
 have hgn := h.nv g (by rw [hvv]; rfl)
 have hblk := h.blk
 rw [hav, hvv] at hblk
 have hE := Keep.refl (fun _ => False) w
 refine G.in3 Tryz.func208 rfl Tryz.ntmps208 rfl (Gs 6 rfl (G.ld rfl Tryz.isAgg22 (hblk.cells 0 _ rfl) (Gs 1 rfl (G.ops1 rfl rfl (R.indexS Tryz.runUnderlying22 Tryz.sizeOf125 rfl rfl haq (by omega)) (G.ldK rfl Tryz.isAgg125 Tryz.sizeOf125 hcq rfl (G.mem rfl rfl (M.alloc (cs := _) Tryz.zeroValue125 rfl) ?_))))))
 rintro _ wa1 ⟨c, rfl, hg_c, hs_c, hB_c, hk_c⟩
 refine G.mem0 rfl (M.storeK Tryz.sizeOf125 rfl rfl rfl rfl (by simp [Value.oneCell']) hB_c (by simp)) ?_
 rintro w_c ⟨_, hB_c, hkk_c⟩
 replace hk_c := hk_c.trans hkk_c (fun q hq h => by have h : q = c := h; omega)
 have hge_c : _ ≤ c := Nat.le_trans hE.size (Nat.le_of_eq hg_c.symm)
 obtain ⟨hE, hcq⟩ := Tr2 hk_c hE hcq
 have hblk2 := hk_c.blk hblk (fun h => h)
 have hBg2 := hk_c.blk hBg (fun h => h)
 refine Gs 2 rfl (Dw (fun q => Ext w_c q) [13] (fun wd2 hD _ => ?_))
 refine Ds [0, 1, 2] (by kernel_rfl) rfl (WD.take 3 rfl (by kernel_rfl) rfl rfl rfl hD (fun w1 hw1 => R.load Tryz.isAgg50 rfl ((hw1.blk hblk2 (fun h => h)).cells 4 _ rfl)) (Ds [4, 5, 6] (by kernel_rfl) rfl (WD.take 7 rfl (by kernel_rfl) rfl rfl rfl hD (fun w1 hw1 => R.load Tryz.isAgg3 rfl ((hw1.blk hB_c (fun h => h)).cells 2 _ rfl)) (Ds [8, 9] (by kernel_rfl) rfl (WD.take 10 rfl (by kernel_rfl) rfl rfl rfl hD (fun w1 hw1 => R.load Tryz.isAgg3 rfl ((hw1.blk hB_c (fun h => h)).cells 3 _ rfl)) (Da [11, 12] (by kernel_rfl) rfl (by omega) (WD.mem0 13 rfl (by kernel_rfl) rfl rfl (M.store Tryz.sizeOf3 rfl rfl rfl rfl (hD.blk hBg2 (fun h => h)) (by simp; omega)) ?_)))))))
 rintro wf ⟨hsf, hBf, hkf⟩
 refine ⟨fun h => absurd (by simp) h, ?_⟩
 have hEf := hk_c.ext hD
 have h2 := h.ext hEf
 refine G.done (by kernel_rfl) ?_ _
 have hcl : min (max n x.low) x.high = clampI n x.low x.high := by unfold clampI; (repeat' split); all_goals omega
 have hset : setV f.vars σ.vals v n = σ.vals.set v.toNat (clampI n x.low x.high) := by unfold setV; rw [hx]
 have hBf2 : Blk wf g ((setV f.vars σ.vals v n).map encI1 ++ sp) 3 := by
  rw [hset, ← hcl, List.map_set]
  have e : 0 + v.toNat * 1 = v.toNat := by omega
  rw [e, List.set_append_left _ _ (by rw [List.length_map]; omega)] at hBf
  exact hBf
 have hsl : (setV f.vars σ.vals v n).length = σ.vals.length := by rw [hset, List.length_set]
 have hkD : ∀ q, D q → ¬ (q = g) := fun q hq e => hgn.1 (e ▸ hq)
 refine G.end0 Tryz.results208 ⟨_, rfl, ⟨hkf.blk h2.blk (fun e => hgW e.symm), rflKeepD h2.fl hkf hkD, h2.steps.keep stable_st hkf (fun q hq _ => hkD q hq), ?_, own_keep h2.hats hkf (fun g' hg' (e : g' = g) => hgn.2.1 (e ▸ hg')), own_keep h2.outs hkf (fun g' hg' (e : g' = g) => hgn.2.2 (e ▸ hg')), h2.map.keep hkf (fun e => hgm e.symm), fun q hq => by have := h2.low q hq; omega, h2.nW, h2.nm, h2.nv, h2.no⟩, ?_⟩
 ·
  have h3 := own_shut1 (f := encI1) hBf2 (by rw [List.length_append, List.length_map, hsl, ← hlen, List.length_append, List.length_map]) hcm
  rw [hsl] at h3
  dsimp only
  rw [hsl, hvv]
  exact h3
 · exact Keep.trans (Keep.mono hEf (fun _ _ e => e.elim)) hkf (fun q _ (e : q = g) => .inr (.inr (.inl (by rw [hvv, e]; rfl))))
open Go.GL
def exec1 (f : Fl) (hs : List Int) (s : St) (σ : Sg) : Sg :=
 if s.act = 0 then { σ with vals := setV f.vars σ.vals s.var (valT σ.vals s.term), time := σ.time + s.cost }
 else if s.act = 1 then { σ with outs := σ.outs ++ [valT σ.vals s.term], time := σ.time + s.cost }
 else if s.act = 5 then { σ with vals := setV f.vars σ.vals s.var (lki hs s.n.toNat), time := σ.time + s.cost }
 else if s.act = 6 then { σ with time := settleN s.bounds (σ.time + s.cost) }
 else { σ with time := σ.time + s.cost }
structure StepOk (f : Fl) (s : St) : Prop where
 formed : formedT f.vars false s.term = true
 ranged : (rng f.vars s.term).isSome = true
 small : s.term.nodes ≤ 1000000
 cost : 0 ≤ s.cost ∧ s.cost ≤ 67108864
 var : s.act = 0 ∨ s.act = 5 → 0 ≤ s.var ∧ s.var < f.vars.length
 num : s.act = 5 → 0 ≤ s.n ∧ s.n < f.hatches.length
structure WkM (w : World) (z z' : WkV) : Prop where
 W : z'.W = z.W
 m : z'.m = z.m
 vv : z'.vv = z.vv
 v1 : z'.v1 = z.v1
 sv : z'.sv = z.sv
 hv : z'.hv = z.hv
 ov : z'.ov.ownBlock = z.ov.ownBlock ∨ ∃ g, z'.ov.ownBlock = some g ∧ w.heap.size ≤ g
theorem WkM.refl (w : World) (z : WkV) : WkM w z z := ⟨rfl, rfl, rfl, rfl, rfl, rfl, .inl rfl⟩
theorem KW.ne86 {D : Nat → Prop} {f : Fl} {hs : List Int} {w : World} {σ : Sg} {z : WkV} (h : WkS D f hs w σ z) {c : Nat} {cs : List Value} {e : TypeId} (hb : Blk w c cs e) (he : e ≠ 182) (he2 : e ≠ 3) : ¬ KW z c := by
 rintro (rfl | rfl | e1 | e1)
 · exact he (hb.ty h.blk).1
 · exact h.map.ne hb rfl
 · obtain ⟨cs', hb'⟩ := own_blkty h.vals e1; exact he2 (hb.ty hb').1
 · obtain ⟨cs', hb'⟩ := own_blkty h.outs e1; exact he2 (hb.ty hb').1
theorem wExec_ok {D : Nat → Prop} {f : Fl} {hs : List Int} {w : World} {σ : Sg} {z : WkV} (h : WkS D f hs w σ z) (hg : ∀ v ∈ f.vars, Good (v.low, v.high)) (hV : InV f.vars σ.vals) (s : St) (hso : StepOk f s) (hhs : hs.length = f.hatches.length) (ht : -1152921504606846976 ≤ σ.time ∧ σ.time ≤ 1152921504606846976) (hol : σ.outs.length ≤ 1000000000) (cs : List Value) (hst : RSt D w s cs) :
  Calls Tryz.prog 166 #[.pointer (some ⟨z.W, 0, none⟩), .agg cs.toArray] w (Ret fun _ w' => ∃ z', WkS D f hs w' (exec1 f hs s σ) z' ∧ WkM w z z' ∧ z'.rm = z.rm ∧ Keep (KW z) w w') := by
 have hone := hst.one
 obtain ⟨p1, p2, p3, p4, rfl, q1, q2, q3, q4⟩ := hst.get
 have hcost := hso.cost
 have hblk := h.blk
 refine G.in2 Tryz.func166 rfl Tryz.ntmps166 rfl (Gs 2 rfl (G.mem rfl rfl (M.box rfl rfl) ?_))
 rintro _ w1 ⟨c, rfl, hc, hs1, hBc, hk1⟩
 have h1 := h.ext hk1
 refine Gs 3 rfl (Dw (fun q => Ext w1 q) [11] (fun wd1 hD _ => ?_))
 refine Ds [0, 1, 2, 3] (by kernel_rfl) rfl (WD.take 4 rfl (by kernel_rfl) rfl rfl rfl hD (fun w1 hw1 => R.load Tryz.isAgg3 rfl ((hw1.blk h1.blk (fun h => h)).cells 8 (.int .i64 σ.time) rfl)) (Ds [5] (by kernel_rfl) rfl (WD.take 6 rfl (by kernel_rfl) rfl rfl rfl hD (fun w1 hw1 => R.load Tryz.isAgg3 rfl ((hw1.blk hBc (fun h => h)).cells 1 (.int .i64 s.cost) rfl)) (Da [7, 8, 9, 10] (by kernel_rfl) rfl (by omega) ?_))))
 have h2 := h1.ext hD
 refine WD.mem0 11 rfl (by kernel_rfl) rfl rfl (M.store Tryz.sizeOf3 rfl rfl rfl rfl h2.blk (by simp)) ?_
 rintro w3 hw3
 refine ⟨fun h => absurd (by simp) h, ?_⟩
 obtain ⟨h3, hK3⟩ := h2.time hw3
 have hBc3 := hK3.blk (hD.blk hBc (fun h => h)) (KW.ne86 h2 (hD.blk hBc (fun h => h)) (by decide) (by decide))
 have hE2 := hk1.ext hD
 have hK03 : Keep (KW z) w w3 := Keep.trans (Keep.mono hE2 (fun _ _ e => e.elim)) hK3 (fun _ _ e => e)
 have hnD : ∀ q, D q → ¬ KW z q := by
  rintro q hq (rfl | rfl | e | e)
  · exact h.nW hq
  · exact h.nm hq
  · exact (h.nv q e).1 hq
  · exact (h.no q e).1 hq
 refine G.done (by kernel_rfl) ?_ _
 refine Gs 4 rfl (G.ld rfl Tryz.isAgg80 (hBc3.cells 0 _ rfl) (Gs 9 rfl (G.ite rfl (fun a0 => ?_) (fun a0 => ?_))))
 ·
  have ee : exec1 f hs s σ = { σ with vals := setV f.vars σ.vals s.var (valT σ.vals s.term), time := σ.time + s.cost } := by unfold exec1; rw [if_pos a0]
  refine Dw (fun q => Blk q c [.int .i64 s.act, .int .i64 s.cost, .int .i64 s.var, .int .i64 s.n, .int .i64 s.term.op, .int .i64 s.term.n, p1, p2, p3, p4] 86) [] (fun w4 hk4 _ => ?_)
  have hB4 := hk4.blk hBc3 (fun h => h)
  have h4 := h3.ext hk4
  refine Ds [0, 1] (by kernel_rfl) rfl (WD.take 2 rfl (by kernel_rfl) rfl rfl rfl hB4 (fun w1 hw1 => R.load Tryz.isAgg3 rfl (hw1.cells 2 _ rfl)) (Ds [3, 4] (by kernel_rfl) rfl (WD.take 5 rfl (by kernel_rfl) rfl rfl rfl hB4 (fun w1 hw1 => R.loadK Tryz.isAgg84 Tryz.sizeOf84 rfl (by rfl) (hw1.cells.sub 4 3)) (WD.call 6 rfl (by kernel_rfl) rfl rfl rfl (F.call (vs := [_, _]) Tryz.call122 rfl) (wValue_ok h4 hg hV s.term hso.formed hso.ranged hso.small _ D (RTm.put ((q1.keep stable_tm hK03 (fun q hq _ => hnD q hq)).ext stable_tm hk4))) ?_))))
  rintro _ w5 ⟨rfl, hk5⟩
  have hB5 := hk5.blk hB4 (fun h => h)
  have h5 := h4.ext hk5
  refine ⟨fun _ => hB5, ?_⟩
  refine WD.call 7 rfl (by kernel_rfl) rfl rfl rfl (F.call (vs := [_, _, _]) Tryz.call208 rfl) (wPut_ok h5 hg hV s.var (valT σ.vals s.term) (hso.var (.inl a0))) ?_
  rintro _ w6 ⟨h6, hK6⟩
  refine ⟨fun _ => hK6.blk hB5 (KW.ne86 h5 hB5 (by decide) (by decide)), ?_⟩
  refine G.done (by kernel_rfl) ?_ _
  refine Gs 1 rfl (G.end0 Tryz.results166 ⟨_, rfl, z, by rw [ee]; exact h6, WkM.refl _ _, rfl, ((hK03.ext hk4).ext hk5).trans hK6 (fun _ _ e => e)⟩)
 ·
  refine Gs 6 rfl (G.ite rfl (fun a1 => ?_) (fun a1 => ?_))
  ·
   have ee : exec1 f hs s σ = { σ with outs := σ.outs ++ [valT σ.vals s.term], time := σ.time + s.cost } := by unfold exec1; rw [if_neg a0, if_pos a1]
   refine Dw (fun q => Blk q c [.int .i64 s.act, .int .i64 s.cost, .int .i64 s.var, .int .i64 s.n, .int .i64 s.term.op, .int .i64 s.term.n, p1, p2, p3, p4] 86 ∧ Blk q z.W [z.v1, z.v2, z.v3, z.sv, z.vv, z.hv, .map (some z.m), z.ov, .int .i64 (σ.time + s.cost)] 182) [15] (fun w4 hk4 _ => ?_)
   have hB4 := hk4.blk hBc3 (fun h => h)
   have h4 := h3.ext hk4
   refine Ds [0, 1, 2, 3, 4] (by kernel_rfl) rfl (WD.take 5 rfl (by kernel_rfl) rfl rfl rfl ⟨hB4, h4.blk⟩ (fun w1 hw1 => R.load Tryz.isAgg50 rfl (hw1.2.cells 7 _ rfl)) (Ds [6, 7] (by kernel_rfl) rfl (WD.take 8 rfl (by kernel_rfl) rfl rfl rfl ⟨hB4, h4.blk⟩ (fun w1 hw1 => R.loadK Tryz.isAgg84 Tryz.sizeOf84 rfl (by rfl) (hw1.1.cells.sub 4 3)) (WD.call 9 rfl (by kernel_rfl) rfl rfl rfl (F.call (vs := [_, _]) Tryz.call122 rfl) (wValue_ok h4 hg hV s.term hso.formed hso.ranged hso.small _ D (RTm.put ((q1.keep stable_tm hK03 (fun q hq _ => hnD q hq)).ext stable_tm hk4))) ?_))))
   rintro _ w5 ⟨rfl, hk5⟩
   have hB5 := hk5.blk hB4 (fun h => h)
   have h5 := h4.ext hk5
   refine ⟨fun _ => ⟨hB5, h5.blk⟩, ?_⟩
   refine WD.mem 10 rfl (by kernel_rfl) rfl rfl rfl (M.buildSlice (cs := [.int .i64 (valT σ.vals s.term)]) [(0, _)] Tryz.runUnderlying50 Tryz.sizeOf3 Tryz.zeroValue3 (by decide) rfl (by kernel_rfl)) ?_
   rintro _ w6 ⟨g6, rfl, hg6, hs6, hB6', hk6⟩
   have hB6 := hk6.blk hB5 (fun h => h)
   have h6 := h5.ext hk6
   refine ⟨fun _ => ⟨hB6, h6.blk⟩, ?_⟩
   have ho6 : w6.ownsRow 0 3 1 z.ov σ.outs.length (σ.outs.map encI1) := h6.outs
   refine WD.mem 11 rfl (by kernel_rfl) rfl rfl rfl (M.append Tryz.underlying50 Tryz.el3 rfl (by decide) rfl rfl ho6 rfl (Cells.add hB6'.cells) (by simp [Value.oneCell']) (by omega) (by omega)) ?_
   rintro ov' w7 ⟨ho7, hf7, hk7, _⟩
   have hB7 := hk7.blk hB6 (fun e => by obtain ⟨cs', hb'⟩ := own_blkty h6.outs e; exact absurd (hB6.ty hb').1 (by decide))
   have hW7 := hk7.blk h6.blk (fun e => h6.one e rfl)
   refine ⟨fun _ => ⟨hB7, hW7⟩, ?_⟩
   refine Ds [12, 13, 14] (by kernel_rfl) rfl ?_
   obtain ⟨oa, oc, rfl⟩ := own_form ho7
   refine WD.mem0 15 rfl (by kernel_rfl) rfl rfl (M.store Tryz.sizeOf50 rfl rfl rfl rfl hW7 (by simp)) ?_
   rintro w8 ⟨hs8, hB8, hk8⟩
   refine ⟨fun h => absurd (by simp) h, ?_⟩
   have hov : ∀ g, Value.ownBlock (.slice oa (σ.outs.length + 1) oc) = some g → z.ov.ownBlock = some g ∨ w6.heap.size ≤ g := by
    intro g hg
    rcases hf7 with e | ⟨g', e, e'⟩
    · exact .inl (by rw [← e]; exact hg)
    · rw [e] at hg; cases hg; exact .inr e'
   have hzo := h6.no
   have hzv := h6.nv
   have hlow := h6.low
   have k78 : Keep (fun q => z.ov.ownBlock = some q ∨ q = z.W) w6 w8 := (Keep.mono hk7 (fun _ _ e => .inl e)).trans hk8 (fun _ _ e => .inr e)
   refine G.done (by kernel_rfl) ?_ _
   refine Gs 1 rfl ?_
   have hD8 : ∀ q, D q → ¬ (z.ov.ownBlock = some q ∨ q = z.W) := fun q hq e => e.elim (fun e => (hzo q e).1 hq) (fun e => h6.nW (e ▸ hq))
   refine G.end0 Tryz.results166 ⟨_, rfl, { z with ov := .slice oa (σ.outs.length + 1) oc }, ?_, ⟨rfl, rfl, rfl, rfl, rfl, rfl, ?_⟩, rfl, ?_⟩
   ·
    rw [ee]
    refine ⟨hB8, rflKeepD h6.fl k78 hD8, h6.steps.keep stable_st k78 (fun q hq _ => hD8 q hq), own_keep h6.vals k78 (fun g hg e => e.elim (fun e => (hzv g hg).2.2 e) (fun e => h6.vne hg e)), own_keep h6.hats k78 (fun g hg e => e.elim (fun e => (hzo g e).2 hg) (fun e => h6.hne hg e)), ?_, h6.map.keep k78 (fun e => e.elim (fun e => h6.onm e rfl) (fun e => h6.wm e.symm)), fun q hq => by have := hlow q hq; have := k78.size; omega, h6.nW, h6.nm, ?_, ?_⟩
    ·
     have := own_keep ho7 hk8 (fun g hg (e : g = z.W) => by obtain ⟨cs', hb'⟩ := own_blkty ho7 hg; exact (hb'.ne hW7 (by decide)) e)
     dsimp only
     rw [List.length_append, List.map_append]
     exact this
    ·
     intro g hg
     refine ⟨(hzv g hg).1, (hzv g hg).2.1, fun e => ?_⟩
     rcases hov g e with e2 | e2
     · exact (hzv g hg).2.2 e2
     · have := own_lt h6.vals hg; omega
    ·
     intro g hg
     rcases hov g hg with e2 | e2
     · exact hzo g e2
     ·
      refine ⟨fun hq => by have := hlow g hq; omega, fun e => ?_⟩
      have := own_lt h6.hats e; omega
   ·
    rcases hf7 with e | ⟨g', e, e'⟩
    · exact .inl e
    ·
     have := (((hK03.ext hk4).ext hk5).ext hk6).size
     exact .inr ⟨g', e, by omega⟩
   · exact (((hK03.ext hk4).ext hk5).ext hk6).trans k78 (fun q _ e => e.elim (fun e => .inr (.inr (.inr e))) (fun e => .inl e))
  ·
   refine Gs 6 rfl (G.ite rfl (fun a5 => ?_) (fun a5 => ?_))
   ·
    have ee : exec1 f hs s σ = { σ with vals := setV f.vars σ.vals s.var (lki hs s.n.toNat), time := σ.time + s.cost } := by unfold exec1; rw [if_neg a0, if_neg a1, if_pos a5]
    have hnn := hso.num a5
    obtain ⟨ha, hcp, hform⟩ := h3.hatsR.form
    have hh3 := h3.hatsR
    rw [hform] at hh3
    obtain ⟨bx, ox, cx, hax, _, hcx, hrx⟩ := hh3.at (lki_at (l := hs) (i := s.n.toNat) (by omega))
    obtain rfl := hrx
    have hbW := h3.blk
    rw [hform] at hbW
    refine Dw (fun q => Blk q c [.int .i64 s.act, .int .i64 s.cost, .int .i64 s.var, .int .i64 s.n, .int .i64 s.term.op, .int .i64 s.term.n, p1, p2, p3, p4] 86 ∧ Blk q z.W [z.v1, z.v2, z.v3, z.sv, z.vv, .slice ha hs.length hcp, .map (some z.m), z.ov, .int .i64 (σ.time + s.cost)] 182 ∧ Cells q bx (ox + s.n.toNat * 1) [.int .i64 (lki hs s.n.toNat)]) [] (fun w4 hk4 _ => ?_)
    have hB4 := hk4.blk hBc3 (fun h => h)
    have h4 := h3.ext hk4
    refine Ds [0, 1] (by kernel_rfl) rfl (WD.take 2 rfl (by kernel_rfl) rfl rfl rfl ⟨hB4, hk4.blk hbW (fun h => h), hk4.cells hcx (fun h => h)⟩ (fun w1 hw1 => R.load Tryz.isAgg3 rfl (hw1.1.cells 2 _ rfl)) (Ds [3, 4, 5] (by kernel_rfl) rfl (WD.take 6 rfl (by kernel_rfl) rfl rfl rfl ⟨hB4, hk4.blk hbW (fun h => h), hk4.cells hcx (fun h => h)⟩ (fun w1 hw1 => R.load Tryz.isAgg50 rfl (hw1.2.1.cells 5 _ rfl)) (Ds [7] (by kernel_rfl) rfl (WD.take 8 rfl (by kernel_rfl) rfl rfl rfl ⟨hB4, hk4.blk hbW (fun h => h), hk4.cells hcx (fun h => h)⟩ (fun w1 hw1 => R.load Tryz.isAgg3 rfl (hw1.1.cells 3 _ rfl)) ?_)))))
    refine WD.takeW 9 rfl (by kernel_rfl) rfl rfl rfl (fun w1 => R.indexS Tryz.runUnderlying50 Tryz.sizeOf3 rfl rfl hax (by omega)) (WD.take 10 rfl (by kernel_rfl) rfl rfl rfl ⟨hB4, hk4.blk hbW (fun h => h), hk4.cells hcx (fun h => h)⟩ (fun w1 hw1 => R.load Tryz.isAgg3 rfl (hw1.2.2 0 _ rfl)) (WD.call 11 rfl (by kernel_rfl) rfl rfl rfl (F.call (vs := [_, _, _]) Tryz.call208 rfl) (wPut_ok h4 hg hV s.var (lki hs s.n.toNat) (hso.var (.inr a5))) ?_))
    rintro _ w6 ⟨h6, hK6⟩
    have hb6 := h6.blk
    rw [hform] at hb6
    have hh6 := h6.hatsR
    rw [hform] at hh6
    obtain ⟨bx', ox', cx', hax', _, hcx', hrx'⟩ := hh6.at (lki_at (l := hs) (i := s.n.toNat) (by omega))
    rw [hax] at hax'
    cases hax'
    obtain rfl := hrx'
    refine ⟨fun _ => ⟨hK6.blk hB4 (KW.ne86 h4 hB4 (by decide) (by decide)), hb6, hcx'⟩, ?_⟩
    refine G.done (by kernel_rfl) ?_ _
    refine Gs 1 rfl (G.end0 Tryz.results166 ⟨_, rfl, z, by rw [ee]; exact h6, WkM.refl _ _, rfl, (hK03.ext hk4).trans hK6 (fun _ _ e => e)⟩)
   ·
    refine Gs 6 rfl (G.ite rfl (fun a6 => ?_) (fun a6 => ?_))
    ·
     have ee : exec1 f hs s σ = { σ with time := settleN s.bounds (σ.time + s.cost) } := by unfold exec1; rw [if_neg a0, if_neg a1, if_neg a5, if_pos a6]
     refine Dw (fun q => Blk q c [.int .i64 s.act, .int .i64 s.cost, .int .i64 s.var, .int .i64 s.n, .int .i64 s.term.op, .int .i64 s.term.n, p1, p2, p3, p4] 86 ∧ Blk q z.W [z.v1, z.v2, z.v3, z.sv, z.vv, z.hv, .map (some z.m), z.ov, .int .i64 (σ.time + s.cost)] 182) [12] (fun w4 hk4 _ => ?_)
     have hB4 := hk4.blk hBc3 (fun h => h)
     have h4 := h3.ext hk4
     refine Ds [0, 1] (by kernel_rfl) rfl (WD.take 2 rfl (by kernel_rfl) rfl rfl rfl ⟨hB4, h4.blk⟩ (fun w1 hw1 => R.load Tryz.isAgg50 rfl (hw1.1.cells 9 _ rfl)) (Ds [3, 4, 5, 6] (by kernel_rfl) rfl (WD.take 7 rfl (by kernel_rfl) rfl rfl rfl ⟨hB4, h4.blk⟩ (fun w1 hw1 => R.load Tryz.isAgg3 rfl (hw1.2.cells 8 _ rfl)) (WD.call 8 rfl (by kernel_rfl) rfl rfl rfl (F.call (vs := [_, _]) Tryz.call209 rfl) (flatSettled_ok s.bounds (σ.time + s.cost) _ D w4 ((q4.keep stable_int hK03 (fun q hq _ => hnD q hq)).ext stable_int hk4)) ?_))))
     rintro _ w5 ⟨rfl, hk5⟩
     have hB5 := hk5.blk hB4 (fun h => h)
     have h5 := h4.ext hk5
     refine ⟨fun _ => ⟨hB5, h5.blk⟩, ?_⟩
     refine Ds [9, 10, 11] (by kernel_rfl) rfl (WD.mem0 12 rfl (by kernel_rfl) rfl rfl (M.store Tryz.sizeOf3 rfl rfl rfl rfl h5.blk (by simp)) ?_)
     rintro w6 hw6
     refine ⟨fun h => absurd (by simp) h, ?_⟩
     obtain ⟨h6, hK6⟩ := h5.time hw6
     refine G.done (by kernel_rfl) ?_ _
     refine Gs 1 rfl (G.end0 Tryz.results166 ⟨_, rfl, z, by rw [ee]; exact h6, WkM.refl _ _, rfl, ((hK03.ext hk4).ext hk5).trans hK6 (fun _ _ e => e)⟩)
    ·
     have ee : exec1 f hs s σ = { σ with time := σ.time + s.cost } := by unfold exec1; rw [if_neg a0, if_neg a1, if_neg a5, if_neg a6]
     refine Gs 2 rfl (G.end0 Tryz.results166 ⟨_, rfl, z, by rw [ee]; exact h3, WkM.refl _ _, rfl, hK03⟩)
def updR (rd : Int → Int) (k n : Int) : Int → Int := fun j => if j = k then n else rd j
def passN (f : Fl) (hs : List Int) (x : Nd) (s : St) (σ : Sg) (rd : Int → Int) : Int × Sg × (Int → Int) :=
 if x.kind = 0 then (x.next, σ, rd)
 else if x.kind = 2 then (x.next, exec1 f hs s σ, rd)
 else if x.kind = 4 then (x.next, σ, updR rd x.at_ 0)
 else if x.kind = 5 ∧ rd x.at_ = s.n then (x.other, σ, rd)
 else (if valT σ.vals s.term ≠ 0 then x.next else x.other, { σ with time := σ.time + s.cost }, if x.kind = 5 then updR rd x.at_ (rd x.at_ + 1) else rd)
def RdM (rm : List (Int × Value)) (rd : Int → Int) : Prop := ∀ k, (getM rm k).getD (.int .i64 0) = .int .i64 (rd k)
theorem RdM.upd {rm : List (Int × Value)} {rd : Int → Int} (h : RdM rm rd) (hn : (rm.map (·.1)).Nodup) (k n : Int) : RdM (setM rm k (.int .i64 n)) (updR rd k n) := by
 intro j
 rw [getM_setM hn]
 unfold updR
 by_cases e : j = k
 · rw [if_pos e, if_pos e]; rfl
 · rw [if_neg e, if_neg e]; exact h j
theorem WkS.mapw {D : Nat → Prop} {f : Fl} {hs : List Int} {w w' : World} {σ : Sg} {z : WkV} (h : WkS D f hs w σ z) {rm' : List (Int × Value)} (hM : MapI w' z.m rm') (hk : Keep (fun q => q = z.m) w w') : WkS D f hs w' σ { z with rm := rm' } ∧ Keep (KW z) w w' := by
 refine ⟨⟨hk.blk h.blk (fun e => h.wm e), rflKeepD h.fl hk (fun q hq (e : q = z.m) => h.nm (e ▸ hq)), h.steps.keep stable_st hk (fun q hq _ (e : q = z.m) => h.nm (e ▸ hq)), own_keep h.vals hk (fun g hg (e : g = z.m) => h.vnm hg e), own_keep h.hats hk (fun g hg (e : g = z.m) => h.hnm hg e), own_keep h.outs hk (fun g hg (e : g = z.m) => h.onm hg e), hM, fun q hq => by have := h.low q hq; have := hk.size; omega, h.nW, h.nm, h.nv, h.no⟩, Keep.mono hk (fun _ _ e => .inr (.inl e))⟩
theorem wPass_ok {D : Nat → Prop} {f : Fl} {hs : List Int} {w : World} {σ : Sg} {z : WkV} (h : WkS D f hs w σ z) (hg : ∀ v ∈ f.vars, Good (v.low, v.high)) (hV : InV f.vars σ.vals) (x : Nd) (s : St) (_ : x.kind = 0 ∨ x.kind = 2 ∨ x.kind = 3 ∨ x.kind = 4 ∨ x.kind = 5)
  (hx : x.kind ≠ 0 → 0 ≤ x.at_ ∧ (preL f.body)[x.at_.toNat]? = some s ∧ StepOk f s) (hhs : hs.length = f.hatches.length) (ht : -1152921504606846976 ≤ σ.time ∧ σ.time ≤ 1152921504606846976) (hol : σ.outs.length ≤ 1000000000)
  (rd : Int → Int) (hrd : RdM z.rm rd) (hrb : x.kind = 5 → 0 ≤ rd x.at_ ∧ rd x.at_ ≤ 1000000000) :
  Calls Tryz.prog 123 #[.pointer (some ⟨z.W, 0, none⟩), .agg (encN x).toArray] w (Ret fun r w' => r = .int .i64 (passN f hs x s σ rd).1 ∧ ∃ z', WkS D f hs w' (passN f hs x s σ rd).2.1 z' ∧ WkM w z z' ∧ RdM z'.rm (passN f hs x s σ rd).2.2 ∧ Keep (KW z) w w') := by
 have hnD : ∀ q, D q → ¬ KW z q := by
  rintro q hq (rfl | rfl | e | e)
  · exact h.nW hq
  · exact h.nm hq
  · exact (h.nv q e).1 hq
  · exact (h.no q e).1 hq
 refine G.in2 Tryz.func123 rfl Tryz.ntmps123 rfl (Gs 2 rfl (G.mem rfl rfl (M.box rfl rfl) ?_))
 rintro _ w1 ⟨b, rfl, hb, hs1, hBb0, hk1⟩
 have hBb : Blk w1 b [.int .i64 x.kind, .int .i64 x.at_, .int .i64 x.next, .int .i64 x.other] 40 := hBb0
 have h1 := h.ext hk1
 refine Gs 7 rfl (G.ld rfl Tryz.isAgg38 (hBb.cells 0 _ rfl) (Gs 3 rfl (G.ite rfl (fun k0 => ?_) (fun k0 => ?_))))
 ·
  have ee : passN f hs x s σ rd = (x.next, σ, rd) := by unfold passN; rw [if_pos k0]
  refine Gs 3 rfl (G.ld rfl Tryz.isAgg3 (hBb.cells 2 _ rfl) (Gs 5 rfl (G.ret1 Tryz.results123 rfl ⟨_, rfl, by rw [ee], z, by rw [ee]; exact h1, WkM.refl _ _, by rw [ee]; exact hrd, Keep.mono hk1 (fun _ _ e => e.elim)⟩)))
 ·
  obtain ⟨hat, hpre, hso⟩ := hx k0
  have hcost := hso.cost
  obtain ⟨sa, sc, hsv⟩ := h1.steps.form
  have hst1 := h1.steps
  rw [hsv] at hst1
  have hW1 := h1.blk
  rw [hsv] at hW1
  have hpl := (List.getElem?_eq_some_iff.1 hpre).1
  obtain ⟨bq, oq, cq, haq, hDq, _, hcq, hRq⟩ : ∃ b o cs, sa = some ⟨b, o, none⟩ ∧ D b ∧ cs.length = 10 ∧ Cells w1 b (o + x.at_.toNat * 10) cs ∧ RSt D w1 s cs := by
   obtain ⟨ao', cap', h1, h2, h3, h4⟩ := hst1
   cases h1
   exact h4 _ s hpre
  have hone := hRq.one
  have hRq0 := hRq
  obtain ⟨p1, p2, p3, p4, rfl, q1, q2, q3, q4⟩ := hRq.get
  have hsz1 := hk1.size
  refine Gs 3 rfl (Dw (fun q => Ext w1 q) [9] (fun w2 hk2 _ => ?_))
  have h2 := h1.ext hk2
  have hBb2 := hk2.blk hBb (fun h => h)
  refine Ds [0, 1, 2] (by kernel_rfl) rfl (WD.take 3 rfl (by kernel_rfl) rfl rfl rfl hk2 (fun w1 hw1 => R.load Tryz.isAgg24 rfl ((hw1.blk hW1 (fun h => h)).cells 3 _ rfl)) (Ds [4] (by kernel_rfl) rfl (WD.take 5 rfl (by kernel_rfl) rfl rfl rfl hk2 (fun w1 hw1 => R.load Tryz.isAgg3 rfl ((hw1.blk hBb (fun h => h)).cells 1 _ rfl)) (WD.takeW 6 rfl (by kernel_rfl) rfl rfl rfl (fun w1 => R.indexS Tryz.runUnderlying24 Tryz.sizeOf86 rfl rfl haq (by omega)) (WD.take 7 rfl (by kernel_rfl) rfl rfl rfl hk2 (fun w1 hw1 => R.loadK Tryz.isAgg86 Tryz.sizeOf86 rfl (by rfl) (hw1.cells hcq (fun h => h))) (WD.mem 8 rfl (by kernel_rfl) rfl rfl rfl (M.alloc (cs := _) Tryz.zeroValue86 rfl) ?_))))))
  rintro _ w3 ⟨c, rfl, hc, hsc, hBc0, hk3⟩
  refine ⟨fun _ => hk2.ext hk3, ?_⟩
  refine WD.mem0 9 rfl (by kernel_rfl) rfl rfl (M.storeK Tryz.sizeOf86 rfl rfl rfl rfl hone hBc0 (by simp)) ?_
  rintro w4 ⟨_, hBc1, hk4⟩
  refine ⟨fun h => absurd (by simp) h, ?_⟩
  have hk34 : Ext w2 w4 := hk3.trans hk4 (fun q hq (e : q = c) => by omega)
  have hBc : Blk w4 c [.int .i64 s.act, .int .i64 s.cost, .int .i64 s.var, .int .i64 s.n, .int .i64 s.term.op, .int .i64 s.term.n, p1, p2, p3, p4] 86 := hBc1
  have h4 := h2.ext hk34
  have hBb4 := hk34.blk hBb2 (fun h => h)
  have hE4 : Ext w w4 := (hk1.ext hk2).ext hk34
  have hR4 : RSt D w4 s [.int .i64 s.act, .int .i64 s.cost, .int .i64 s.var, .int .i64 s.n, .int .i64 s.term.op, .int .i64 s.term.n, p1, p2, p3, p4] := RSt.put (q1.ext stable_tm (hk2.ext hk34)) (q2.ext stable_st (hk2.ext hk34)) (q3.ext stable_st (hk2.ext hk34)) (q4.ext stable_int (hk2.ext hk34))
  refine G.done (by kernel_rfl) ?_ _
  refine Gs 5 rfl (G.ld rfl Tryz.isAgg38 (hBb4.cells 0 _ rfl) (Gs 9 rfl (G.ite rfl (fun k2 => ?_) (fun k2 => ?_))))
  ·
   have ee : passN f hs x s σ rd = (x.next, exec1 f hs s σ, rd) := by unfold passN; rw [if_neg k0, if_pos k2]
   refine Gs 3 rfl (G.ldK rfl Tryz.isAgg86 Tryz.sizeOf86 hBc.cells rfl (G.call rfl Tryz.call166 (wExec_ok h4 hg hV s hso hhs ht hol _ hR4) ?_))
   rintro _ w5 ⟨z', h5, hm5, hrm, hK5⟩
   have hBb5 := hK5.blk hBb4 (KW.ne86 h4 hBb4 (by decide) (by decide))
   refine Gs 5 rfl (G.ld rfl Tryz.isAgg3 (hBb5.cells 2 _ rfl) (Gs 6 rfl (G.ret1 Tryz.results123 rfl ⟨_, rfl, by rw [ee], z', by rw [ee]; exact h5, ⟨hm5.W, hm5.m, hm5.vv, hm5.v1, hm5.sv, hm5.hv, hm5.ov.imp id (fun ⟨g, e1, e2⟩ => ⟨g, e1, by have := hE4.size; omega⟩)⟩, by rw [ee, hrm]; exact hrd, Keep.trans (Keep.mono hE4 (fun _ _ e => e.elim)) hK5 (fun _ _ e => e)⟩)))
  ·
   refine Gs 6 rfl (G.ite rfl (fun k4 => ?_) (fun k4 => ?_))
   ·
    have ee : passN f hs x s σ rd = (x.next, σ, updR rd x.at_ 0) := by unfold passN; rw [if_neg k0, if_neg k2, if_pos k4]
    refine Gs 1 rfl (Dw (fun q => Ext w4 q) [6] (fun w5 hk5 _ => ?_))
    have h5 := h4.ext hk5
    have hBb5 := hk5.blk hBb4 (fun h => h)
    refine Ds [0, 1, 2] (by kernel_rfl) rfl (WD.take 3 rfl (by kernel_rfl) rfl rfl rfl hk5 (fun w1 hw1 => R.load Tryz.isAgg180 rfl ((hw1.blk h4.blk (fun h => h)).cells 6 _ rfl)) (Ds [4] (by kernel_rfl) rfl (WD.take 5 rfl (by kernel_rfl) rfl rfl rfl hk5 (fun w1 hw1 => R.load Tryz.isAgg3 rfl ((hw1.blk hBb4 (fun h => h)).cells 1 _ rfl)) (WD.mem0 6 rfl (by kernel_rfl) rfl rfl (M.update h5.map Tryz.underlying180 Tryz.underlying3 rfl rfl rfl) ?_))))
    rintro w6 ⟨hM6, hk6, hs6⟩
    refine ⟨fun h => absurd (by simp) h, ?_⟩
    obtain ⟨h6, hK6⟩ := h5.mapw hM6 hk6
    have hBb6 := hK6.blk hBb5 (KW.ne86 h5 hBb5 (by decide) (by decide))
    refine G.done (by kernel_rfl) ?_ _
    refine Gs 4 rfl (G.ld rfl Tryz.isAgg3 (hBb6.cells 2 _ rfl) (Gs 6 rfl (G.ret1 Tryz.results123 rfl ⟨_, rfl, by rw [ee], { z with rm := setM z.rm x.at_ (.int .i64 0) }, by rw [ee]; exact h6, ⟨rfl, rfl, rfl, rfl, rfl, rfl, .inl rfl⟩, by rw [ee]; exact hrd.upd h5.map.nodup _ _, Keep.trans (Keep.mono (hE4.ext hk5) (fun _ _ e => e.elim)) hK6 (fun _ _ e => e)⟩)))
   ·
    refine Gs 6 rfl (G.cut (σ := WkV × (Int → Int)) (fun ⟨z', rd'⟩ => [(0, .pointer (some ⟨z.W, 0, none⟩)), (3, .pointer (some ⟨b, 0, none⟩)), (5, .pointer (some ⟨c, 0, none⟩))]) (fun ⟨z', rd'⟩ => fun w' => (¬ (x.kind = 5 ∧ rd x.at_ = s.n)) ∧ rd' = (if x.kind = 5 then updR rd x.at_ (rd x.at_ + 1) else rd) ∧ WkS D f hs w' σ z' ∧ WkM w z z' ∧ RdM z'.rm rd' ∧ Keep (KW z) w w' ∧ KW z' = KW z ∧ Keep (KW z) w4 w') ?_ ?_)
    ·
     refine G.ite rfl (fun k5 => ?_) (fun k5 => ?_)
     ·
      have hrb5 := hrb k5
      have hlk := hrd x.at_
      refine Gs 2 rfl (Qt (by kernel_rfl) (Gs 3 rfl (G.ldQ rfl Tryz.isAgg180 (fun w1 hw1 => ((hw1.blk h4.blk (fun h => h)).cells 6 _ rfl)) (Gs 1 rfl (G.ldQ rfl Tryz.isAgg3 (fun w1 hw1 => ((hw1.blk hBb4 (fun h => h)).cells 1 _ rfl)) (G.opQ rfl rfl (fun w1 hw1 => R.lookupI (h4.map.ext hw1) Tryz.underlying180 Tryz.underlying3 Tryz.zeroValue3 rfl rfl) ?_))))))
      rw [hlk]
      refine Gs 1 rfl (G.ldQ rfl Tryz.isAgg3 (fun w1 hw1 => ((hw1.blk hBc (fun h => h)).cells 3 _ rfl)) (Gs 1 rfl (G.nilQ (fun w5 hk5 => ?_))))
      have h5 := h4.ext hk5
      have hBb5 := hk5.blk hBb4 (fun h => h)
      have hBc5 := hk5.blk hBc (fun h => h)
      refine Gs 1 rfl (G.ite rfl (fun hn => ?_) (fun hn => ?_))
      ·
       have ee : passN f hs x s σ rd = (x.other, σ, rd) := by unfold passN; rw [if_neg k0, if_neg k2, if_neg k4, if_pos ⟨k5, hn⟩]
       refine Gs 3 rfl (G.ld rfl Tryz.isAgg3 (hBb5.cells 3 _ rfl) (Gs 8 rfl (G.ret1 Tryz.results123 rfl ⟨_, rfl, by rw [ee], z, by rw [ee]; exact h5, WkM.refl _ _, by rw [ee]; exact hrd, Keep.mono (hE4.ext hk5) (fun _ _ e => e.elim)⟩)))
      ·
       refine Gs 2 rfl (Dw (fun q => Ext w5 q) [8] (fun w6 hk6 _ => ?_))
       have h6 := h5.ext hk6
       have hBb6 := hk6.blk hBb5 (fun h => h)
       have hBc6 := hk6.blk hBc5 (fun h => h)
       refine Ds [0, 1, 2] (by kernel_rfl) rfl (WD.take 3 rfl (by kernel_rfl) rfl rfl rfl hk6 (fun w1 hw1 => R.load Tryz.isAgg180 rfl ((hw1.blk h5.blk (fun h => h)).cells 6 _ rfl)) (Ds [4] (by kernel_rfl) rfl (WD.take 5 rfl (by kernel_rfl) rfl rfl rfl hk6 (fun w1 hw1 => R.load Tryz.isAgg3 rfl ((hw1.blk hBb5 (fun h => h)).cells 1 _ rfl)) (WD.take 6 rfl (by kernel_rfl) rfl rfl rfl hk6 (fun w1 hw1 => R.lookupI (h5.map.ext hw1) Tryz.underlying180 Tryz.underlying3 Tryz.zeroValue3 rfl rfl) ?_))))
       rw [hlk]
       refine Da [7] (by kernel_rfl) rfl (by omega) (WD.mem0 8 rfl (by kernel_rfl) rfl rfl (M.update h6.map Tryz.underlying180 Tryz.underlying3 rfl rfl rfl) ?_)
       rintro w7 ⟨hM7, hk7, hs7⟩
       refine ⟨fun h => absurd (by simp) h, ?_⟩
       obtain ⟨h7, hK7⟩ := h6.mapw hM7 hk7
       refine G.done (by kernel_rfl) ?_ _
       refine G.meet (({ z with rm := setM z.rm x.at_ (.int .i64 (rd x.at_ + 1)) }, updR rd x.at_ (rd x.at_ + 1))) (Sub.of rfl) (⟨fun e => hn e.2, by rw [if_pos k5], h7, ⟨rfl, rfl, rfl, rfl, rfl, rfl, .inl rfl⟩, hrd.upd h6.map.nodup _ _, Keep.trans (Keep.mono ((hE4.ext hk5).ext hk6) (fun _ _ e => e.elim)) hK7 (fun _ _ e => e), rfl, Keep.trans (Keep.mono (hk5.ext hk6) (fun _ _ e => e.elim)) hK7 (fun _ _ e => e)⟩)
     ·
      have hK4 : Keep (KW z) w w4 := Keep.mono hE4 (fun _ _ e => e.elim)
      refine Gs 1 rfl (G.meet ((z, rd)) (Sub.of rfl) (⟨fun e => k5 e.1, by rw [if_neg k5], h4, WkM.refl _ _, hrd, hK4, rfl, Keep.refl _ _⟩))
    ·
     rintro ⟨z', rd'⟩ w5 ⟨hno, hrd', h5, hm5, hrd5, hK5, hKW, hK45⟩
     show G _ _ _ _ _ [(0, .pointer (some ⟨z.W, 0, none⟩)), (3, .pointer (some ⟨b, 0, none⟩)), (5, .pointer (some ⟨c, 0, none⟩))] _
     have ee : passN f hs x s σ rd = (if valT σ.vals s.term ≠ 0 then x.next else x.other, { σ with time := σ.time + s.cost }, rd') := by unfold passN; rw [if_neg k0, if_neg k2, if_neg k4, if_neg hno, hrd']
     have hBb5 := hK45.blk hBb4 (KW.ne86 h4 hBb4 (by decide) (by decide))
     have hBc5 := hK45.blk hBc (KW.ne86 h4 hBc (by decide) (by decide))
     have hW5 := h5.blk
     rw [hm5.W] at hW5
     refine Gs 3 rfl (Dw (fun q => Ext w5 q) [11] (fun w6 hk6 _ => ?_))
     have h6 := h5.ext hk6
     have hBb6 := hk6.blk hBb5 (fun h => h)
     have hBc6 := hk6.blk hBc5 (fun h => h)
     refine Ds [0, 1, 2, 3] (by kernel_rfl) rfl (WD.take 4 rfl (by kernel_rfl) rfl rfl rfl hk6 (fun w1 hw1 => R.load Tryz.isAgg3 rfl ((hw1.blk hW5 (fun h => h)).cells 8 (.int .i64 σ.time) rfl)) (Ds [5] (by kernel_rfl) rfl (WD.take 6 rfl (by kernel_rfl) rfl rfl rfl hk6 (fun w1 hw1 => R.load Tryz.isAgg3 rfl ((hw1.blk hBc5 (fun h => h)).cells 1 (.int .i64 s.cost) rfl)) (Da [7, 8, 9, 10] (by kernel_rfl) rfl (by omega) (WD.mem0 11 rfl (by kernel_rfl) rfl rfl (M.store Tryz.sizeOf3 rfl rfl rfl rfl (hk6.blk hW5 (fun h => h)) (by simp)) ?_)))))
     rintro w7 hw7
     refine ⟨fun h => absurd (by simp) h, ?_⟩
     have hw7' := hw7
     rw [← hm5.W] at hw7'
     obtain ⟨h7, hK7⟩ := h6.time hw7'
     rw [hKW] at hK7
     have hnk : ¬ KW z c := KW.ne86 h4 hBc (by decide) (by decide)
     have hnb : ¬ KW z b := KW.ne86 h4 hBb4 (by decide) (by decide)
     have hBb7 := hK7.blk hBb6 hnb
     have hBc7 := hK7.blk hBc6 hnk
     have hK07 : Keep (KW z) w w7 := (hK5.ext hk6).trans hK7 (fun _ _ e => e)
     have hK47 : Keep (KW z) w4 w7 := (hK45.ext hk6).trans hK7 (fun _ _ e => e)
     have q17 : SlR 3 RTm D w7 p1 s.term.kids := (q1.ext stable_tm (hk2.ext hk34)).keep stable_tm hK47 (fun q hq _ => hnD q hq)
     refine G.done (by kernel_rfl) ?_ _
     refine Gs 6 rfl (G.ldK rfl Tryz.isAgg84 Tryz.sizeOf84 (hBc7.cells.sub 4 3) rfl ?_)
     have hv7 := wValue_ok h7 hg hV s.term hso.formed hso.ranged hso.small _ D (RTm.put q17)
     rw [hm5.W] at hv7
     refine G.call rfl Tryz.call122 hv7 ?_
     rintro _ w8 ⟨rfl, hk8⟩
     have h8 := h7.ext hk8
     have hBb8 := hk8.blk hBb7 (fun h => h)
     refine Gs 3 rfl (G.ite rfl (fun hz => ?_) (fun hz => ?_))
     · refine Gs 3 rfl (G.ld rfl Tryz.isAgg3 (hBb8.cells 2 _ rfl) (Gs 5 rfl (G.ret1 Tryz.results123 rfl ⟨_, rfl, by rw [ee, if_pos hz], z', by rw [ee]; exact h8, hm5, by rw [ee]; exact hrd5, hK07.ext hk8⟩)))
     · refine Gs 5 rfl (G.ld rfl Tryz.isAgg3 (hBb8.cells 3 _ rfl) (Gs 4 rfl (G.ret1 Tryz.results123 rfl ⟨_, rfl, by rw [ee, if_neg hz], z', by rw [ee]; exact h8, hm5, by rw [ee]; exact hrd5, hK07.ext hk8⟩)))
def loopX (body : Sg → Sg) (cost : Int) (t : Tm) : Nat → Sg → Sg
 | 0, σ => σ
 | k + 1, σ => if valT σ.vals t = 0 then { σ with time := σ.time + cost } else loopX body cost t k (body { σ with time := σ.time + cost })
section
variable (f : Fl) (hs : List Int)
mutual
def exS : St → Sg → Sg
 | .mk a c v n t th el b, σ =>
  if a = 3 then (if valT σ.vals t ≠ 0 then exL th { σ with time := σ.time + c } else exL el { σ with time := σ.time + c })
  else if a = 4 then loopX (fun σ => exL th σ) c t n.toNat σ
  else exec1 f hs (.mk a c v n t th el b) σ
def exL : List St → Sg → Sg
 | [], σ => σ
 | s :: r, σ => exL r (exS s σ)
end
theorem exS_eq (s : St) (σ : Sg) : exS f hs s σ = if s.act = 3 then (if valT σ.vals s.term ≠ 0 then exL f hs s.thn { σ with time := σ.time + s.cost } else exL f hs s.els { σ with time := σ.time + s.cost })
  else if s.act = 4 then loopX (exL f hs s.thn) s.cost s.term s.n.toNat σ else exec1 f hs s σ := by cases s; rw [exS]; rfl
structure Mc where
 at_ : Int
 σ : Sg
 rd : Int → Int
def noSt : St := .mk 0 0 0 0 (.mk 0 0 []) [] [] []
def ndAt (g : List Nd) (k : Int) : Nd := g[k.toNat]?.getD ⟨1, -1, -1, -1⟩
def stAt (f : Fl) (k : Int) : St := (preL f.body)[k.toNat]?.getD noSt
def stepM (g : List Nd) (m : Mc) : Mc :=
 ⟨(passN f hs (ndAt g m.at_) (stAt f (ndAt g m.at_).at_) m.σ m.rd).1, (passN f hs (ndAt g m.at_) (stAt f (ndAt g m.at_).at_) m.σ m.rd).2.1, (passN f hs (ndAt g m.at_) (stAt f (ndAt g m.at_).at_) m.σ m.rd).2.2⟩
def iterM (g : List Nd) : Nat → Mc → Mc
 | 0, m => m
 | k + 1, m => iterM g k (stepM f hs g m)
theorem iterM_add (g : List Nd) : ∀ (a b : Nat) (m : Mc), iterM f hs g (a + b) m = iterM f hs g b (iterM f hs g a m)
 | 0, b, m => by rw [Nat.zero_add]; rfl
 | a + 1, b, m => by rw [show a + 1 + b = (a + b) + 1 by omega]; exact iterM_add g a b (stepM f hs g m)
theorem iterM_succ (g : List Nd) (k : Nat) (m : Mc) : iterM f hs g (k + 1) m = stepM f hs g (iterM f hs g k m) := by rw [iterM_add]; rfl
def Goes (g : List Nd) (lo hi : Int) (k : Nat) (m m' : Mc) : Prop := iterM f hs g k m = m' ∧ ∀ j, j < k → lo ≤ (iterM f hs g j m).at_ ∧ (iterM f hs g j m).at_ < hi
end
section
variable {f : Fl} {hs : List Int} {g : List Nd} {lo hi : Int} {k k' : Nat} {m m' m'' : Mc}
theorem Goes.refl (m : Mc) : Goes f hs g lo hi 0 m m := ⟨rfl, fun _ h => absurd h (Nat.not_lt_zero _)⟩
theorem Goes.trans (h : Goes f hs g lo hi k m m') (h' : Goes f hs g lo hi k' m' m'') : Goes f hs g lo hi (k + k') m m'' := by
 refine ⟨by rw [iterM_add, h.1, h'.1], fun j hj => ?_⟩
 by_cases hjk : j < k
 · exact h.2 j hjk
 ·
  obtain ⟨i, rfl⟩ : ∃ i, j = k + i := ⟨j - k, by omega⟩
  rw [iterM_add, h.1]
  exact h'.2 i (by omega)
theorem Goes.widen {lo' hi' : Int} (h : Goes f hs g lo hi k m m') (h1 : lo' ≤ lo) (h2 : hi ≤ hi') : Goes f hs g lo' hi' k m m' := ⟨h.1, fun j hj => by have := h.2 j hj; omega⟩
theorem Goes.one (h : stepM f hs g m = m') (h1 : lo ≤ m.at_ ∧ m.at_ < hi) : Goes f hs g lo hi 1 m m' := by
 refine ⟨h, fun j hj => ?_⟩
 obtain rfl : j = 0 := by omega
 exact h1
end
mutual
def nbS : St → Nat
 | .mk a _ _ n _ th el _ => if a = 3 then 1 + max (nbL th) (nbL el) else if a = 4 then 2 + n.toNat * (1 + nbL th) else 1
def nbL : List St → Nat
 | [] => 0
 | s :: r => nbS s + nbL r
end
theorem nbS_eq (s : St) : nbS s = if s.act = 3 then 1 + max (nbL s.thn) (nbL s.els) else if s.act = 4 then 2 + s.n.toNat * (1 + nbL s.thn) else 1 := by cases s; rw [nbS]; rfl
theorem nb_bds {vs : List Vr} {nh : Nat} (l : List St) : ∀ top, stepsCodeN vs nh l top = 0 → (nbL l : Int) ≤ 2 * (bds l).1 := by
 induction l using Sts.ind with
 | h l ih =>
 intro top h
 have hm := steps_mem l top h
 have key : ∀ r : List St, (∀ x ∈ r, x ∈ l) → (nbL r : Int) ≤ 2 * (bds r).1 := by
  intro r
  induction r with
  | nil => intro _; simp [nbL, bds]
  | cons x r ihr =>
   intro hx
   have h1 := ihr (fun y hy => hx y (List.mem_cons_of_mem _ hy))
   obtain ⟨last, h2⟩ := hm x (hx x (List.mem_cons_self ..))
   obtain ⟨h3, _, _, h4, h5⟩ := step_ok h2
   have h6 := (ih x (hx x (List.mem_cons_self ..))).1 _ h4
   have h7 := (ih x (hx x (List.mem_cons_self ..))).2 _ h5
   have b4 := bds_nonneg x.thn _ h4
   have b5 := bds_nonneg x.els _ h5
   rw [nbL, bds]
   have : (nbS x : Int) ≤ 2 * (stepB x).1 := by
    rw [nbS_eq, stepB_eq]
    by_cases a4 : x.act = 4
    ·
     rw [if_neg (show ¬ x.act = 3 by omega), if_pos a4, if_pos a4]
     obtain ⟨n, hn⟩ := Int.eq_ofNat_of_zero_le (h3.rep a4).1
     rw [hn, Int.toNat_natCast]
     have : ((n * (1 + nbL x.thn) : Nat) : Int) ≤ (n : Int) * (2 * (1 + (bds x.thn).1)) := by
      rw [Int.natCast_mul]
      exact Int.mul_le_mul_of_nonneg_left (by omega) (by omega)
     have e : (n : Int) * (2 * (1 + (bds x.thn).1)) = 2 * ((n : Int) * (1 + (bds x.thn).1)) := by rw [Int.mul_left_comm]
     simp only
     omega
    ·
     rw [if_neg a4, if_neg a4]
     by_cases a3 : x.act = 3
     · rw [if_pos a3]; simp only; omega
     · rw [if_neg a3]; simp only; omega
   simp only
   omega
 exact key l (fun x h => h)
def CtxG (g : List Nd) (n : Nat) (ns : List Nd) : Prop := ∀ (i : Nat) x, ns[i]? = some x → g[n + i]? = some x
def CtxP (P : List St) (a : Nat) (ps : List St) : Prop := ∀ (i : Nat) x, ps[i]? = some x → P[a + i]? = some x
theorem CtxG.left {g : List Nd} {n : Nat} {a b : List Nd} (h : CtxG g n (a ++ b)) : CtxG g n a := fun i x hx => h i x (by rw [List.getElem?_append_left (List.getElem?_eq_some_iff.1 hx).1]; exact hx)
theorem CtxG.right {g : List Nd} {n m : Nat} {a b : List Nd} (h : CtxG g n (a ++ b)) (hm : m = n + a.length) : CtxG g m b := fun i x hx => by
 rw [hm, Nat.add_assoc]; exact h _ x (by rw [List.getElem?_append_right (by omega)]; simpa using hx)
theorem CtxG.head {g : List Nd} {n : Nat} {x : Nd} {b : List Nd} (h : CtxG g n (x :: b)) : g[n]? = some x := h 0 x rfl
theorem CtxG.tail {g : List Nd} {n : Nat} {x : Nd} {b : List Nd} (h : CtxG g n (x :: b)) : CtxG g (n + 1) b := fun i y hy => by
 rw [Nat.add_assoc, Nat.add_comm 1]; exact h (i + 1) y (by simpa using hy)
theorem CtxP.left {P : List St} {n : Nat} {a b : List St} (h : CtxP P n (a ++ b)) : CtxP P n a := fun i x hx => h i x (by rw [List.getElem?_append_left (List.getElem?_eq_some_iff.1 hx).1]; exact hx)
theorem CtxP.right {P : List St} {n m : Nat} {a b : List St} (h : CtxP P n (a ++ b)) (hm : m = n + a.length) : CtxP P m b := fun i x hx => by
 rw [hm, Nat.add_assoc]; exact h _ x (by rw [List.getElem?_append_right (by omega)]; simpa using hx)
theorem CtxP.head {P : List St} {n : Nat} {x : St} {b : List St} (h : CtxP P n (x :: b)) : P[n]? = some x := h 0 x rfl
theorem CtxP.tail {P : List St} {n : Nat} {x : St} {b : List St} (h : CtxP P n (x :: b)) : CtxP P (n + 1) b := fun i y hy => by
 rw [Nat.add_assoc, Nat.add_comm 1]; exact h (i + 1) y (by simpa using hy)
theorem ndAt_eq {g : List Nd} {n : Nat} {x : Nd} (h : g[n]? = some x) : ndAt g n = x := by unfold ndAt; rw [Int.toNat_natCast, h]; rfl
theorem stAt_eq {f : Fl} {a : Nat} {s : St} (h : (preL f.body)[a]? = some s) : stAt f a = s := by unfold stAt; rw [Int.toNat_natCast, h]; rfl
def SameR (a n : Nat) (rd rd' : Int → Int) : Prop := ∀ k : Int, ¬ ((a : Int) ≤ k ∧ k < (a + n : Nat)) → rd' k = rd k
theorem SameR.refl (a n : Nat) (rd : Int → Int) : SameR a n rd rd := fun _ _ => rfl
theorem SameR.trans {a n : Nat} {r1 r2 r3 : Int → Int} (h : SameR a n r1 r2) (h' : SameR a n r2 r3) : SameR a n r1 r3 := fun k hk => (h' k hk).trans (h k hk)
theorem SameR.widen {a n b m : Nat} {r1 r2 : Int → Int} (h : SameR a n r1 r2) (h1 : b ≤ a) (h2 : a + n ≤ b + m) : SameR b m r1 r2 := fun k hk => h k (fun h3 => hk ⟨by omega, by omega⟩)
theorem SameR.upd {a n : Nat} {rd : Int → Int} {k v : Int} (h : (a : Int) ≤ k ∧ k < (a + n : Nat)) : SameR a n rd (updR rd k v) := fun j hj => by
 unfold updR; rw [if_neg (fun e => hj (by rw [e]; exact h))]
section
variable {f : Fl} {hs : List Int} {g : List Nd}
def Sim (f : Fl) (hs : List Int) (g : List Nd) (l : List St) : Prop := ∀ (a n e : Nat), CtxG g n (layL l a n e) → CtxP (preL f.body) a (preL l) → ∀ (σ : Sg) (rd : Int → Int), ∃ k rd', Goes f hs g n (n + widL l : Nat) k ⟨((if l.isEmpty then e else n : Nat) : Int), σ, rd⟩ ⟨(e : Int), exL f hs l σ, rd'⟩ ∧ k ≤ nbL l ∧ SameR a (ssize l) rd rd'
theorem sim_one (s : St) (hp : s.plainB = true) (hn : s.act = 4 → 0 ≤ s.n) (h1 : Sim f hs g s.thn) (h2 : Sim f hs g s.els) : ∀ (a n e : Nat), CtxG g n (s.lay a n e) → CtxP (preL f.body) a s.pre → ∀ (σ : Sg) (rd : Int → Int), ∃ k rd', Goes f hs g n (n + s.wid : Nat) k ⟨(n : Int), σ, rd⟩ ⟨(e : Int), exS f hs s σ, rd'⟩ ∧ k ≤ nbS s ∧ SameR a s.size rd rd' := by
 intro a n e hG hP σ rd
 have hw := s.wid_eq
 have hz := s.size_eq
 have hp' := hp
 rw [s.plainB_eq, Bool.and_eq_true, Bool.and_eq_true] at hp'
 rw [s.lay_eq] at hG
 rw [s.pre_eq] at hP
 have hst : stAt f a = s := stAt_eq hP.head
 rw [nbS_eq, exS_eq]
 by_cases a3 : s.act = 3
 ·
  rw [if_pos a3] at hG
  rw [if_neg (show ¬ s.act = 4 by omega)] at hw
  rw [if_pos a3, if_pos a3]
  have hnd := ndAt_eq hG.head
  have hl1 := layL_len s.thn hp'.1.2 (a + 1) (n + 1) e
  have hpl := preL_len s.thn
  obtain ⟨k1, r1, g1, b1, s1⟩ := h1 (a + 1) (n + 1) e hG.tail.left hP.tail.left { σ with time := σ.time + s.cost } rd
  obtain ⟨k2, r2, g2, b2, s2⟩ := h2 (a + 1 + ssize s.thn) (n + 1 + widL s.thn) e (hG.tail.right (by omega)) (hP.tail.right (by omega)) { σ with time := σ.time + s.cost } rd
  by_cases hv : valT σ.vals s.term ≠ 0
  ·
   rw [if_pos hv]
   refine ⟨1 + k1, r1, (Goes.one (m' := ⟨((if s.thn.isEmpty then e else n + 1 : Nat) : Int), { σ with time := σ.time + s.cost }, rd⟩) ?_ (by dsimp only; omega)).trans (g1.widen (by omega) (by omega)), by omega, s1.widen (by omega) (by omega)⟩
   unfold stepM
   rw [hnd, hst]
   simp [passN, hv, apply_ite (Nat.cast (R := Int))]
  ·
   rw [if_neg hv]
   refine ⟨1 + k2, r2, (Goes.one (m' := ⟨((if s.els.isEmpty then e else n + 1 + widL s.thn : Nat) : Int), { σ with time := σ.time + s.cost }, rd⟩) ?_ (by dsimp only; omega)).trans (g2.widen (by omega) (by omega)), by omega, s2.widen (by omega) (by omega)⟩
   unfold stepM
   rw [hnd, hst]
   simp [passN, hv, apply_ite (Nat.cast (R := Int))]
 ·
  by_cases a4 : s.act = 4
  ·
   rw [if_neg a3, if_pos a4] at hG
   rw [if_pos a4] at hw
   rw [if_neg a3, if_neg a3, if_pos a4, if_pos a4]
   have hnd := ndAt_eq hG.head
   have hnh := ndAt_eq hG.tail.head
   have hG2 : CtxG g (n + 2) (layL s.thn (a + 1) (n + 2) (n + 1)) := hG.tail.tail
   obtain ⟨N, hN⟩ := Int.eq_ofNat_of_zero_le (hn a4)
   have key : ∀ (q : Nat), q ≤ N → ∀ (σ : Sg) (rd : Int → Int), rd a = ((N - q : Nat) : Int) → ∃ k rd', Goes f hs g n (n + s.wid : Nat) k ⟨((n + 1 : Nat) : Int), σ, rd⟩ ⟨(e : Int), loopX (exL f hs s.thn) s.cost s.term q σ, rd'⟩ ∧ k ≤ 1 + q * (1 + nbL s.thn) ∧ SameR a s.size rd rd' := by
    intro q
    induction q with
    | zero =>
     intro _ σ rd hrd
     refine ⟨1, rd, Goes.one ?_ (by dsimp only; omega), by omega, SameR.refl _ _ _⟩
     unfold stepM
     rw [hnh, hst]
     simp [passN, hN, hrd, loopX]
    | succ q ih =>
     intro hq σ rd hrd
     have hne : ¬ (rd a = s.n) := by rw [hrd, hN]; omega
     rw [loopX]
     by_cases hv : valT σ.vals s.term = 0
     ·
      rw [if_pos hv]
      refine ⟨1, updR rd a (rd a + 1), Goes.one ?_ (by dsimp only; omega), by omega, SameR.upd (by omega)⟩
      unfold stepM
      rw [hnh, hst]
      simp [passN, hne, hv]
     ·
      rw [if_neg hv]
      obtain ⟨k1, r1, g1, b1, s1⟩ := h1 (a + 1) (n + 2) (n + 1) hG2 hP.tail.left { σ with time := σ.time + s.cost } (updR rd a (rd a + 1))
      have hr1 : r1 a = ((N - q : Nat) : Int) := by
       rw [s1 a (by omega)]; unfold updR; rw [if_pos rfl, hrd]; omega
      obtain ⟨k2, r2, g2, b2, s2⟩ := ih (by omega) _ r1 hr1
      refine ⟨1 + (k1 + k2), r2, (Goes.one (m' := ⟨((if s.thn.isEmpty then n + 1 else n + 2 : Nat) : Int), { σ with time := σ.time + s.cost }, updR rd a (rd a + 1)⟩) ?_ (by dsimp only; omega)).trans ((g1.widen (by omega) (by omega)).trans g2), ?_, (SameR.upd (by omega)).trans ((s1.widen (by omega) (by omega)).trans s2)⟩
      ·
       unfold stepM
       rw [hnh, hst]
       simp [passN, hne, hv, apply_ite (Nat.cast (R := Int))]
      · rw [Nat.succ_mul]; omega
   rw [hN, Int.toNat_natCast]
   obtain ⟨k, r', hg, hb, hr⟩ := key N (Nat.le_refl _) σ (updR rd a 0) (by unfold updR; rw [if_pos rfl, Nat.sub_self]; rfl)
   refine ⟨1 + k, r', (Goes.one (m' := ⟨((n + 1 : Nat) : Int), σ, updR rd a 0⟩) ?_ (by dsimp only; omega)).trans hg, by omega, (SameR.upd (by omega)).trans hr⟩
   unfold stepM
   rw [hnd, hst]
   simp [passN]
  ·
   rw [if_neg a3, if_neg a4] at hG
   rw [if_neg a4] at hw
   rw [if_neg a3, if_neg a4, if_neg a3, if_neg a4]
   have hnd := ndAt_eq hG.head
   refine ⟨1, rd, Goes.one ?_ (by dsimp only; omega), by omega, SameR.refl _ _ _⟩
   unfold stepM
   rw [hnd, hst]
   simp [passN]
theorem sim_list (l : List St) : plainL l = true → (∀ s ∈ preL l, s.act = 4 → 0 ≤ s.n) → Sim f hs g l := by
 induction l using Sts.ind with
 | h l ih =>
 intro hp hn
 have key : ∀ r : List St, (∀ x ∈ r, x ∈ l) → plainL r = true → (∀ s ∈ preL r, s.act = 4 → 0 ≤ s.n) → Sim f hs g r := by
  intro r
  induction r with
  | nil =>
   intro _ _ _ a n e _ _ σ rd
   exact ⟨0, rd, by rw [exL]; exact Goes.refl _, Nat.zero_le _, SameR.refl _ _ _⟩
  | cons s r ihr =>
   intro hm hpr hnr a n e hG hP σ rd
   have hms := hm s (List.mem_cons_self ..)
   have hw2 : widL (s :: r) = s.wid + widL r := rfl
   rw [plainL, Bool.and_eq_true] at hpr
   have hps := hpr.1
   have hps' := hps
   rw [s.plainB_eq, Bool.and_eq_true, Bool.and_eq_true] at hps'
   rw [layL] at hG
   rw [preL] at hP
   have hnr' : ∀ x ∈ s.pre ++ preL r, x.act = 4 → 0 ≤ x.n := hnr
   rw [s.pre_eq] at hnr'
   have H1 := sim_one (g := g) (f := f) (hs := hs) s hps (fun h => hnr' s (by simp) h) ((ih s hms).1 hps'.1.2 (fun x hx => hnr' x (by simp [hx]))) ((ih s hms).2 hps'.2 (fun x hx => hnr' x (by simp [hx])))
   have hlen : (s.lay a n (if r.isEmpty then e else n + s.wid)).length = s.wid := by
    have h1 := layL_len [s] (by rw [plainL, hps]; rfl) a n (if r.isEmpty then e else n + s.wid)
    simpa [layL, widL] using h1
   have hpl : s.pre.length = s.size := by
    have := preL_len [s]
    simpa [preL, ssize] using this
   obtain ⟨k1, r1, g1, b1, s1⟩ := H1 a n (if r.isEmpty then e else n + s.wid) hG.left hP.left σ rd
   obtain ⟨k2, r2, g2, b2, s2⟩ := ihr (fun y hy => hm y (List.mem_cons_of_mem _ hy)) hpr.2 (fun x hx => hnr x (by rw [preL]; exact List.mem_append_right _ hx)) (a + s.size) (n + s.wid) e (hG.right (by omega)) (hP.right (by omega)) (exS f hs s σ) r1
   refine ⟨k1 + k2, r2, ?_, by rw [nbL]; omega, (s1.widen (Nat.le_refl _) (by rw [ssize]; omega)).trans (s2.widen (by omega) (by rw [ssize]; omega))⟩
   rw [List.isEmpty_cons, if_neg (by decide), exL]
   exact Goes.trans (Goes.widen g1 (by omega) (by omega)) (Goes.widen g2 (by omega) (by omega))
 exact key l (fun x h => h) hp hn
end
open Go.GL
theorem steps_pre {vs : List Vr} {nh : Nat} (l : List St) : ∀ top, stepsCodeN vs nh l top = 0 → ∀ s ∈ preL l, ∃ last, stepCodeN vs nh s last = 0 := by
 induction l using Sts.ind with
 | h l ih =>
 intro top h
 have hm := steps_mem l top h
 have key : ∀ r : List St, (∀ x ∈ r, x ∈ l) → ∀ s ∈ preL r, ∃ last, stepCodeN vs nh s last = 0 := by
  intro r
  induction r with
  | nil => intro _ s hs; simp [preL] at hs
  | cons x r ihr =>
   intro hx s hs
   obtain ⟨last, h2⟩ := hm x (hx x (List.mem_cons_self ..))
   obtain ⟨_, _, _, h4, h5⟩ := step_ok h2
   rw [preL, x.pre_eq, List.mem_append, List.mem_cons, List.mem_append] at hs
   rcases hs with (rfl | hs | hs) | hs
   · exact ⟨last, h2⟩
   · exact (ih x (hx x (List.mem_cons_self ..))).1 _ h4 s hs
   · exact (ih x (hx x (List.mem_cons_self ..))).2 _ h5 s hs
   · exact ihr (fun y hy => hx y (List.mem_cons_of_mem _ hy)) s hs
 exact key l (fun x h => h)
theorem nodes_pre (l : List St) : ∀ s ∈ preL l, s.nodes ≤ snodes l := by
 induction l using Sts.ind with
 | h l ih =>
 have key : ∀ r : List St, (∀ x ∈ r, x ∈ l) → ∀ s ∈ preL r, s.nodes ≤ snodes r := by
  intro r
  induction r with
  | nil => intro _ s hs; simp [preL] at hs
  | cons x r ihr =>
   intro hx s hs
   have h1 := (ih x (hx x (List.mem_cons_self ..))).1
   have h2 := (ih x (hx x (List.mem_cons_self ..))).2
   have h3 := x.nodes_eq
   rw [preL, x.pre_eq, List.mem_append, List.mem_cons, List.mem_append] at hs
   rw [snodes]
   rcases hs with (rfl | hs | hs) | hs
   · omega
   · have := h1 s hs; omega
   · have := h2 s hs; omega
   · have := ihr (fun y hy => hx y (List.mem_cons_of_mem _ hy)) s hs; omega
 exact key l (fun x h => h)
theorem stepOk_of {f : Fl} {s : St} {last : Bool} (h : stepCodeN f.vars f.hatches.length s last = 0) (hn : s.nodes ≤ 100000) : StepOk f s := by
 obtain ⟨h1, h2, h3, _, _⟩ := step_ok h
 have hse := s.nodes_eq
 unfold termCodeN at h2
 split at h2
 ·
  rename_i hf
  split at h2
  ·
   rename_i hr
   refine ⟨hf, hr, by omega, h1.cost, fun ha => ?_, fun ha => ?_⟩
   ·
    unfold shapedB at h3
    rcases ha with ha | ha
    ·
     simp [ha, localB] at h3
     omega
    ·
     simp [ha, localB] at h3
     omega
   ·
    unfold shapedB at h3
    simp [ha, localB] at h3
    omega
  · cases h2
 · cases h2
def SettleOk (s : St) : Prop := s.act = 6 → ∀ b ∈ s.bounds, b ≤ 67108864
theorem rising_le {l : List Int} (h : risingB l = true) : ∀ (d i : Nat) x y, l[i]? = some x → l[i + d]? = some y → x ≤ y := by
 intro d
 induction d with
 | zero => intro i x y hx hy; rw [Nat.add_zero, hx] at hy; cases hy; exact Int.le_refl _
 | succ d ih =>
  intro i x y hx hy
  have hlt := (List.getElem?_eq_some_iff.1 hy).1
  obtain ⟨z, hz⟩ : ∃ z, l[i + d]? = some z := ⟨_, List.getElem?_eq_getElem (by omega)⟩
  have h1 := ih i x z hx hz
  have h2 := (risingB_iff l).1 h (i + d) z y hz hy
  omega
theorem settleOk_of {vs : List Vr} {nh : Nat} {s : St} {last : Bool} (h : stepCodeN vs nh s last = 0) : SettleOk s := by
 intro a6 b hb
 obtain ⟨h1, h2, h3, _, _⟩ := step_ok h
 have h4 : numberB s = true := by
  rw [stepCode_eq] at h
  split at h
  · cases h
  split at h
  · cases h
  · rename_i h5; simpa using h5
 unfold shapedB at h3
 simp [a6, groupsB] at h3
 unfold numberB at h4
 simp [a6] at h4
 have hr := h3.2.2
 obtain ⟨i, hi⟩ := List.mem_iff_getElem?.1 hb
 have hlt := (List.getElem?_eq_some_iff.1 hi).1
 obtain ⟨y, hy⟩ : ∃ y, s.bounds[s.bounds.length - 1]? = some y := ⟨_, List.getElem?_eq_getElem (by omega)⟩
 have h5 := rising_le hr (s.bounds.length - 1 - i) i b y hi (by rw [show i + (s.bounds.length - 1 - i) = s.bounds.length - 1 by omega]; exact hy)
 rw [hy] at h4
 simp at h4
 omega
theorem settle_cases (l : List Int) (t : Int) : settleN l t = t ∨ (settleN l t ∈ l ∧ t ≤ settleN l t) := by
 have key : ∀ (l : List Int) (s : Int × Bool), (l.foldl (settleStep t) s).1 = s.1 ∨ ((l.foldl (settleStep t) s).1 ∈ l ∧ t ≤ (l.foldl (settleStep t) s).1) := by
  intro l
  induction l with
  | nil => intro s; exact .inl rfl
  | cons b r ih =>
   intro s
   rw [List.foldl_cons]
   rcases ih (settleStep t s b) with h | h
   ·
    rw [h]
    unfold settleStep
    split
    · rename_i h1; exact .inr ⟨List.mem_cons_self .., h1.1⟩
    · exact .inl rfl
   · exact .inr ⟨List.mem_cons_of_mem _ h.1, h.2⟩
 exact key l (t, false)
structure Valid (f : Fl) : Prop where
 ok : checkN f = 0
 size : snodes f.body + hnodes f.hatches ≤ 1024
 bulk : sbulk f.body ≤ 1000000
section
variable {f : Fl} (V : Valid f)
include V
theorem Valid.plain : plainL f.body = true := check_plain V.ok
theorem Valid.good : ∀ v ∈ f.vars, Good (v.low, v.high) := vars_good (check_parts V.ok).2.1
theorem Valid.kinds : ∀ v ∈ f.vars, 0 ≤ v.kind ∧ v.kind ≤ 3 := by
 have h := (check_parts V.ok).2.1
 have h1 : ∀ j, j < f.vars.length → varAt f.vars j = 0 := by
  unfold varsCodeN at h
  split at h
  · rename_i h2; exact absurd h h2
  ·
   rename_i h2
   intro j hj
   exact firstBad_inv f.vars.length 0 (by simpa using h2) j (Nat.zero_le _) (by omega)
 exact fun v hv => (varsAll_good h1 v hv).2
theorem Valid.lens : f.vars.length ≤ 64 ∧ f.hatches.length ≤ 8 := by
 have h := (check_parts V.ok).1
 unfold sizesB at h
 simp at h
 omega
theorem Valid.ssize : ssize f.body ≤ 1024 := ssize_le_of V.size
theorem Valid.step : ∀ s ∈ preL f.body, StepOk f s ∧ SettleOk s ∧ (s.act = 4 → 0 ≤ s.n ∧ s.n ≤ 4096) := by
 intro s hs
 obtain ⟨last, h⟩ := steps_pre f.body true (check_parts V.ok).2.2.2.1 s hs
 have hn := nodes_pre f.body s hs
 have := V.size
 exact ⟨stepOk_of h (by omega), settleOk_of h, fun a4 => ⟨((step_ok h).1.rep a4).1, ((step_ok h).1.rep a4).2.1⟩⟩
theorem Valid.nb : nbL f.body ≤ 8192 := by
 have h1 := nb_bds f.body true (check_parts V.ok).2.2.2.1
 have h2 := (check_parts V.ok).2.2.2.2
 unfold overB at h2
 simp at h2
 omega
end
theorem lay_kinds (l : List St) : ∀ a n e, ∀ x ∈ layL l a n e, x.kind = 2 ∨ x.kind = 3 ∨ x.kind = 4 ∨ x.kind = 5 := by
 induction l using Sts.ind with
 | h l ih =>
 have key : ∀ r : List St, (∀ x ∈ r, x ∈ l) → ∀ a n e, ∀ x ∈ layL r a n e, x.kind = 2 ∨ x.kind = 3 ∨ x.kind = 4 ∨ x.kind = 5 := by
  intro r
  induction r with
  | nil => intro _ a n e x hx; simp [layL] at hx
  | cons s r ihr =>
   intro hm a n e x hx
   have h1 := (ih s (hm s (List.mem_cons_self ..))).1
   have h2 := (ih s (hm s (List.mem_cons_self ..))).2
   rw [layL, List.mem_append, s.lay_eq] at hx
   rcases hx with hx | hx
   ·
    split at hx
    ·
     rw [List.mem_cons, List.mem_append] at hx
     rcases hx with rfl | hx | hx
     · exact .inr (.inl rfl)
     · exact h1 _ _ _ x hx
     · exact h2 _ _ _ x hx
    ·
     split at hx
     ·
      rw [List.mem_cons, List.mem_cons] at hx
      rcases hx with rfl | rfl | hx
      · exact .inr (.inr (.inl rfl))
      · exact .inr (.inr (.inr rfl))
      · exact h1 _ _ _ x hx
     ·
      rw [List.mem_singleton] at hx
      subst hx; exact .inl rfl
   · exact ihr (fun y hy => hm y (List.mem_cons_of_mem _ hy)) _ _ _ x hx
 exact key l (fun x h => h)
structure NodeOk' (f : Fl) (x : Nd) : Prop where
 kind : x.kind = 0 ∨ x.kind = 2 ∨ x.kind = 3 ∨ x.kind = 4 ∨ x.kind = 5
 step : x.kind ≠ 0 → 0 ≤ x.at_ ∧ (preL f.body)[x.at_.toNat]? = some (stAt f x.at_) ∧ StepOk f (stAt f x.at_) ∧ SettleOk (stAt f x.at_)
theorem Valid.node {f : Fl} (V : Valid f) {k : Int} (h0 : 0 ≤ k) (h1 : k < (cfgN f).length - 1) : (cfgN f)[k.toNat]? = some (ndAt (cfgN f) k) ∧ NodeOk' f (ndAt (cfgN f) k) := by
 obtain ⟨n, rfl⟩ := Int.eq_ofNat_of_zero_le h0
 have hlen := cfgN_len f V.plain
 have hget : (cfgN f)[n]? = some (ndAt (cfgN f) n) := by
  unfold ndAt; rw [Int.toNat_natCast, List.getElem?_eq_getElem (show n < (cfgN f).length by omega)]; rfl
 refine ⟨hget, ?_⟩
 generalize ndAt (cfgN f) n = x at hget
 unfold cfgN at hget
 cases n with
 | zero => simp at hget; subst hget; exact ⟨.inl rfl, fun h => absurd rfl h⟩
 | succ n =>
  rw [List.getElem?_cons_succ, List.getElem?_append_left (by rw [layL_len _ V.plain]; omega)] at hget
  have hx := List.mem_of_getElem? hget
  have hk := lay_kinds f.body _ _ _ x hx
  have hr := (lay_nums f.body V.plain 0 1 (1 + widL f.body)).range x hx
  refine ⟨.inr hk, fun _ => ⟨by omega, ?_⟩⟩
  obtain ⟨s, hs⟩ : ∃ s, (preL f.body)[x.at_.toNat]? = some s := ⟨_, List.getElem?_eq_getElem (by rw [preL_len]; omega)⟩
  have e : stAt f x.at_ = s := by unfold stAt; rw [hs]; rfl
  have hst := V.step s (List.mem_of_getElem? hs)
  rw [e]
  exact ⟨hs, hst.1, hst.2.1⟩
structure MInv (f : Fl) (j : Nat) (m : Mc) : Prop where
 inv : InV f.vars m.σ.vals
 time : 0 ≤ m.σ.time ∧ m.σ.time ≤ (j : Int) * 67108864
 outs : m.σ.outs.length ≤ j
 rd : ∀ k, 0 ≤ m.rd k ∧ m.rd k ≤ j
theorem exec1_inv {f : Fl} {hs : List Int} {s : St} {σ : Sg} {j : Nat} (hg : ∀ v ∈ f.vars, Good (v.low, v.high)) (ho : StepOk f s) (hset : SettleOk s) (hV : InV f.vars σ.vals) (ht : 0 ≤ σ.time ∧ σ.time ≤ (j : Int) * 67108864) (hol : σ.outs.length ≤ j) :
  InV f.vars (exec1 f hs s σ).vals ∧ (0 ≤ (exec1 f hs s σ).time ∧ (exec1 f hs s σ).time ≤ ((j + 1 : Nat) : Int) * 67108864) ∧ (exec1 f hs s σ).outs.length ≤ j + 1 := by
 have hc := ho.cost
 unfold exec1
 split
 · exact ⟨hV.set hg _ _, by dsimp only; omega, by dsimp only; omega⟩
 split
 · exact ⟨hV, by dsimp only; omega, by simp; omega⟩
 split
 · exact ⟨hV.set hg _ _, by dsimp only; omega, by dsimp only; omega⟩
 split
 ·
  rename_i a6
  refine ⟨hV, ?_, by dsimp only; omega⟩
  dsimp only
  rcases settle_cases s.bounds (σ.time + s.cost) with h | h
  · rw [h]; omega
  ·
   have := hset a6 _ h.1
   omega
 · exact ⟨hV, by dsimp only; omega, by dsimp only; omega⟩
theorem stepM_inv {f : Fl} {hs : List Int} {g : List Nd} {j : Nat} {m : Mc} (hg : ∀ v ∈ f.vars, Good (v.low, v.high)) (hn : NodeOk' f (ndAt g m.at_)) (h : MInv f j m) : MInv f (j + 1) (stepM f hs g m) := by
 obtain ⟨h1, h2, h3, h4⟩ := h
 have hup : ∀ k n, 0 ≤ n ∧ n ≤ (j : Int) + 1 → ∀ i, 0 ≤ updR m.rd k n i ∧ updR m.rd k n i ≤ ((j + 1 : Nat) : Int) := fun k n hn i => by
  have := h4 i
  unfold updR; split <;> omega
 have hrd : ∀ k, 0 ≤ m.rd k ∧ m.rd k ≤ ((j + 1 : Nat) : Int) := fun k => by have := h4 k; omega
 unfold stepM passN
 generalize hx : ndAt g m.at_ = x at hn ⊢
 split
 · exact ⟨h1, by dsimp only; omega, by dsimp only; omega, hrd⟩
 rename_i k0
 obtain ⟨_, _, ho, hset⟩ := hn.step k0
 have hc := ho.cost
 split
 ·
  obtain ⟨e1, e2, e3⟩ := exec1_inv (hs := hs) hg ho hset h1 h2 h3
  exact ⟨e1, e2, e3, hrd⟩
 split
 · exact ⟨h1, by dsimp only; omega, by dsimp only; omega, hup _ _ (by omega)⟩
 split
 · exact ⟨h1, by dsimp only; omega, by dsimp only; omega, hrd⟩
 ·
  refine ⟨h1, by dsimp only; omega, by dsimp only; omega, ?_⟩
  dsimp only
  split
  · exact hup _ _ (by have := h4 x.at_; omega)
  · exact hrd
theorem Valid.walk {f : Fl} (V : Valid f) (hs : List Int) (σ : Sg) : ∃ (K : Nat) (rd' : Int → Int), K ≤ 8193 ∧ Goes f hs (cfgN f) 0 ((cfgN f).length - 1) K ⟨0, σ, fun _ => 0⟩ ⟨((cfgN f).length : Int) - 1, exL f hs f.body σ, rd'⟩ := by
 have hlen := cfgN_len f V.plain
 have hG : CtxG (cfgN f) 1 (layL f.body 0 1 (1 + widL f.body)) := by
  intro i x hx
  have hi := (List.getElem?_eq_some_iff.1 hx).1
  unfold cfgN
  rw [show 1 + i = i + 1 by omega, List.getElem?_cons_succ, List.getElem?_append_left hi]; exact hx
 obtain ⟨k, rd', hgo, hk, _⟩ := sim_list (hs := hs) (g := cfgN f) f.body V.plain (fun s hs' a4 => ((V.step s hs').2.2 a4).1) 0 1 (1 + widL f.body) hG (fun i x hx => by rw [Nat.zero_add]; exact hx) σ (fun _ => 0)
 have := V.nb
 refine ⟨1 + k, rd', by omega, (Goes.one (m' := ⟨((if f.body.isEmpty then 1 + widL f.body else 1 : Nat) : Int), σ, fun _ => 0⟩) ?_ (by dsimp only; omega)).trans ?_⟩
 ·
  have h2 : ((if f.body.isEmpty then 1 + widL f.body else 1 : Nat) : Int) = 1 := by
   split
   ·
    rename_i h
    have : f.body = [] := by simpa using h
    rw [this]; rfl
   · rfl
  rw [h2]
  unfold stepM
  have : ndAt (cfgN f) 0 = ⟨0, -1, 1, -1⟩ := rfl
  rw [this]
  simp [passN]
 ·
  have e : ((1 + widL f.body : Nat) : Int) = ((cfgN f).length : Int) - 1 := by omega
  rw [← e]
  exact hgo.widen (by omega) (by omega)
end Go.Proofs.YtldhllpogdikdaaGreat
