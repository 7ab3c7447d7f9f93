/-
  Contracts and the mathematics that the proof needs. Nothing here is a claim.
-/
import Derived.Test.YtldhllpogdikdaaGreatKN1
namespace Go.Proofs.YtldhllpogdikdaaGreat
open Go.GL
theorem refSize_ok (l : List St) : ∀ (v : Value) (D : Nat → Prop) (w : World), SlR 10 RSt D w v l → ssize l ≤ 1000000 → Calls Tryz.prog 23 #[v] w (Ret fun r w' => r = .int .i64 (ssize l) ∧ Ext w w') := by
 induction l using Sts.ind with
 | h l ih =>
 intro v D w hl hsz
 have hlen := slen_ssize l
 obtain ⟨ao, cap, rfl⟩ := hl.form
 refine calls Tryz.func23 rfl [(0, .slice ao l.length cap)] 28 ⟨Nat.le_of_ble_eq_true rfl, Tryz.ntmps23⟩ (argsOk (Sub.of rfl)) ?_
 refine WC.sr (WO.a rfl rfl (WO.nr (WO.a rfl rfl (WO.nil (WX.next (WC.seq (WC.seq (WC.region ?_))))))))
 refine WO.a rfl rfl (WO.nil (WX.next (WC.block ?_)))
 refine WC.loop (σ := Nat) (fun i => [(0, .slice ao l.length cap), (3, .int .i64 (ssize (l.take i))), (4, .int .i64 i)]) (fun i => fun w' => i ≤ l.length ∧ Ext w w') (fun i => l.length - i) (0) (Sub.of rfl) (⟨Nat.zero_le _, Keep.refl _ _⟩) ?_
 rintro i w1 ⟨hi, hL1⟩
 show WC _ _ _ _ [(0, .slice ao l.length cap), (3, .int .i64 (ssize (l.take i))), (4, .int .i64 i)] _
 replace hl := hl.ext stable_st hL1
 refine WC.seq (WC.seq (WC.region (WO.mv rfl rfl (WO.mv rfl rfl (WO.o rfl (R.lenS rfl Tryz.runUnderlying24 rfl) (WO.o rfl (R.lss rfl rfl) (WO.nil (WX.next ?_))))))))
 refine WC.ite rfl (fun hlt => ?_) (fun hge => ?_)
 ·
  obtain ⟨s, he_s⟩ : ∃ x, l[i]? = some x := ⟨_, List.getElem?_eq_getElem (by omega)⟩
  have hm_s := List.mem_of_getElem? he_s
  obtain ⟨b_s, o_s, c_s, ha_s, _, hc_s, hR_s⟩ := hl.at he_s
  have h1_s := RSt.one hR_s
  obtain ⟨v1_s, v2_s, v3_s, v4_s, rfl, hk_s, ht_s, hs_s, hb_s⟩ := hR_s.get
  obtain ⟨a1_s, n1_s, rfl⟩ := hk_s.form
  obtain ⟨a2_s, n2_s, rfl⟩ := ht_s.form
  obtain ⟨a3_s, n3_s, rfl⟩ := hs_s.form
  obtain ⟨a4_s, n4_s, rfl⟩ := hb_s.form
  have hlt_s : b_s < _ := World.block_lt_of_cell? _ _ (hc_s 0 _ rfl)
  have hsp := ssize_split he_s
  have hse := s.size_eq
  refine WC.skip (WX.next (WC.seq (WC.block (WC.draw (fun q => Ext w1 q) [] (by kernel_rfl) (fun wd1 hD _ => ?_)))))
  refine WD.takeW 0 rfl (by kernel_rfl) rfl rfl rfl (fun w1 => R.move rfl) (WD.takeW 1 rfl (by kernel_rfl) rfl rfl rfl (fun w1 => R.add rfl rfl (wrap_i64_in (by omega))) (WD.takeW 2 rfl (by kernel_rfl) rfl rfl rfl (fun w1 => R.move rfl) (WD.takeW 3 rfl (by kernel_rfl) rfl rfl rfl (fun w1 => R.move rfl) (WD.takeW 4 rfl (by kernel_rfl) rfl rfl rfl (fun w1 => R.indexS Tryz.runUnderlying24 Tryz.sizeOf86 rfl rfl ha_s (by omega)) (WD.takeW 5 rfl (by kernel_rfl) rfl rfl rfl (fun w1 => R.fieldAddr Tryz.runUnderlying86 rfl Tryz.sizeOf24 rfl) (WD.take 6 rfl (by kernel_rfl) rfl rfl rfl hD (fun w1 hw1 => R.load Tryz.isAgg24 rfl (hw1.cells hc_s (fun h => h) 7 _ rfl)) ?_))))))
  refine WD.takeW 9 rfl (by kernel_rfl) rfl rfl rfl (fun w1 => R.move rfl) (WD.takeW 10 rfl (by kernel_rfl) rfl rfl rfl (fun w1 => R.move rfl) (WD.takeW 11 rfl (by kernel_rfl) rfl rfl rfl (fun w1 => R.indexS Tryz.runUnderlying24 Tryz.sizeOf86 rfl rfl ha_s (by omega)) (WD.takeW 12 rfl (by kernel_rfl) rfl rfl rfl (fun w1 => R.fieldAddr Tryz.runUnderlying86 rfl Tryz.sizeOf24 rfl) (WD.take 13 rfl (by kernel_rfl) rfl rfl rfl hD (fun w1 hw1 => R.load Tryz.isAgg24 rfl (hw1.cells hc_s (fun h => h) 8 _ rfl)) (WD.call 7 rfl (by kernel_rfl) rfl rfl rfl (F.call (vs := [_]) Tryz.call23 rfl) ((ih s hm_s).1 _ D _ (ht_s.ext stable_st hD) (by omega)) ?_)))))
  rintro _ wz2 ⟨rfl, hz2⟩
  replace hD := hD.ext hz2
  refine ⟨fun _ => hD, ?_⟩
  refine WD.takeW 8 rfl (by kernel_rfl) rfl rfl rfl (fun w1 => R.add rfl rfl (wrap_i64_in (by omega))) (WD.call 14 rfl (by kernel_rfl) rfl rfl rfl (F.call (vs := [_]) Tryz.call23 rfl) ((ih s hm_s).2 _ D _ (hs_s.ext stable_st hD) (by omega)) ?_)
  rintro _ wz3 ⟨rfl, hz3⟩
  replace hD := hD.ext hz3
  refine ⟨fun _ => hD, ?_⟩
  refine WD.takeW 15 rfl (by kernel_rfl) rfl rfl rfl (fun w1 => R.add rfl rfl (wrap_i64_in (by omega))) (WD.takeW 16 rfl (by kernel_rfl) rfl rfl rfl (fun w1 => R.assign rfl) (WD.done (by kernel_rfl) ?_ _))
  replace hl := hl.ext stable_st hD
  replace hL1 := hL1.ext hD
  replace hc_s := hD.cells hc_s (fun h => h)
  replace hk_s := hk_s.ext stable_tm hD
  replace ht_s := ht_s.ext stable_st hD
  replace hs_s := hs_s.ext stable_st hD
  replace hb_s := hb_s.ext stable_int hD
  refine WX.blockN (WX.next (WC.region (WO.mv rfl rfl (WO.o rfl (R.add rfl rfl (wrap_i64_in (by omega))) (WO.a rfl rfl (WO.nil (WX.back (i + 1) (Sub.cons rfl (Sub.cons (slotI rfl (by rw [ssize_take he_s]; omega)) (Sub.of rfl))) (⟨by omega, hL1⟩) (by first | omega | (dsimp only; omega)))))))))
 ·
  have : i = l.length := by omega
  subst this
  refine WC.exit (WX.thenE (WX.thenE (WX.hit (WX.next (WC.seq (WC.region (WO.mv rfl rfl (WO.a rfl rfl (WO.nil (WX.next (WC.ret ?_)))))))))))
  refine WX.ret1 Tryz.results23 rfl ⟨_, rfl, by rw [List.take_length], hL1⟩
theorem refTermNodes_ok (t : Tm) : ∀ (cs : List Value) (D : Nat → Prop) (w : World), RTm D w t cs → t.nodes ≤ 1000000 → Calls Tryz.prog 109 #[.agg cs.toArray] w (Ret fun r w' => r = .int .i64 t.nodes ∧ Ext w w') := by
 induction t using Tm.ind with
 | h t ih =>
 intro cs D w ht hsz
 have hlen := tlen_le t.kids
 have hse := t.nodes_eq
 obtain ⟨v, rfl, hk⟩ := ht.get
 obtain ⟨ao, cap, rfl⟩ := hk.form
 have hE := Keep.refl (fun _ => False) w
 refine calls Tryz.func109 rfl [(0, .agg #[.int .i64 t.op, .int .i64 t.n, .slice ao t.kids.length cap])] 21 ⟨Nat.le_of_ble_eq_true rfl, Tryz.ntmps109⟩ (argsOk (Sub.of rfl)) ?_
 refine WC.sr (WO.mem rfl rfl rfl (M.box rfl rfl) ?_)
 rintro _ w_b ⟨b, rfl, hg_b, hs_b, hB_b, hk_b⟩
 have hge_b : _ ≤ b := Nat.le_trans hE.size (Nat.le_of_eq hg_b.symm)
 replace hE := hE.ext hk_b
 replace hk := hk.ext stable_tm hk_b
 refine WO.a rfl rfl (WO.nr (WO.a rfl rfl (WO.nil (WX.next (WC.seq (WC.seq (WC.region ?_)))))))
 refine WO.a rfl rfl (WO.nil (WX.next (WC.block ?_)))
 refine WC.loop (σ := Nat) (fun i => [(1, .pointer (some ⟨b, 0, none⟩)), (3, .int .i64 (1 + tnodes (t.kids.take i) : Nat)), (4, .int .i64 i)]) (fun i => fun w' => i ≤ t.kids.length ∧ Ext w_b w') (fun i => t.kids.length - i) (0) (Sub.of rfl) (⟨Nat.zero_le _, Keep.refl _ _⟩) ?_
 rintro i w1 ⟨hi, hL1⟩
 show WC _ _ _ _ [(1, .pointer (some ⟨b, 0, none⟩)), (3, .int .i64 (1 + tnodes (t.kids.take i) : Nat)), (4, .int .i64 i)] _
 replace hE := hE.ext hL1
 replace hk := hk.ext stable_tm hL1
 replace hB_b := hL1.blk hB_b (fun h => h)
 refine WC.seq (WC.seq (WC.region (WO.mv rfl rfl (WO.o rfl (R.fieldAddr Tryz.runUnderlying84 rfl Tryz.sizeOf82 rfl) (WO.o rfl (R.load Tryz.isAgg82 rfl (hB_b.cells 2 _ rfl)) (WO.o rfl (R.lenS rfl Tryz.runUnderlying82 rfl) (WO.o rfl (R.lss rfl rfl) (WO.nil (WX.next ?_)))))))))
 refine WC.ite rfl (fun hlt => ?_) (fun hge => ?_)
 ·
  obtain ⟨k, he_k⟩ : ∃ x, t.kids[i]? = some x := ⟨_, List.getElem?_eq_getElem (by omega)⟩
  have hm_k := List.mem_of_getElem? he_k
  obtain ⟨b_k, o_k, c_k, ha_k, _, hc_k, hR_k⟩ := hk.at he_k
  have h1_k := RTm.one hR_k
  obtain ⟨v1_k, rfl, hk_k⟩ := hR_k.get
  obtain ⟨a1_k, n1_k, rfl⟩ := hk_k.form
  have hlt_k : b_k < _ := World.block_lt_of_cell? _ _ (hc_k 0 _ rfl)
  have hsp := tnodes_split he_k
  refine WC.skip (WX.next (WC.seq (WC.block (WC.region (WO.mv rfl rfl (WO.o rfl (R.fieldAddr Tryz.runUnderlying84 rfl Tryz.sizeOf82 rfl) (WO.o rfl (R.load Tryz.isAgg82 rfl (hB_b.cells 2 _ rfl)) (WO.mv rfl rfl (WO.o rfl (R.indexS Tryz.runUnderlying82 Tryz.sizeOf84 rfl rfl ha_k (by omega)) (WO.o rfl (R.loadK Tryz.isAgg84 Tryz.sizeOf84 rfl (by rfl) hc_k) (WO.call rfl rfl rfl (F.call (vs := [_]) Tryz.call109 rfl) (ih k hm_k _ D _ (RTm.put hk_k) (by omega)) ?_)))))))))))
  rintro _ wz1 ⟨rfl, hz1⟩
  replace hE := hE.ext hz1
  replace hk := hk.ext stable_tm hz1
  replace hB_b := hz1.blk hB_b (fun h => h)
  replace hL1 := hL1.ext hz1
  replace hc_k := hz1.cells hc_k (fun h => h)
  replace hk_k := hk_k.ext stable_tm hz1
  refine WO.o rfl (R.add rfl rfl (wrap_i64_in (by omega))) (WO.a rfl rfl (WO.nil (WX.blockN (WX.next (WC.region ?_)))))
  refine WO.mv rfl rfl (WO.o rfl (R.add rfl rfl (wrap_i64_in (by omega))) (WO.a rfl rfl (WO.nil (WX.back (i + 1) (Sub.cons rfl (Sub.cons (slotI rfl (by rw [tnodes_take he_k]; omega)) (Sub.of rfl))) (⟨by omega, hL1⟩) (by first | omega | (dsimp only; omega))))))
 ·
  have : i = t.kids.length := by omega
  subst this
  refine WC.exit (WX.thenE (WX.thenE (WX.hit (WX.next (WC.seq (WC.region (WO.mv rfl rfl (WO.a rfl rfl (WO.nil (WX.next (WC.ret ?_)))))))))))
  refine WX.ret1 Tryz.results109 rfl ⟨_, rfl, by rw [List.take_length, t.nodes_eq], hE⟩
theorem refTermDepth_ok (t : Tm) : ∀ (cs : List Value) (D : Nat → Prop) (w : World), RTm D w t cs → t.nodes ≤ 1000000 → Calls Tryz.prog 110 #[.agg cs.toArray] w (Ret fun r w' => r = .int .i64 t.depth ∧ Ext w w') := by
 induction t using Tm.ind with
 | h t ih =>
 intro cs D w ht hsz
 have hlen := tlen_le t.kids
 have hse := t.nodes_eq
 obtain ⟨v, rfl, hk⟩ := ht.get
 obtain ⟨ao, cap, rfl⟩ := hk.form
 have hE := Keep.refl (fun _ => False) w
 refine calls Tryz.func110 rfl [(0, .agg #[.int .i64 t.op, .int .i64 t.n, .slice ao t.kids.length cap])] 25 ⟨Nat.le_of_ble_eq_true rfl, Tryz.ntmps110⟩ (argsOk (Sub.of rfl)) ?_
 refine WC.sr (WO.mem rfl rfl rfl (M.box rfl rfl) ?_)
 rintro _ w_b ⟨b, rfl, hg_b, hs_b, hB_b, hk_b⟩
 have hge_b : _ ≤ b := Nat.le_trans hE.size (Nat.le_of_eq hg_b.symm)
 replace hE := hE.ext hk_b
 replace hk := hk.ext stable_tm hk_b
 refine WO.a rfl rfl (WO.nr (WO.a rfl rfl (WO.nil (WX.next (WC.seq (WC.seq (WC.region ?_)))))))
 refine WO.a rfl rfl (WO.nil (WX.next (WC.block ?_)))
 refine WC.loop (σ := Nat) (fun i => [(1, .pointer (some ⟨b, 0, none⟩)), (3, .int .i64 (tdepth (t.kids.take i) : Nat)), (4, .int .i64 i)]) (fun i => fun w' => i ≤ t.kids.length ∧ Ext w_b w') (fun i => t.kids.length - i) (0) (Sub.of rfl) (⟨Nat.zero_le _, Keep.refl _ _⟩) ?_
 rintro i w1 ⟨hi, hL1⟩
 show WC _ _ _ _ [(1, .pointer (some ⟨b, 0, none⟩)), (3, .int .i64 (tdepth (t.kids.take i) : Nat)), (4, .int .i64 i)] _
 replace hE := hE.ext hL1
 replace hk := hk.ext stable_tm hL1
 replace hB_b := hL1.blk hB_b (fun h => h)
 refine WC.seq (WC.seq (WC.region (WO.mv rfl rfl (WO.o rfl (R.fieldAddr Tryz.runUnderlying84 rfl Tryz.sizeOf82 rfl) (WO.o rfl (R.load Tryz.isAgg82 rfl (hB_b.cells 2 _ rfl)) (WO.o rfl (R.lenS rfl Tryz.runUnderlying82 rfl) (WO.o rfl (R.lss rfl rfl) (WO.nil (WX.next ?_)))))))))
 refine WC.ite rfl (fun hlt => ?_) (fun hge => ?_)
 ·
  obtain ⟨k, he_k⟩ : ∃ x, t.kids[i]? = some x := ⟨_, List.getElem?_eq_getElem (by omega)⟩
  have hm_k := List.mem_of_getElem? he_k
  obtain ⟨b_k, o_k, c_k, ha_k, _, hc_k, hR_k⟩ := hk.at he_k
  have h1_k := RTm.one hR_k
  obtain ⟨v1_k, rfl, hk_k⟩ := hR_k.get
  obtain ⟨a1_k, n1_k, rfl⟩ := hk_k.form
  have hlt_k : b_k < _ := World.block_lt_of_cell? _ _ (hc_k 0 _ rfl)
  have hsp := tnodes_split he_k
  have htk := tdepth_take he_k
  refine WC.skip (WX.next (WC.seq (WC.block (WC.seq (WC.region (WO.o rfl (R.fieldAddr Tryz.runUnderlying84 rfl Tryz.sizeOf82 rfl) (WO.o rfl (R.load Tryz.isAgg82 rfl (hB_b.cells 2 _ rfl)) (WO.mv rfl rfl (WO.o rfl (R.indexS Tryz.runUnderlying82 Tryz.sizeOf84 rfl rfl ha_k (by omega)) (WO.o rfl (R.loadK Tryz.isAgg84 Tryz.sizeOf84 rfl (by rfl) hc_k) (WO.call rfl rfl rfl (F.call (vs := [_]) Tryz.call110 rfl) (ih k hm_k _ D _ (RTm.put hk_k) (by omega)) ?_)))))))))))
  rintro _ wz1 ⟨rfl, hz1⟩
  replace hE := hE.ext hz1
  replace hk := hk.ext stable_tm hz1
  replace hB_b := hz1.blk hB_b (fun h => h)
  replace hL1 := hL1.ext hz1
  replace hc_k := hz1.cells hc_k (fun h => h)
  replace hk_k := hk_k.ext stable_tm hz1
  refine WO.a rfl rfl (WO.nr (WO.mv rfl rfl (WO.mv rfl rfl (WO.o rfl (R.gtr rfl rfl) (WO.nil (WX.next ?_))))))
  refine WC.ite rfl (fun hgt => ?_) (fun hle => ?_)
  ·
   refine WC.region (WO.mv rfl rfl (WO.a rfl rfl (WO.nil (WX.blockN (WX.next (WC.region ?_))))))
   refine WO.mv rfl rfl (WO.o rfl (R.add rfl rfl (wrap_i64_in (by omega))) (WO.a rfl rfl (WO.nil (WX.back (i + 1) (Sub.cons rfl (Sub.cons (slotI rfl (by rw [htk]; omega)) (Sub.of rfl))) (⟨by omega, hL1⟩) (by first | omega | (dsimp only; omega))))))
  · refine WC.skip (WX.blockN (WX.next (WC.region (WO.mv rfl rfl (WO.o rfl (R.add rfl rfl (wrap_i64_in (by omega))) (WO.a rfl rfl (WO.nil (WX.back (i + 1) (Sub.cons rfl (Sub.cons (slotI rfl (by rw [htk]; omega)) (Sub.of rfl))) (⟨by omega, hL1⟩) (by first | omega | (dsimp only; omega))))))))))
 ·
  have : i = t.kids.length := by omega
  subst this
  have hdp := tdepth_nodes t.kids
  rw [List.take_length]
  refine WC.exit (WX.thenE (WX.thenE (WX.hit (WX.next (WC.seq (WC.region (WO.mv rfl rfl (WO.o rfl (R.add rfl rfl (wrap_i64_in (by omega))) (WO.a rfl rfl (WO.nil (WX.next (WC.ret ?_))))))))))))
  refine WX.ret1 Tryz.results110 rfl ⟨_, rfl, by rw [t.depth_eq]; rfl, hE⟩
theorem refNodes_ok (l : List St) : ∀ (v : Value) (D : Nat → Prop) (w : World), SlR 10 RSt D w v l → snodes l ≤ 1000000 → Calls Tryz.prog 108 #[v] w (Ret fun r w' => r = .int .i64 (snodes l) ∧ Ext w w') := by
 induction l using Sts.ind with
 | h l ih =>
 intro v D w hl hsz
 have hlen := slen_le l
 obtain ⟨ao, cap, rfl⟩ := hl.form
 refine calls Tryz.func108 rfl [(0, .slice ao l.length cap)] 35 ⟨Nat.le_of_ble_eq_true rfl, Tryz.ntmps108⟩ (argsOk (Sub.of rfl)) ?_
 refine WC.sr (WO.a rfl rfl (WO.nr (WO.a rfl rfl (WO.nil (WX.next (WC.seq (WC.seq (WC.region ?_))))))))
 refine WO.a rfl rfl (WO.nil (WX.next (WC.block ?_)))
 refine WC.loop (σ := Nat) (fun i => [(0, .slice ao l.length cap), (3, .int .i64 (snodes (l.take i))), (4, .int .i64 i)]) (fun i => fun w' => i ≤ l.length ∧ Ext w w') (fun i => l.length - i) (0) (Sub.of rfl) (⟨Nat.zero_le _, Keep.refl _ _⟩) ?_
 rintro i w1 ⟨hi, hL1⟩
 show WC _ _ _ _ [(0, .slice ao l.length cap), (3, .int .i64 (snodes (l.take i))), (4, .int .i64 i)] _
 replace hl := hl.ext stable_st hL1
 refine WC.seq (WC.seq (WC.region (WO.mv rfl rfl (WO.mv rfl rfl (WO.o rfl (R.lenS rfl Tryz.runUnderlying24 rfl) (WO.o rfl (R.lss rfl rfl) (WO.nil (WX.next ?_))))))))
 refine WC.ite rfl (fun hlt => ?_) (fun hge => ?_)
 ·
  obtain ⟨s, he_s⟩ : ∃ x, l[i]? = some x := ⟨_, List.getElem?_eq_getElem (by omega)⟩
  have hm_s := List.mem_of_getElem? he_s
  obtain ⟨b_s, o_s, c_s, ha_s, _, hc_s, hR_s⟩ := hl.at he_s
  have h1_s := RSt.one hR_s
  obtain ⟨v1_s, v2_s, v3_s, v4_s, rfl, hk_s, ht_s, hs_s, hb_s⟩ := hR_s.get
  obtain ⟨a1_s, n1_s, rfl⟩ := hk_s.form
  obtain ⟨a2_s, n2_s, rfl⟩ := ht_s.form
  obtain ⟨a3_s, n3_s, rfl⟩ := hs_s.form
  obtain ⟨a4_s, n4_s, rfl⟩ := hb_s.form
  have hlt_s : b_s < _ := World.block_lt_of_cell? _ _ (hc_s 0 _ rfl)
  have hsp := snodes_split he_s
  have hse := s.nodes_eq
  refine WC.skip (WX.next (WC.seq (WC.block (WC.draw (fun q => Ext w1 q) [] (by kernel_rfl) (fun wd1 hD _ => ?_)))))
  refine WD.takeW 0 rfl (by kernel_rfl) rfl rfl rfl (fun w1 => R.move rfl) (WD.takeW 1 rfl (by kernel_rfl) rfl rfl rfl (fun w1 => R.add rfl rfl (wrap_i64_in (by omega))) (WD.takeW 2 rfl (by kernel_rfl) rfl rfl rfl (fun w1 => R.move rfl) (WD.takeW 3 rfl (by kernel_rfl) rfl rfl rfl (fun w1 => R.move rfl) (WD.takeW 4 rfl (by kernel_rfl) rfl rfl rfl (fun w1 => R.indexS Tryz.runUnderlying24 Tryz.sizeOf86 rfl rfl ha_s (by omega)) (WD.takeW 5 rfl (by kernel_rfl) rfl rfl rfl (fun w1 => R.fieldAddr Tryz.runUnderlying86 rfl Tryz.sizeOf84 rfl) (WD.take 6 rfl (by kernel_rfl) rfl rfl rfl hD (fun w1 hw1 => R.loadK Tryz.isAgg84 Tryz.sizeOf84 rfl (by rfl) ((hw1.cells hc_s (fun h => h)).sub 4 3)) ?_))))))
  refine WD.takeW 9 rfl (by kernel_rfl) rfl rfl rfl (fun w1 => R.move rfl) (WD.takeW 10 rfl (by kernel_rfl) rfl rfl rfl (fun w1 => R.move rfl) (WD.takeW 11 rfl (by kernel_rfl) rfl rfl rfl (fun w1 => R.indexS Tryz.runUnderlying24 Tryz.sizeOf86 rfl rfl ha_s (by omega)) (WD.takeW 12 rfl (by kernel_rfl) rfl rfl rfl (fun w1 => R.fieldAddr Tryz.runUnderlying86 rfl Tryz.sizeOf24 rfl) (WD.take 13 rfl (by kernel_rfl) rfl rfl rfl hD (fun w1 hw1 => R.load Tryz.isAgg24 rfl (hw1.cells hc_s (fun h => h) 7 _ rfl)) (WD.takeW 16 rfl (by kernel_rfl) rfl rfl rfl (fun w1 => R.move rfl) (WD.takeW 17 rfl (by kernel_rfl) rfl rfl rfl (fun w1 => R.move rfl) ?_))))))
  refine WD.takeW 18 rfl (by kernel_rfl) rfl rfl rfl (fun w1 => R.indexS Tryz.runUnderlying24 Tryz.sizeOf86 rfl rfl ha_s (by omega)) (WD.takeW 19 rfl (by kernel_rfl) rfl rfl rfl (fun w1 => R.fieldAddr Tryz.runUnderlying86 rfl Tryz.sizeOf24 rfl) (WD.take 20 rfl (by kernel_rfl) rfl rfl rfl hD (fun w1 hw1 => R.load Tryz.isAgg24 rfl (hw1.cells hc_s (fun h => h) 8 _ rfl)) (WD.call 7 rfl (by kernel_rfl) rfl rfl rfl (F.call (vs := [_]) Tryz.call109 rfl) (refTermNodes_ok s.term _ D _ (RTm.put (hk_s.ext stable_tm hD)) (by omega)) ?_)))
  rintro _ wz2 ⟨rfl, hz2⟩
  replace hD := hD.ext hz2
  refine ⟨fun _ => hD, ?_⟩
  refine WD.takeW 8 rfl (by kernel_rfl) rfl rfl rfl (fun w1 => R.add rfl rfl (wrap_i64_in (by omega))) (WD.call 14 rfl (by kernel_rfl) rfl rfl rfl (F.call (vs := [_]) Tryz.call108 rfl) ((ih s hm_s).1 _ D _ (ht_s.ext stable_st hD) (by omega)) ?_)
  rintro _ wz3 ⟨rfl, hz3⟩
  replace hD := hD.ext hz3
  refine ⟨fun _ => hD, ?_⟩
  refine WD.takeW 15 rfl (by kernel_rfl) rfl rfl rfl (fun w1 => R.add rfl rfl (wrap_i64_in (by omega))) (WD.call 21 rfl (by kernel_rfl) rfl rfl rfl (F.call (vs := [_]) Tryz.call108 rfl) ((ih s hm_s).2 _ D _ (hs_s.ext stable_st hD) (by omega)) ?_)
  rintro _ wz4 ⟨rfl, hz4⟩
  replace hD := hD.ext hz4
  refine ⟨fun _ => hD, ?_⟩
  refine WD.takeW 22 rfl (by kernel_rfl) rfl rfl rfl (fun w1 => R.add rfl rfl (wrap_i64_in (by omega))) (WD.takeW 23 rfl (by kernel_rfl) rfl rfl rfl (fun w1 => R.assign rfl) (WD.done (by kernel_rfl) ?_ _))
  replace hl := hl.ext stable_st hD
  replace hL1 := hL1.ext hD
  replace hc_s := hD.cells hc_s (fun h => h)
  replace hk_s := hk_s.ext stable_tm hD
  replace ht_s := ht_s.ext stable_st hD
  replace hs_s := hs_s.ext stable_st hD
  replace hb_s := hb_s.ext stable_int hD
  refine WX.blockN (WX.next (WC.region (WO.mv rfl rfl (WO.o rfl (R.add rfl rfl (wrap_i64_in (by omega))) (WO.a rfl rfl (WO.nil (WX.back (i + 1) (Sub.cons rfl (Sub.cons (slotI rfl (by rw [snodes_take he_s]; omega)) (Sub.of rfl))) (⟨by omega, hL1⟩) (by first | omega | (dsimp only; omega)))))))))
 ·
  have : i = l.length := by omega
  subst this
  refine WC.exit (WX.thenE (WX.thenE (WX.hit (WX.next (WC.seq (WC.region (WO.mv rfl rfl (WO.a rfl rfl (WO.nil (WX.next (WC.ret ?_)))))))))))
  refine WX.ret1 Tryz.results108 rfl ⟨_, rfl, by rw [List.take_length], hL1⟩
theorem refStepDepth_ok (l : List St) : ∀ (v : Value) (D : Nat → Prop) (w : World), SlR 10 RSt D w v l → snodes l ≤ 1000000 → Calls Tryz.prog 111 #[v] w (Ret fun r w' => r = .int .i64 (sdepth l) ∧ Ext w w') := by
 induction l using Sts.ind with
 | h l ih =>
 intro v D w hl hsz
 have hlen := slen_le l
 obtain ⟨ao, cap, rfl⟩ := hl.form
 refine calls Tryz.func111 rfl [(0, .slice ao l.length cap)] 36 ⟨Nat.le_of_ble_eq_true rfl, Tryz.ntmps111⟩ (argsOk (Sub.of rfl)) ?_
 refine WC.sr (WO.a rfl rfl (WO.nr (WO.a rfl rfl (WO.nil (WX.next (WC.seq (WC.seq (WC.region ?_))))))))
 refine WO.a rfl rfl (WO.nil (WX.next (WC.block ?_)))
 refine WC.loop (σ := Nat) (fun i => [(0, .slice ao l.length cap), (3, .int .i64 (sdepth (l.take i))), (4, .int .i64 i)]) (fun i => fun w' => i ≤ l.length ∧ Ext w w') (fun i => l.length - i) (0) (Sub.of rfl) (⟨Nat.zero_le _, Keep.refl _ _⟩) ?_
 rintro i w1 ⟨hi, hL1⟩
 show WC _ _ _ _ [(0, .slice ao l.length cap), (3, .int .i64 (sdepth (l.take i))), (4, .int .i64 i)] _
 replace hl := hl.ext stable_st hL1
 refine WC.seq (WC.seq (WC.region (WO.mv rfl rfl (WO.mv rfl rfl (WO.o rfl (R.lenS rfl Tryz.runUnderlying24 rfl) (WO.o rfl (R.lss rfl rfl) (WO.nil (WX.next ?_))))))))
 refine WC.ite rfl (fun hlt => ?_) (fun hge => ?_)
 ·
  obtain ⟨s, he_s⟩ : ∃ x, l[i]? = some x := ⟨_, List.getElem?_eq_getElem (by omega)⟩
  have hm_s := List.mem_of_getElem? he_s
  obtain ⟨b_s, o_s, c_s, ha_s, _, hc_s, hR_s⟩ := hl.at he_s
  have h1_s := RSt.one hR_s
  obtain ⟨v1_s, v2_s, v3_s, v4_s, rfl, hk_s, ht_s, hs_s, hb_s⟩ := hR_s.get
  obtain ⟨a1_s, n1_s, rfl⟩ := hk_s.form
  obtain ⟨a2_s, n2_s, rfl⟩ := ht_s.form
  obtain ⟨a3_s, n3_s, rfl⟩ := hs_s.form
  obtain ⟨a4_s, n4_s, rfl⟩ := hb_s.form
  have hlt_s : b_s < _ := World.block_lt_of_cell? _ _ (hc_s 0 _ rfl)
  have hsp := snodes_split he_s
  have hse := s.nodes_eq
  have htk := sdepth_take he_s
  have hde := s.depth_eq
  have hd1 := sdepth_nodes s.thn
  have hd2 := sdepth_nodes s.els
  refine WC.skip (WX.next (WC.seq (WC.block (WC.seq (WC.region (WO.mv rfl rfl (WO.mv rfl rfl (WO.o rfl (R.indexS Tryz.runUnderlying24 Tryz.sizeOf86 rfl rfl ha_s (by omega)) (WO.o rfl (R.fieldAddr Tryz.runUnderlying86 rfl Tryz.sizeOf24 rfl) (WO.o rfl (R.load Tryz.isAgg24 rfl (hc_s 7 _ rfl)) (WO.call rfl rfl rfl (F.call (vs := [_]) Tryz.call111 rfl) ((ih s hm_s).1 _ D _ ht_s (by omega)) ?_)))))))))))
  rintro _ wz1 ⟨rfl, hz1⟩
  replace hl := hl.ext stable_st hz1
  replace hL1 := hL1.ext hz1
  replace hc_s := hz1.cells hc_s (fun h => h)
  replace hk_s := hk_s.ext stable_tm hz1
  replace ht_s := ht_s.ext stable_st hz1
  replace hs_s := hs_s.ext stable_st hz1
  replace hb_s := hb_s.ext stable_int hz1
  refine WO.o rfl (R.add rfl rfl (wrap_i64_in (by omega))) (WO.a rfl rfl (WO.nr (WO.mv rfl rfl (WO.mv rfl rfl (WO.o rfl (R.indexS Tryz.runUnderlying24 Tryz.sizeOf86 rfl rfl ha_s (by omega)) (WO.o rfl (R.fieldAddr Tryz.runUnderlying86 rfl Tryz.sizeOf24 rfl) (WO.o rfl (R.load Tryz.isAgg24 rfl (hc_s 8 _ rfl)) (WO.call rfl rfl rfl (F.call (vs := [_]) Tryz.call111 rfl) ((ih s hm_s).2 _ D _ hs_s (by omega)) ?_))))))))
  rintro _ wz2 ⟨rfl, hz2⟩
  replace hl := hl.ext stable_st hz2
  replace hL1 := hL1.ext hz2
  replace hc_s := hz2.cells hc_s (fun h => h)
  replace hk_s := hk_s.ext stable_tm hz2
  replace ht_s := ht_s.ext stable_st hz2
  replace hs_s := hs_s.ext stable_st hz2
  replace hb_s := hb_s.ext stable_int hz2
  refine WO.o rfl (R.add rfl rfl (wrap_i64_in (by omega))) (WO.a rfl rfl (WO.nil (WX.next (WC.seq (WC.seq (WC.region ?_))))))
  refine WO.mv rfl rfl (WO.mv rfl rfl (WO.o rfl (R.gtr rfl rfl) (WO.nil (WX.next ?_))))
  refine WC.ite rfl (fun h1 => ?_) (fun h1 => ?_)
  ·
   refine WC.region (WO.mv rfl rfl (WO.a rfl rfl (WO.nr (WO.mv rfl rfl (WO.mv rfl rfl (WO.o rfl (R.gtr rfl rfl) (WO.nil (WX.next ?_))))))))
   refine WC.ite rfl (fun h2 => ?_) (fun h2 => ?_)
   ·
    refine WC.region (WO.mv rfl rfl (WO.a rfl rfl (WO.nil (WX.blockN (WX.next (WC.region ?_))))))
    refine WO.mv rfl rfl (WO.o rfl (R.add rfl rfl (wrap_i64_in (by omega))) (WO.a rfl rfl (WO.nil (WX.back (i + 1) (Sub.cons rfl (Sub.cons (slotI rfl (by rw [htk]; omega)) (Sub.of rfl))) (⟨by omega, hL1⟩) (by first | omega | (dsimp only; omega))))))
   · refine WC.skip (WX.blockN (WX.next (WC.region (WO.mv rfl rfl (WO.o rfl (R.add rfl rfl (wrap_i64_in (by omega))) (WO.a rfl rfl (WO.nil (WX.back (i + 1) (Sub.cons rfl (Sub.cons (slotI rfl (by rw [htk]; omega)) (Sub.of rfl))) (⟨by omega, hL1⟩) (by first | omega | (dsimp only; omega))))))))))
  ·
   refine WC.ks (WO.mv rfl rfl (WO.mv rfl rfl (WO.o rfl (R.gtr rfl rfl) (WO.nil (WX.next ?_)))))
   refine WC.ite rfl (fun h2 => ?_) (fun h2 => ?_)
   ·
    refine WC.region (WO.mv rfl rfl (WO.a rfl rfl (WO.nil (WX.blockN (WX.next (WC.region ?_))))))
    refine WO.mv rfl rfl (WO.o rfl (R.add rfl rfl (wrap_i64_in (by omega))) (WO.a rfl rfl (WO.nil (WX.back (i + 1) (Sub.cons rfl (Sub.cons (slotI rfl (by rw [htk]; omega)) (Sub.of rfl))) (⟨by omega, hL1⟩) (by first | omega | (dsimp only; omega))))))
   · refine WC.skip (WX.blockN (WX.next (WC.region (WO.mv rfl rfl (WO.o rfl (R.add rfl rfl (wrap_i64_in (by omega))) (WO.a rfl rfl (WO.nil (WX.back (i + 1) (Sub.cons rfl (Sub.cons (slotI rfl (by rw [htk]; omega)) (Sub.of rfl))) (⟨by omega, hL1⟩) (by first | omega | (dsimp only; omega))))))))))
 ·
  have : i = l.length := by omega
  subst this
  refine WC.exit (WX.thenE (WX.thenE (WX.hit (WX.next (WC.seq (WC.region (WO.mv rfl rfl (WO.a rfl rfl (WO.nil (WX.next (WC.ret ?_)))))))))))
  refine WX.ret1 Tryz.results111 rfl ⟨_, rfl, by rw [List.take_length], hL1⟩
theorem refTermsDeep_ok (l : List St) : ∀ (v : Value) (D : Nat → Prop) (w : World), SlR 10 RSt D w v l → snodes l ≤ 1000000 → Calls Tryz.prog 112 #[v] w (Ret fun r w' => r = .bool (stdeep l) ∧ Ext w w') := by
 induction l using Sts.ind with
 | h l ih =>
 intro v D w hl hsz
 have hlen := slen_le l
 obtain ⟨ao, cap, rfl⟩ := hl.form
 refine calls Tryz.func112 rfl [(0, .slice ao l.length cap)] 33 ⟨Nat.le_of_ble_eq_true rfl, Tryz.ntmps112⟩ (argsOk (Sub.of rfl)) ?_
 refine WC.sr (WO.a rfl rfl (WO.nil (WX.next (WC.seq (WC.seq (WC.region ?_))))))
 refine WO.a rfl rfl (WO.nil (WX.next (WC.block ?_)))
 refine WC.loop (σ := Nat) (fun i => [(0, .slice ao l.length cap), (3, .int .i64 i)]) (fun i => fun w' => i ≤ l.length ∧ stdeep (l.take i) = false ∧ Ext w w') (fun i => l.length - i) (0) (Sub.of rfl) (⟨Nat.zero_le _, rfl, Keep.refl _ _⟩) ?_
 rintro i w1 ⟨hi, hno, hL1⟩
 show WC _ _ _ _ [(0, .slice ao l.length cap), (3, .int .i64 i)] _
 replace hl := hl.ext stable_st hL1
 refine WC.seq (WC.seq (WC.region (WO.mv rfl rfl (WO.mv rfl rfl (WO.o rfl (R.lenS rfl Tryz.runUnderlying24 rfl) (WO.o rfl (R.lss rfl rfl) (WO.nil (WX.next ?_))))))))
 refine WC.ite rfl (fun hlt => ?_) (fun hge => ?_)
 ·
  obtain ⟨s, he_s⟩ : ∃ x, l[i]? = some x := ⟨_, List.getElem?_eq_getElem (by omega)⟩
  have hm_s := List.mem_of_getElem? he_s
  obtain ⟨b_s, o_s, c_s, ha_s, _, hc_s, hR_s⟩ := hl.at he_s
  have h1_s := RSt.one hR_s
  obtain ⟨v1_s, v2_s, v3_s, v4_s, rfl, hk_s, ht_s, hs_s, hb_s⟩ := hR_s.get
  obtain ⟨a1_s, n1_s, rfl⟩ := hk_s.form
  obtain ⟨a2_s, n2_s, rfl⟩ := ht_s.form
  obtain ⟨a3_s, n3_s, rfl⟩ := hs_s.form
  obtain ⟨a4_s, n4_s, rfl⟩ := hb_s.form
  have hlt_s : b_s < _ := World.block_lt_of_cell? _ _ (hc_s 0 _ rfl)
  have hsp := snodes_split he_s
  have hse := s.nodes_eq
  have htk := stdeep_take he_s
  rw [hno, Bool.false_or, s.tdeep_eq] at htk
  have hyes : (decide (12 < s.term.depth) || stdeep s.thn || stdeep s.els) = true → stdeep l = true := by
   intro h
   rw [split_get he_s, stdeep_append]
   simp only [stdeep, s.tdeep_eq, h, Bool.true_or, Bool.or_true]
  refine WC.skip (WX.next (WC.seq (WC.block (WC.seq (WC.region (WO.mv rfl rfl (WO.mv rfl rfl (WO.o rfl (R.indexS Tryz.runUnderlying24 Tryz.sizeOf86 rfl rfl ha_s (by omega)) (WO.o rfl (R.fieldAddr Tryz.runUnderlying86 rfl Tryz.sizeOf84 rfl) (WO.o rfl (R.loadK Tryz.isAgg84 Tryz.sizeOf84 rfl (by rfl) (hc_s.sub 4 3)) (WO.call rfl rfl rfl (F.call (vs := [_]) Tryz.call110 rfl) (refTermDepth_ok s.term _ D _ (RTm.put hk_s) (by omega)) ?_)))))))))))
  rintro _ wz1 ⟨rfl, hz1⟩
  replace hl := hl.ext stable_st hz1
  replace hL1 := hL1.ext hz1
  replace hc_s := hz1.cells hc_s (fun h => h)
  replace hk_s := hk_s.ext stable_tm hz1
  replace ht_s := ht_s.ext stable_st hz1
  replace hs_s := hs_s.ext stable_st hz1
  replace hb_s := hb_s.ext stable_int hz1
  refine WO.o rfl (R.gtr rfl rfl) (WO.mv rfl rfl (WO.splitP (d := 17) rfl (fun h1 => ?_) (fun h1 => ?_)))
  ·
   have h1' : decide (12 < s.term.depth) = true := decide_eq_true (by omega)
   refine WO.no rfl rfl (dT h1) rfl (WO.no rfl rfl (dT h1) rfl (WO.no rfl rfl (dT h1) rfl (WO.no rfl rfl (dT h1) rfl (WO.no rfl rfl (dT h1) rfl (WO.no rfl rfl (dT h1) rfl (WO.o rfl (R.pickT rfl (dT h1) rfl) (WO.mv rfl rfl (WO.z rfl (WO.z rfl (WO.z rfl (WO.z rfl (WO.z rfl (WO.z rfl (WO.o rfl (R.pickT rfl rfl rfl) (WO.nil (WX.next ?_))))))))))))))))
   refine WC.tt rfl (rfl) (WC.sr (WO.a rfl rfl (WO.nil (WX.next (WC.ret (WX.blockR (WX.thenR (WX.thenR (WX.blockR (WX.thenR ?_))))))))))
   refine WX.ret1 Tryz.results112 rfl ⟨_, rfl, by rw [hyes (by rw [h1']; rfl)], hL1⟩
  ·
   have h1' : decide (12 < s.term.depth) = false := decide_eq_false (by omega)
   refine WO.yes rfl rfl (dF h1) (WO.mv rfl rfl (WO.yes rfl rfl (dF h1) (WO.mv rfl rfl (WO.yes rfl rfl (dF h1) (WO.o rfl (R.indexS Tryz.runUnderlying24 Tryz.sizeOf86 rfl rfl ha_s (by omega)) (WO.yes rfl rfl (dF h1) (WO.o rfl (R.fieldAddr Tryz.runUnderlying86 rfl Tryz.sizeOf24 rfl) (WO.yes rfl rfl (dF h1) (WO.o rfl (R.load Tryz.isAgg24 rfl (hc_s 7 _ rfl)) (WO.yes rfl rfl (dF h1) (WO.call rfl rfl rfl (F.call (vs := [_]) Tryz.call112 rfl) ((ih s hm_s).1 _ D _ ht_s (by omega)) ?_)))))))))))
   rintro _ wz2 ⟨rfl, hz2⟩
   replace hl := hl.ext stable_st hz2
   replace hL1 := hL1.ext hz2
   replace hc_s := hz2.cells hc_s (fun h => h)
   replace hk_s := hk_s.ext stable_tm hz2
   replace ht_s := ht_s.ext stable_st hz2
   replace hs_s := hs_s.ext stable_st hz2
   replace hb_s := hb_s.ext stable_int hz2
   refine WO.o rfl (R.pickF rfl (dF h1) rfl) (WO.mv rfl rfl (WO.splitB (d := 25) rfl (fun h2 => ?_) (fun h2 => ?_)))
   ·
    refine WO.no rfl rfl h2 rfl (WO.no rfl rfl h2 rfl (WO.no rfl rfl h2 rfl (WO.no rfl rfl h2 rfl (WO.no rfl rfl h2 rfl (WO.no rfl rfl h2 rfl (WO.o rfl (R.pickT rfl h2 rfl) (WO.nil (WX.next ?_))))))))
    refine WC.tt rfl (rfl) (WC.sr (WO.a rfl rfl (WO.nil (WX.next (WC.ret (WX.blockR (WX.thenR (WX.thenR (WX.blockR (WX.thenR ?_))))))))))
    refine WX.ret1 Tryz.results112 rfl ⟨_, rfl, by rw [hyes (by rw [h2]; simp)], hL1⟩
   ·
    refine WO.yes rfl rfl h2 (WO.mv rfl rfl (WO.yes rfl rfl h2 (WO.mv rfl rfl (WO.yes rfl rfl h2 (WO.o rfl (R.indexS Tryz.runUnderlying24 Tryz.sizeOf86 rfl rfl ha_s (by omega)) (WO.yes rfl rfl h2 (WO.o rfl (R.fieldAddr Tryz.runUnderlying86 rfl Tryz.sizeOf24 rfl) (WO.yes rfl rfl h2 (WO.o rfl (R.load Tryz.isAgg24 rfl (hc_s 8 _ rfl)) (WO.yes rfl rfl h2 (WO.call rfl rfl rfl (F.call (vs := [_]) Tryz.call112 rfl) ((ih s hm_s).2 _ D _ hs_s (by omega)) ?_)))))))))))
    rintro _ wz3 ⟨rfl, hz3⟩
    replace hl := hl.ext stable_st hz3
    replace hL1 := hL1.ext hz3
    replace hc_s := hz3.cells hc_s (fun h => h)
    replace hk_s := hk_s.ext stable_tm hz3
    replace ht_s := ht_s.ext stable_st hz3
    replace hs_s := hs_s.ext stable_st hz3
    replace hb_s := hb_s.ext stable_int hz3
    refine WO.o rfl (R.pickF rfl h2 rfl) (WO.nil (WX.next ?_))
    refine WC.bool rfl (fun h3 => ?_) (fun h3 => ?_)
    ·
     refine WC.sr (WO.a rfl rfl (WO.nil (WX.next (WC.ret (WX.blockR (WX.thenR (WX.thenR (WX.blockR (WX.thenR ?_)))))))))
     refine WX.ret1 Tryz.results112 rfl ⟨_, rfl, by rw [hyes (by rw [h3]; simp)], hL1⟩
    · refine WC.skip (WX.blockN (WX.next (WC.region (WO.mv rfl rfl (WO.o rfl (R.add rfl rfl (wrap_i64_in (by omega))) (WO.a rfl rfl (WO.nil (WX.back (i + 1) (Sub.of rfl) (⟨by omega, by rw [htk, h1', h2, h3]; rfl, hL1⟩) (by first | omega | (dsimp only; omega))))))))))
 ·
  have : i = l.length := by omega
  subst this
  rw [List.take_length] at hno
  refine WC.exit (WX.thenE (WX.thenE (WX.hit (WX.next (WC.seq (WC.region (WO.a rfl rfl (WO.nil (WX.next (WC.ret ?_))))))))))
  refine WX.ret1 Tryz.results112 rfl ⟨_, rfl, by rw [hno], hL1⟩
theorem flatSize_ok (l : List St) : ∀ (v : Value) (D : Nat → Prop) (w : World), SlR 10 RSt D w v l → ssize l ≤ 1000000 → Calls Tryz.prog 119 #[v] w (Ret fun r w' => r = .int .i64 (ssize l) ∧ Ext w w') := by
 induction l using Sts.ind with
 | h l ih =>
 intro v D w hl hsz
 have hlen := slen_ssize l
 obtain ⟨ao, cap, rfl⟩ := hl.form
 refine calls Tryz.func119 rfl [(0, .slice ao l.length cap)] 25 ⟨Nat.le_of_ble_eq_true rfl, Tryz.ntmps119⟩ (argsOk (Sub.of rfl)) ?_
 refine WC.sr (WO.a rfl rfl (WO.nr (WO.mv rfl rfl (WO.o rfl (R.lenS rfl Tryz.runUnderlying24 rfl) (WO.a rfl rfl (WO.nil (WX.next (WC.seq (WC.seq (WC.region ?_))))))))))
 refine WO.mv rfl rfl (WO.o rfl (R.lenS rfl Tryz.runUnderlying24 rfl) (WO.mv rfl rfl (WO.nil (WX.next (WC.block ?_)))))
 refine WC.loop (σ := Nat) (fun i => [(3, .int .i64 ((l.length : Int) + ssize (l.take i) - i)), (8, .slice ao l.length cap), (9, .int .i64 l.length), (10, .int .i64 i)]) (fun i => fun w' => i ≤ l.length ∧ Ext w w') (fun i => l.length - i) (0) (Sub.of rfl) (⟨Nat.zero_le _, Keep.refl _ _⟩) ?_
 rintro i w1 ⟨hi, hL1⟩
 show WC _ _ _ _ [(3, .int .i64 ((l.length : Int) + ssize (l.take i) - i)), (8, .slice ao l.length cap), (9, .int .i64 l.length), (10, .int .i64 i)] _
 replace hl := hl.ext stable_st hL1
 refine WC.sr (WO.o rfl (R.lss rfl rfl) (WO.nil (WX.next (WC.seq ?_))))
 refine WC.ite rfl (fun hlt => ?_) (fun hge => ?_)
 ·
  obtain ⟨s, he_s⟩ : ∃ x, l[i]? = some x := ⟨_, List.getElem?_eq_getElem (by omega)⟩
  have hm_s := List.mem_of_getElem? he_s
  obtain ⟨b_s, o_s, c_s, ha_s, _, hc_s, hR_s⟩ := hl.at he_s
  have h1_s := RSt.one hR_s
  obtain ⟨v1_s, v2_s, v3_s, v4_s, rfl, hk_s, ht_s, hs_s, hb_s⟩ := hR_s.get
  obtain ⟨a1_s, n1_s, rfl⟩ := hk_s.form
  obtain ⟨a2_s, n2_s, rfl⟩ := ht_s.form
  obtain ⟨a3_s, n3_s, rfl⟩ := hs_s.form
  obtain ⟨a4_s, n4_s, rfl⟩ := hb_s.form
  have hlt_s : b_s < _ := World.block_lt_of_cell? _ _ (hc_s 0 _ rfl)
  have hsp := ssize_split he_s
  have hse := s.size_eq
  have hE := Keep.refl (fun _ => False) w1
  refine WC.skip (WX.next (WC.seq (WC.block (WC.seq (WC.region (WO.o rfl (R.indexS Tryz.runUnderlying24 Tryz.sizeOf86 rfl rfl ha_s (by omega)) (WO.o rfl (R.loadK Tryz.isAgg86 Tryz.sizeOf86 rfl (by rfl) hc_s) (WO.mem rfl rfl rfl (M.alloc (cs := _) Tryz.zeroValue86 rfl) ?_))))))))
  rintro _ wa1 ⟨b, rfl, hg_b, hs_b, hB_b, hk_b⟩
  refine WO.mem0 rfl rfl (M.storeK Tryz.sizeOf86 rfl rfl rfl rfl h1_s hB_b (by simp)) ?_
  rintro w_b ⟨_, hB_b, hkk_b⟩
  replace hk_b := hk_b.trans hkk_b (fun q hq h => by have h : q = b := h; omega)
  have hge_b : _ ≤ b := Nat.le_trans hE.size (Nat.le_of_eq hg_b.symm)
  replace hl := hl.ext stable_st hk_b
  replace hL1 := hL1.ext hk_b
  replace hc_s := hk_b.cells hc_s (fun h => h)
  replace hk_s := hk_s.ext stable_tm hk_b
  replace ht_s := ht_s.ext stable_st hk_b
  replace hs_s := hs_s.ext stable_st hk_b
  replace hb_s := hb_s.ext stable_int hk_b
  replace hE := hE.ext hk_b
  refine WO.nil (WX.next (WC.draw (fun q => Ext w_b q) [] (by kernel_rfl) (fun wd2 hD _ => ?_)))
  refine WD.takeW 0 rfl (by kernel_rfl) rfl rfl rfl (fun w1 => R.move rfl) (WD.takeW 1 rfl (by kernel_rfl) rfl rfl rfl (fun w1 => R.fieldAddr Tryz.runUnderlying86 rfl Tryz.sizeOf24 rfl) (WD.take 2 rfl (by kernel_rfl) rfl rfl rfl hD (fun w1 hw1 => R.load Tryz.isAgg24 rfl ((hw1.blk hB_b (fun h => h)).cells 7 _ rfl)) (WD.takeW 4 rfl (by kernel_rfl) rfl rfl rfl (fun w1 => R.fieldAddr Tryz.runUnderlying86 rfl Tryz.sizeOf24 rfl) (WD.take 5 rfl (by kernel_rfl) rfl rfl rfl hD (fun w1 hw1 => R.load Tryz.isAgg24 rfl ((hw1.blk hB_b (fun h => h)).cells 8 _ rfl)) (WD.call 3 rfl (by kernel_rfl) rfl rfl rfl (F.call (vs := [_]) Tryz.call119 rfl) ((ih s hm_s).1 _ D _ (ht_s.ext stable_st hD) (by omega)) ?_)))))
  rintro _ wz3 ⟨rfl, hz3⟩
  replace hD := hD.ext hz3
  refine ⟨fun _ => hD, ?_⟩
  refine WD.call 6 rfl (by kernel_rfl) rfl rfl rfl (F.call (vs := [_]) Tryz.call119 rfl) ((ih s hm_s).2 _ D _ (hs_s.ext stable_st hD) (by omega)) ?_
  rintro _ wz4 ⟨rfl, hz4⟩
  replace hD := hD.ext hz4
  refine ⟨fun _ => hD, ?_⟩
  refine WD.takeW 7 rfl (by kernel_rfl) rfl rfl rfl (fun w1 => R.add rfl rfl (wrap_i64_in (by omega))) (WD.takeW 8 rfl (by kernel_rfl) rfl rfl rfl (fun w1 => R.add rfl rfl (wrap_i64_in (by omega))) (WD.takeW 9 rfl (by kernel_rfl) rfl rfl rfl (fun w1 => R.assign rfl) (WD.done (by kernel_rfl) ?_ _)))
  replace hl := hl.ext stable_st hD
  replace hL1 := hL1.ext hD
  replace hc_s := hD.cells hc_s (fun h => h)
  replace hk_s := hk_s.ext stable_tm hD
  replace ht_s := ht_s.ext stable_st hD
  replace hs_s := hs_s.ext stable_st hD
  replace hb_s := hb_s.ext stable_int hD
  replace hE := hE.ext hD
  replace hB_b := hD.blk hB_b (fun h => h)
  refine WX.blockN (WX.next (WC.region (WO.o rfl (R.add rfl rfl (wrap_i64_in (by omega))) (WO.mv rfl rfl (WO.nil (WX.back (i + 1) (Sub.cons (slotI rfl (by rw [ssize_take he_s]; omega)) (Sub.of rfl)) (⟨by omega, hL1⟩) (by first | omega | (dsimp only; omega))))))))
 ·
  have : i = l.length := by omega
  subst this
  refine WC.exit (WX.thenE (WX.thenE (WX.hit (WX.next (WC.seq (WC.region (WO.mv rfl rfl (WO.a rfl rfl (WO.nil (WX.next (WC.ret ?_)))))))))))
  refine WX.ret1 Tryz.results119 rfl ⟨_, rfl, by rw [List.take_length]; congr 1; omega, hL1⟩
theorem flatSizeF_ok (f : Fl) (v1 v2 v3 : Value) (D : Nat → Prop) (w : World) (h : RFl D w f v1 v2 v3) (hsz : ssize f.body ≤ 1000000) : Calls Tryz.prog 70 #[.agg #[v1, v2, v3]] w (Ret fun r w' => r = .int .i64 (ssize f.body) ∧ Ext w w') := by
 have hE := Keep.refl (fun _ => False) w
 refine calls Tryz.func70 rfl [(0, .agg #[v1, v2, v3])] 6 ⟨Nat.le_of_ble_eq_true rfl, Tryz.ntmps70⟩ (argsOk (Sub.of rfl)) ?_
 refine WC.sr (WO.mem rfl rfl rfl (M.box rfl rfl) ?_)
 rintro _ w_b ⟨b, rfl, hg_b, hs_b, hB_b, hk_b⟩
 have hge_b : _ ≤ b := Nat.le_trans hE.size (Nat.le_of_eq hg_b.symm)
 replace hE := hE.ext hk_b
 replace h := RFl.ext h hk_b
 refine WO.a rfl rfl (WO.nr (WO.o rfl (R.fieldAddr Tryz.runUnderlying26 rfl Tryz.sizeOf24 rfl) (WO.o rfl (R.load Tryz.isAgg24 rfl (hB_b.cells 2 _ rfl)) (WO.call rfl rfl rfl (F.call (vs := [_]) Tryz.call119 rfl) (flatSize_ok f.body _ D _ h.body hsz) ?_))))
 rintro _ wz1 ⟨rfl, hz1⟩
 replace hE := hE.ext hz1
 replace h := RFl.ext h hz1
 replace hB_b := hz1.blk hB_b (fun h => h)
 refine WO.a rfl rfl (WO.nil (WX.next (WC.ret ?_)))
 refine WX.ret1 Tryz.results70 rfl ⟨_, rfl, rfl, hE⟩
theorem refMost_ok (a b : Int) (w : World) : Calls Tryz.prog 117 #[.int .i64 a, .int .i64 b] w (Ret fun r w' => r = .int .i64 (max a b) ∧ Ext w w') := by
 refine calls Tryz.func117 rfl [(0, .int .i64 a), (1, .int .i64 b)] 10 ⟨Nat.le_of_ble_eq_true rfl, Tryz.ntmps117⟩ (argsOk (Sub.of rfl)) ?_
 refine WC.sr (WO.a rfl rfl (WO.nil (WX.next (WC.seq (WC.seq (WC.region ?_))))))
 refine WO.mv rfl rfl (WO.mv rfl rfl (WO.o rfl (R.gtr rfl rfl) (WO.nil (WX.next ?_))))
 refine WC.ite rfl (fun h => ?_) (fun h => ?_)
 ·
  refine WC.sr (WO.mv rfl rfl (WO.a rfl rfl (WO.nil (WX.next (WC.ret (WX.thenR ?_))))))
  refine WX.ret1 Tryz.results117 rfl ⟨_, rfl, by rw [Int.max_eq_left (by omega)], Keep.refl _ _⟩
 ·
  refine WC.ks (WO.mv rfl rfl (WO.a rfl rfl (WO.nil (WX.next (WC.ret ?_)))))
  refine WX.ret1 Tryz.results117 rfl ⟨_, rfl, by rw [Int.max_eq_right (by omega)], Keep.refl _ _⟩
theorem refLeast_ok (a b : Int) (w : World) : Calls Tryz.prog 118 #[.int .i64 a, .int .i64 b] w (Ret fun r w' => r = .int .i64 (min a b) ∧ Ext w w') := by
 refine calls Tryz.func118 rfl [(0, .int .i64 a), (1, .int .i64 b)] 10 ⟨Nat.le_of_ble_eq_true rfl, Tryz.ntmps118⟩ (argsOk (Sub.of rfl)) ?_
 refine WC.sr (WO.a rfl rfl (WO.nil (WX.next (WC.seq (WC.seq (WC.region ?_))))))
 refine WO.mv rfl rfl (WO.mv rfl rfl (WO.o rfl (R.lss rfl rfl) (WO.nil (WX.next ?_))))
 refine WC.ite rfl (fun h => ?_) (fun h => ?_)
 ·
  refine WC.sr (WO.mv rfl rfl (WO.a rfl rfl (WO.nil (WX.next (WC.ret (WX.thenR ?_))))))
  refine WX.ret1 Tryz.results118 rfl ⟨_, rfl, by rw [Int.min_eq_left (by omega)], Keep.refl _ _⟩
 ·
  refine WC.ks (WO.mv rfl rfl (WO.a rfl rfl (WO.nil (WX.next (WC.ret ?_)))))
  refine WX.ret1 Tryz.results118 rfl ⟨_, rfl, by rw [Int.min_eq_right (by omega)], Keep.refl _ _⟩
def clampI (n low high : Int) : Int := if n < low then low else if high < n then high else n
theorem flatFlag_ok (p : Bool) (w : World) : Calls Tryz.prog 222 #[.bool p] w (Ret fun r w' => r = .int .i64 (if p then 1 else 0) ∧ Ext w w') := by
 refine calls Tryz.func222 rfl [(0, .bool p)] 4 ⟨Nat.le_of_ble_eq_true rfl, Tryz.ntmps222⟩ (argsOk (Sub.of rfl)) ?_
 refine WC.sr (WO.a rfl rfl (WO.nil (WX.next (WC.seq (WC.seq (WC.region ?_))))))
 refine WO.mv rfl rfl (WO.nil (WX.next ?_))
 refine WC.bool rfl (fun h => ?_) (fun h => ?_)
 ·
  refine WC.sr (WO.a rfl rfl (WO.nil (WX.next (WC.ret (WX.thenR ?_)))))
  refine WX.ret1 Tryz.results222 rfl ⟨_, rfl, by rw [h]; rfl, Keep.refl _ _⟩
 ·
  refine WC.ks (WO.a rfl rfl (WO.nil (WX.next (WC.ret ?_))))
  refine WX.ret1 Tryz.results222 rfl ⟨_, rfl, by rw [h]; rfl, Keep.refl _ _⟩
theorem refSize1_ok (a : Int) (w : World) (ha : -4611686018427387904 ≤ a) : Calls Tryz.prog 205 #[.int .i64 a] w (Ret fun r w' => r = .int .i64 (if a < 0 then -a else a) ∧ Ext w w') := by
 refine calls Tryz.func205 rfl [(0, .int .i64 a)] 8 ⟨Nat.le_of_ble_eq_true rfl, Tryz.ntmps205⟩ (argsOk (Sub.of rfl)) ?_
 refine WC.sr (WO.a rfl rfl (WO.nil (WX.next (WC.seq (WC.seq (WC.region ?_))))))
 refine WO.mv rfl rfl (WO.o rfl (R.lss rfl rfl) (WO.nil (WX.next ?_)))
 refine WC.ite rfl (fun h => ?_) (fun h => ?_)
 ·
  refine WC.sr (WO.mv rfl rfl (WO.o rfl (R.neg rfl (wrap_i64_in (by omega))) (WO.a rfl rfl (WO.nil (WX.next (WC.ret (WX.thenR ?_)))))))
  refine WX.ret1 Tryz.results205 rfl ⟨_, rfl, by rw [if_pos h], Keep.refl _ _⟩
 ·
  refine WC.ks (WO.mv rfl rfl (WO.a rfl rfl (WO.nil (WX.next (WC.ret ?_)))))
  refine WX.ret1 Tryz.results205 rfl ⟨_, rfl, by rw [if_neg h], Keep.refl _ _⟩
theorem flatClamp_ok (a b c : Int) (w : World) (hbc : b ≤ c) : Calls Tryz.prog 223 #[.int .i64 a, .int .i64 b, .int .i64 c] w (Ret fun r w' => r = .int .i64 (clampI a b c) ∧ Ext w w') := by
 refine calls Tryz.func223 rfl [(0, .int .i64 a), (1, .int .i64 b), (2, .int .i64 c)] 12 ⟨Nat.le_of_ble_eq_true rfl, Tryz.ntmps223⟩ (argsOk (Sub.of rfl)) ?_
 refine WC.sr (WO.a rfl rfl (WO.nr (WO.mv rfl rfl (WO.mv rfl rfl (WO.o rfl (R.maxI rfl rfl) (WO.mv rfl rfl (WO.o rfl (R.minI rfl rfl) (WO.a rfl rfl (WO.nil (WX.next (WC.ret ?_)))))))))))
 refine WX.ret1 Tryz.results223 rfl ⟨_, rfl, ?_, Keep.refl _ _⟩
 congr 1
 unfold clampI
 split
 · omega
 · split <;> omega
theorem termLeft_ok (t : Tm) : ∀ (cs : List Value) (D : Nat → Prop) (w : World) (left : Int), RTm D w t cs → -100000 ≤ left → left ≤ 1000000 → Calls Tryz.prog 58 #[.agg cs.toArray, .int .i64 left] w (Ret fun r w' => (∃ m : Int, r = .int .i64 m ∧ ((t.nodes : Int) ≤ left → m = left - t.nodes) ∧ (¬ (t.nodes : Int) ≤ left → m < 0 ∧ min left 0 - 1 ≤ m)) ∧ Ext w w') := by
 induction t using Tm.ind with
 | h t ih =>
 intro cs D w left ht h1 h2
 have hse := t.nodes_eq
 obtain ⟨v, rfl, hk⟩ := ht.get
 have hmx := hk.max
 obtain ⟨ao, cap, rfl⟩ := hk.form
 have hE := Keep.refl (fun _ => False) w
 refine calls Tryz.func58 rfl [(0, .agg #[.int .i64 t.op, .int .i64 t.n, .slice ao t.kids.length cap]), (1, .int .i64 left)] 27 ⟨Nat.le_of_ble_eq_true rfl, Tryz.ntmps58⟩ (argsOk (Sub.of rfl)) ?_
 refine WC.sr (WO.mem rfl rfl rfl (M.box rfl rfl) ?_)
 rintro _ w_b ⟨b, rfl, hg_b, hs_b, hB_b, hk_b⟩
 have hge_b : _ ≤ b := Nat.le_trans hE.size (Nat.le_of_eq hg_b.symm)
 replace hE := hE.ext hk_b
 replace hk := hk.ext stable_tm hk_b
 refine WO.a rfl rfl (WO.nr (WO.mv rfl rfl (WO.o rfl (R.sub rfl rfl (wrap_i64_in (by omega))) (WO.a rfl rfl (WO.nil (WX.next (WC.seq (WC.seq (WC.region ?_)))))))))
 refine WO.a rfl rfl (WO.nil (WX.next (WC.block ?_)))
 refine WC.loop (σ := Nat × Int) (fun ⟨i, x⟩ => [(1, .int .i64 x), (2, .pointer (some ⟨b, 0, none⟩)), (5, .int .i64 i)]) (fun ⟨i, x⟩ => fun w' => i ≤ t.kids.length ∧ ((1 + tnodes (t.kids.take i) : Nat) ≤ left → x = left - (1 + tnodes (t.kids.take i) : Nat)) ∧ (¬ ((1 + tnodes (t.kids.take i) : Nat) : Int) ≤ left → x < 0 ∧ min left 0 - 1 ≤ x) ∧ Ext w_b w') (fun ⟨i, x⟩ => t.kids.length - i) ((0, left - 1)) (Sub.of rfl) (⟨Nat.zero_le _, fun _ => rfl, fun h => by simp [tnodes] at h; omega, Keep.refl _ _⟩) ?_
 rintro ⟨i, x⟩ w1 ⟨hi, hy, hn, hL1⟩
 show WC _ _ _ _ [(1, .int .i64 x), (2, .pointer (some ⟨b, 0, none⟩)), (5, .int .i64 i)] _
 replace hE := hE.ext hL1
 replace hk := hk.ext stable_tm hL1
 replace hB_b := hL1.blk hB_b (fun h => h)
 refine WC.seq (WC.seq (WC.region (WO.mv rfl rfl (WO.o rfl (R.fieldAddr Tryz.runUnderlying84 rfl Tryz.sizeOf82 rfl) (WO.o rfl (R.load Tryz.isAgg82 rfl (hB_b.cells 2 _ rfl)) (WO.o rfl (R.lenS rfl Tryz.runUnderlying82 rfl) (WO.o rfl (R.lss rfl rfl) (WO.mv rfl rfl ?_))))))))
 have hend : (i = t.kids.length ∨ x < 0) → ((t.nodes : Int) ≤ left → x = left - t.nodes) ∧ (¬ (t.nodes : Int) ≤ left → x < 0 ∧ min left 0 - 1 ≤ x) := by
  intro h
  have hle : tnodes (t.kids.take i) ≤ tnodes t.kids := by
   have := tnodes_append (t.kids.take i) (t.kids.drop i)
   rw [List.take_append_drop] at this
   omega
  rcases h with h | h
  ·
   rw [h, List.take_length] at hy hn
   constructor
   · intro h3; rw [hy (by omega)]; omega
   · intro h3; exact hn (by omega)
  ·
   constructor
   · intro h3; have := hy (by omega); omega
   ·
    intro h3
    by_cases h4 : ((1 + tnodes (t.kids.take i) : Nat) : Int) ≤ left
    · have := hy h4; omega
    · exact hn h4
 refine WO.splitP (d := 13) rfl (fun hlt => ?_) (fun hlt => ?_)
 ·
  refine WO.yes rfl rfl (dT hlt) (WO.mv rfl rfl (WO.yes rfl rfl (dT hlt) (WO.o rfl (R.geq rfl rfl) (WO.o rfl (R.pickT rfl (dT hlt) rfl) (WO.nil (WX.next ?_))))))
  refine WC.ite rfl (fun hx0 => ?_) (fun hx0 => ?_)
  ·
   obtain ⟨k, he_k⟩ : ∃ x, t.kids[i]? = some x := ⟨_, List.getElem?_eq_getElem (by omega)⟩
   have hm_k := List.mem_of_getElem? he_k
   obtain ⟨b_k, o_k, c_k, ha_k, _, hc_k, hR_k⟩ := hk.at he_k
   have h1_k := RTm.one hR_k
   obtain ⟨v1_k, rfl, hk_k⟩ := hR_k.get
   obtain ⟨a1_k, n1_k, rfl⟩ := hk_k.form
   have hlt_k : b_k < _ := World.block_lt_of_cell? _ _ (hc_k 0 _ rfl)
   have hsp := tnodes_take he_k
   refine WC.skip (WX.next (WC.seq (WC.block (WC.region (WO.o rfl (R.fieldAddr Tryz.runUnderlying84 rfl Tryz.sizeOf82 rfl) (WO.o rfl (R.load Tryz.isAgg82 rfl (hB_b.cells 2 _ rfl)) (WO.mv rfl rfl (WO.o rfl (R.indexS Tryz.runUnderlying82 Tryz.sizeOf84 rfl rfl ha_k (by omega)) (WO.o rfl (R.loadK Tryz.isAgg84 Tryz.sizeOf84 rfl (by rfl) hc_k) (WO.mv rfl rfl (WO.call rfl rfl rfl (F.call (vs := [_, _]) Tryz.call58 rfl) (ih k hm_k _ D _ x (RTm.put hk_k) (by omega) (by by_cases h4 : ((1 + tnodes (t.kids.take i) : Nat) : Int) ≤ left <;> first | (have := hy h4; omega) | (have := hn h4; omega))) ?_)))))))))))
   rintro _ wz1 ⟨⟨m, rfl, hm1, hm2⟩, hz1⟩
   replace hE := hE.ext hz1
   replace hk := hk.ext stable_tm hz1
   replace hB_b := hz1.blk hB_b (fun h => h)
   replace hL1 := hL1.ext hz1
   replace hc_k := hz1.cells hc_k (fun h => h)
   replace hk_k := hk_k.ext stable_tm hz1
   refine WO.a rfl rfl (WO.nil (WX.blockN (WX.next (WC.region ?_))))
   refine WO.mv rfl rfl (WO.o rfl (R.add rfl rfl (wrap_i64_in (by omega))) (WO.a rfl rfl (WO.nil (WX.back ((i + 1, m)) (Sub.of rfl) (⟨by omega, ?_, ?_, hL1⟩) (by first | omega | (dsimp only; omega))))))
   ·
    intro h3
    rw [hsp] at h3 ⊢
    have := hy (by omega)
    rw [hm1 (by omega)]; omega
   ·
    intro h3
    rw [hsp] at h3
    by_cases h4 : ((1 + tnodes (t.kids.take i) : Nat) : Int) ≤ left
    ·
     have := hy h4
     have := hm2 (by omega)
     omega
    · have := hn h4; omega
  ·
   refine WC.exit (WX.thenE (WX.thenE (WX.hit (WX.next (WC.seq (WC.region (WO.mv rfl rfl (WO.a rfl rfl (WO.nil (WX.next (WC.ret ?_)))))))))))
   refine WX.ret1 Tryz.results58 rfl ⟨_, rfl, ⟨x, rfl, hend (.inr (by omega))⟩, hE⟩
 ·
  refine WO.no rfl rfl (dF hlt) rfl (WO.no rfl rfl (dF hlt) rfl (WO.o rfl (R.pickF rfl (dF hlt) rfl) (WO.nil (WX.next ?_))))
  refine WC.ff rfl (rfl) (WC.exit (WX.thenE (WX.thenE (WX.hit (WX.next (WC.seq (WC.region ?_)))))))
  refine WO.mv rfl rfl (WO.a rfl rfl (WO.nil (WX.next (WC.ret ?_))))
  refine WX.ret1 Tryz.results58 rfl ⟨_, rfl, ⟨x, rfl, hend (.inl (by omega))⟩, hE⟩
theorem stepsLeft_ok (l : List St) : ∀ (v : Value) (D : Nat → Prop) (w : World) (left : Int), SlR 10 RSt D w v l → -10 ≤ left → left ≤ 1000000 → Calls Tryz.prog 57 #[v, .int .i64 left] w (Ret fun r w' => (∃ m : Int, r = .int .i64 m ∧ ((sbulk l : Int) ≤ left → m = left - sbulk l) ∧ (¬ (sbulk l : Int) ≤ left → m < 0 ∧ min left (-1) ≤ m)) ∧ Ext w w') := by
 induction l using Sts.ind with
 | h l ih =>
 intro v D w left hl h1 h2
 have hmx := hl.max
 obtain ⟨ao, cap, rfl⟩ := hl.form
 refine calls Tryz.func57 rfl [(0, .slice ao l.length cap), (1, .int .i64 left)] 53 ⟨Nat.le_of_ble_eq_true rfl, Tryz.ntmps57⟩ (argsOk (Sub.of rfl)) ?_
 refine WC.sr (WO.a rfl rfl (WO.nil (WX.next (WC.seq (WC.seq (WC.region ?_))))))
 refine WO.a rfl rfl (WO.nil (WX.next (WC.block ?_)))
 refine WC.loop (σ := Nat × Int) (fun ⟨i, x⟩ => [(0, .slice ao l.length cap), (1, .int .i64 x), (5, .int .i64 i)]) (fun ⟨i, x⟩ => fun w' => i ≤ l.length ∧ ((sbulk (l.take i) : Int) ≤ left → x = left - sbulk (l.take i)) ∧ (¬ (sbulk (l.take i) : Int) ≤ left → x < 0 ∧ min left (-1) ≤ x) ∧ Ext w w') (fun ⟨i, x⟩ => l.length - i) ((0, left)) (Sub.of rfl) (⟨Nat.zero_le _, fun _ => by simp [sbulk], fun h => by simp [sbulk] at h; omega, Keep.refl _ _⟩) ?_
 rintro ⟨i, x⟩ w1 ⟨hi, hy, hn, hL1⟩
 show WC _ _ _ _ [(0, .slice ao l.length cap), (1, .int .i64 x), (5, .int .i64 i)] _
 replace hl := hl.ext stable_st hL1
 have hend : (i = l.length ∨ x < 0) → ((sbulk l : Int) ≤ left → x = left - sbulk l) ∧ (¬ (sbulk l : Int) ≤ left → x < 0 ∧ min left (-1) ≤ x) := by
  intro h
  have hle : sbulk (l.take i) ≤ sbulk l := by
   have := sbulk_append (l.take i) (l.drop i)
   rw [List.take_append_drop] at this
   omega
  rcases h with h | h
  ·
   rw [h, List.take_length] at hy hn
   exact ⟨hy, hn⟩
  ·
   constructor
   · intro h3; have := hy (by omega); omega
   ·
    intro h3
    by_cases h4 : (sbulk (l.take i) : Int) ≤ left
    · have := hy h4; omega
    · exact hn h4
 refine WC.seq (WC.seq (WC.region (WO.mv rfl rfl (WO.mv rfl rfl (WO.o rfl (R.lenS rfl Tryz.runUnderlying24 rfl) (WO.o rfl (R.lss rfl rfl) (WO.mv rfl rfl (WO.splitP (d := 10) rfl (fun hlt => ?_) (fun hlt => ?_)))))))))
 ·
  refine WO.yes rfl rfl (dT hlt) (WO.mv rfl rfl (WO.yes rfl rfl (dT hlt) (WO.o rfl (R.geq rfl rfl) (WO.o rfl (R.pickT rfl (dT hlt) rfl) (WO.nil (WX.next ?_))))))
  refine WC.ite rfl (fun hx0 => ?_) (fun hx0 => ?_)
  ·
   obtain ⟨s, he_s⟩ : ∃ x, l[i]? = some x := ⟨_, List.getElem?_eq_getElem (by omega)⟩
   have hm_s := List.mem_of_getElem? he_s
   obtain ⟨b_s, o_s, c_s, ha_s, _, hc_s, hR_s⟩ := hl.at he_s
   have h1_s := RSt.one hR_s
   obtain ⟨v1_s, v2_s, v3_s, v4_s, rfl, hk_s, ht_s, hs_s, hb_s⟩ := hR_s.get
   obtain ⟨a1_s, n1_s, rfl⟩ := hk_s.form
   obtain ⟨a2_s, n2_s, rfl⟩ := ht_s.form
   obtain ⟨a3_s, n3_s, rfl⟩ := hs_s.form
   obtain ⟨a4_s, n4_s, rfl⟩ := hb_s.form
   have hlt_s : b_s < _ := World.block_lt_of_cell? _ _ (hc_s 0 _ rfl)
   have hsp := sbulk_take he_s
   have hss := sbulk_split he_s
   have hbe := s.bulk_eq
   have hyes : (sbulk (l.take i) : Int) ≤ left ∧ x = left - sbulk (l.take i) := by
    by_cases h4 : (sbulk (l.take i) : Int) ≤ left
    · exact ⟨h4, hy h4⟩
    · have := hn h4; omega
   have hbm := hb_s.max
   refine WC.skip (WX.next (WC.seq (WC.block (WC.seq (WC.region (WO.mv rfl rfl (WO.mv rfl rfl (WO.o rfl (R.indexS Tryz.runUnderlying24 Tryz.sizeOf86 rfl rfl ha_s (by omega)) (WO.o rfl (R.fieldAddr Tryz.runUnderlying86 rfl Tryz.sizeOf84 rfl) (WO.o rfl (R.loadK Tryz.isAgg84 Tryz.sizeOf84 rfl (by rfl) (hc_s.sub 4 3)) (WO.mv rfl rfl (WO.o rfl (R.sub rfl rfl (wrap_i64_in (by omega))) (WO.call rfl rfl rfl (F.call (vs := [_, _]) Tryz.call58 rfl) (termLeft_ok s.term _ D _ (x - 1) (RTm.put hk_s) (by omega) (by omega)) ?_)))))))))))))
   rintro _ wz1 ⟨⟨m1, rfl, hm1, hm2⟩, hz1⟩
   replace hl := hl.ext stable_st hz1
   replace hL1 := hL1.ext hz1
   replace hc_s := hz1.cells hc_s (fun h => h)
   replace hk_s := hk_s.ext stable_tm hz1
   replace ht_s := ht_s.ext stable_st hz1
   replace hs_s := hs_s.ext stable_st hz1
   replace hb_s := hb_s.ext stable_int hz1
   refine WO.a rfl rfl (WO.nil (WX.next (WC.seq (WC.seq (WC.region ?_)))))
   refine WO.mv rfl rfl (WO.mv rfl rfl (WO.mv rfl rfl (WO.o rfl (R.indexS Tryz.runUnderlying24 Tryz.sizeOf86 rfl rfl ha_s (by omega)) (WO.o rfl (R.fieldAddr Tryz.runUnderlying86 rfl Tryz.sizeOf50 rfl) (WO.o rfl (R.load Tryz.isAgg50 rfl (hc_s 9 _ rfl)) (WO.o rfl (R.lenS rfl Tryz.runUnderlying50 rfl) (WO.o rfl (R.lss rfl rfl) (WO.nil (WX.next ?_)))))))))
   refine WC.ite rfl (fun hb => ?_) (fun hb => ?_)
   ·
    refine WC.sr (WO.a rfl rfl (WO.nil (WX.next (WC.ret (WX.thenR (WX.blockR (WX.thenR (WX.thenR (WX.blockR (WX.thenR ?_))))))))))
    refine WX.ret1 Tryz.results57 rfl ⟨_, rfl, ⟨-1, rfl, fun h3 => ?_, fun h3 => by omega⟩, hL1⟩
    by_cases h5 : (s.term.nodes : Int) ≤ x - 1
    · have := hm1 h5; omega
    · omega
   ·
    have h5 : (s.term.nodes : Int) ≤ x - 1 := by
     by_cases h5 : (s.term.nodes : Int) ≤ x - 1
     · exact h5
     · have := hm2 h5; omega
    have hm := hm1 h5
    refine WC.skip (WX.next (WC.draw (fun q => Ext wz1 q) [] (by kernel_rfl) (fun wd2 hD _ => ?_)))
    refine WD.takeW 0 rfl (by kernel_rfl) rfl rfl rfl (fun w1 => R.move rfl) (WD.takeW 1 rfl (by kernel_rfl) rfl rfl rfl (fun w1 => R.move rfl) (WD.takeW 2 rfl (by kernel_rfl) rfl rfl rfl (fun w1 => R.indexS Tryz.runUnderlying24 Tryz.sizeOf86 rfl rfl ha_s (by omega)) (WD.takeW 3 rfl (by kernel_rfl) rfl rfl rfl (fun w1 => R.fieldAddr Tryz.runUnderlying86 rfl Tryz.sizeOf24 rfl) (WD.take 4 rfl (by kernel_rfl) rfl rfl rfl hD (fun w1 hw1 => R.load Tryz.isAgg24 rfl (hw1.cells hc_s (fun h => h) 8 _ rfl)) (WD.takeW 5 rfl (by kernel_rfl) rfl rfl rfl (fun w1 => R.move rfl) (WD.takeW 6 rfl (by kernel_rfl) rfl rfl rfl (fun w1 => R.move rfl) ?_))))))
    refine WD.takeW 7 rfl (by kernel_rfl) rfl rfl rfl (fun w1 => R.indexS Tryz.runUnderlying24 Tryz.sizeOf86 rfl rfl ha_s (by omega)) (WD.takeW 8 rfl (by kernel_rfl) rfl rfl rfl (fun w1 => R.fieldAddr Tryz.runUnderlying86 rfl Tryz.sizeOf24 rfl) (WD.take 9 rfl (by kernel_rfl) rfl rfl rfl hD (fun w1 hw1 => R.load Tryz.isAgg24 rfl (hw1.cells hc_s (fun h => h) 7 _ rfl)) (WD.takeW 10 rfl (by kernel_rfl) rfl rfl rfl (fun w1 => R.move rfl) (WD.takeW 11 rfl (by kernel_rfl) rfl rfl rfl (fun w1 => R.move rfl) (WD.takeW 12 rfl (by kernel_rfl) rfl rfl rfl (fun w1 => R.move rfl) (WD.takeW 13 rfl (by kernel_rfl) rfl rfl rfl (fun w1 => R.indexS Tryz.runUnderlying24 Tryz.sizeOf86 rfl rfl ha_s (by omega)) ?_))))))
    refine WD.takeW 14 rfl (by kernel_rfl) rfl rfl rfl (fun w1 => R.fieldAddr Tryz.runUnderlying86 rfl Tryz.sizeOf50 rfl) (WD.take 15 rfl (by kernel_rfl) rfl rfl rfl hD (fun w1 hw1 => R.load Tryz.isAgg50 rfl (hw1.cells hc_s (fun h => h) 9 _ rfl)) (WD.takeW 16 rfl (by kernel_rfl) rfl rfl rfl (fun w1 => R.lenS rfl Tryz.runUnderlying50 rfl) (WD.takeW 17 rfl (by kernel_rfl) rfl rfl rfl (fun w1 => R.sub rfl rfl (wrap_i64_in (by omega))) (WD.call 18 rfl (by kernel_rfl) rfl rfl rfl (F.call (vs := [_, _]) Tryz.call57 rfl) ((ih s hm_s).1 _ D _ (m1 - s.bounds.length) (ht_s.ext stable_st hD) (by omega) (by omega)) ?_))))
    rintro _ wz3 ⟨⟨m2, rfl, h6, h7⟩, hz3⟩
    replace hD := hD.ext hz3
    refine ⟨fun _ => hD, ?_⟩
    refine WD.call 19 rfl (by kernel_rfl) rfl rfl rfl (F.call (vs := [_, _]) Tryz.call57 rfl) ((ih s hm_s).2 _ D _ m2 (hs_s.ext stable_st hD) (by by_cases h : (sbulk s.thn : Int) ≤ m1 - s.bounds.length <;> first | (have := h6 h; omega) | (have := h7 h; omega)) (by by_cases h : (sbulk s.thn : Int) ≤ m1 - s.bounds.length <;> first | (have := h6 h; omega) | (have := h7 h; omega))) ?_
    rintro _ wz4 ⟨⟨m3, rfl, h8, h9⟩, hz4⟩
    replace hD := hD.ext hz4
    refine ⟨fun _ => hD, ?_⟩
    refine WD.takeW 20 rfl (by kernel_rfl) rfl rfl rfl (fun w1 => R.assign rfl) (WD.done (by kernel_rfl) ?_ _)
    replace hl := hl.ext stable_st hD
    replace hL1 := hL1.ext hD
    replace hc_s := hD.cells hc_s (fun h => h)
    replace hk_s := hk_s.ext stable_tm hD
    replace ht_s := ht_s.ext stable_st hD
    replace hs_s := hs_s.ext stable_st hD
    replace hb_s := hb_s.ext stable_int hD
    refine WX.blockN (WX.next (WC.region (WO.mv rfl rfl (WO.o rfl (R.add rfl rfl (wrap_i64_in (by omega))) (WO.a rfl rfl (WO.nil (WX.back ((i + 1, m3)) (Sub.of rfl) (⟨by omega, ?_, ?_, hL1⟩) (by first | omega | (dsimp only; omega)))))))))
    ·
     intro h3
     rw [hsp] at h3 ⊢
     have := h6 (by omega)
     rw [h8 (by omega)]; omega
    ·
     intro h3
     rw [hsp] at h3
     by_cases h : (sbulk s.thn : Int) ≤ m1 - s.bounds.length
     ·
      have := h6 h
      by_cases h' : (sbulk s.els : Int) ≤ m2
      · have := h8 h'; omega
      · have := h9 h'; omega
     ·
      have := h7 h
      by_cases h' : (sbulk s.els : Int) ≤ m2
      · omega
      · have := h9 h'; omega
  ·
   refine WC.exit (WX.thenE (WX.thenE (WX.hit (WX.next (WC.seq (WC.region (WO.mv rfl rfl (WO.a rfl rfl (WO.nil (WX.next (WC.ret ?_)))))))))))
   refine WX.ret1 Tryz.results57 rfl ⟨_, rfl, ⟨x, rfl, hend (.inr (by omega))⟩, hL1⟩
 ·
  refine WO.no rfl rfl (dF hlt) rfl (WO.no rfl rfl (dF hlt) rfl (WO.o rfl (R.pickF rfl (dF hlt) rfl) (WO.nil (WX.next ?_))))
  refine WC.ff rfl (rfl) (WC.exit (WX.thenE (WX.thenE (WX.hit (WX.next (WC.seq (WC.region ?_)))))))
  refine WO.mv rfl rfl (WO.a rfl rfl (WO.nil (WX.next (WC.ret ?_))))
  refine WX.ret1 Tryz.results57 rfl ⟨_, rfl, ⟨x, rfl, hend (.inl (by omega))⟩, hL1⟩
theorem few17_ok (f : Fl) (a b : Int) (v1 v2 v3 : Value) (D : Nat → Prop) (w : World) (h : RFl D w f v1 v2 v3) (hb : 0 ≤ b ∧ b ≤ 1000000) (ha : a ≤ 1000) : Calls Tryz.prog 15 #[.agg #[v1, v2, v3], .int .i64 a, .int .i64 b] w (Ret fun r w' => r = .bool (decide ((f.vars.length : Int) ≤ a ∧ (f.hatches.length : Int) ≤ a ∧ ((sbulk f.body + hnodes f.hatches : Nat) : Int) ≤ b)) ∧ Ext w w') := by
 obtain ⟨hv, hh, hbd⟩ := h
 obtain ⟨a1, n1, rfl⟩ := hv.form
 obtain ⟨a2, n2, rfl⟩ := hh.form
 obtain ⟨a3, n3, rfl⟩ := hbd.form
 have hmx := hh.max
 have hE := Keep.refl (fun _ => False) w
 refine calls Tryz.func15 rfl [(0, .agg #[.slice a1 f.vars.length n1, .slice a2 f.hatches.length n2, .slice a3 f.body.length n3]), (1, .int .i64 a), (2, .int .i64 b)] 40 ⟨Nat.le_of_ble_eq_true rfl, Tryz.ntmps15⟩ (argsOk (Sub.of rfl)) ?_
 refine WC.sr (WO.mem rfl rfl rfl (M.box rfl rfl) ?_)
 rintro _ w_g ⟨g, rfl, hg_g, hs_g, hB_g, hk_g⟩
 have hge_g : _ ≤ g := Nat.le_trans hE.size (Nat.le_of_eq hg_g.symm)
 replace hE := hE.ext hk_g
 replace hh := hh.ext stable_ht hk_g
 replace hbd := hbd.ext stable_st hk_g
 refine WO.a rfl rfl (WO.nil (WX.next (WC.seq (WC.seq (WC.region ?_)))))
 refine WO.o rfl (R.fieldAddr Tryz.runUnderlying26 rfl Tryz.sizeOf22 rfl) (WO.o rfl (R.load Tryz.isAgg22 rfl (hB_g.cells 0 _ rfl)) (WO.o rfl (R.lenS rfl Tryz.runUnderlying22 rfl) (WO.mv rfl rfl (WO.o rfl (R.gtr rfl rfl) (WO.mv rfl rfl (WO.splitP (d := 15) rfl (fun h1 => ?_) (fun h1 => ?_)))))))
 ·
  refine WO.no rfl rfl (dT h1) rfl (WO.no rfl rfl (dT h1) rfl (WO.no rfl rfl (dT h1) rfl (WO.no rfl rfl (dT h1) rfl (WO.no rfl rfl (dT h1) rfl (WO.o rfl (R.pickT rfl (dT h1) rfl) (WO.nil (WX.next ?_)))))))
  refine WC.tt rfl (rfl) (WC.sr (WO.a rfl rfl (WO.nil (WX.next (WC.ret (WX.thenR ?_))))))
  refine WX.ret1 Tryz.results15 rfl ⟨_, rfl, by rw [decide_eq_false (by omega)], hE⟩
 ·
  refine WO.yes rfl rfl (dF h1) (WO.o rfl (R.fieldAddr Tryz.runUnderlying26 rfl Tryz.sizeOf23 rfl) (WO.yes rfl rfl (dF h1) (WO.o rfl (R.load Tryz.isAgg23 rfl (hB_g.cells 1 _ rfl)) (WO.yes rfl rfl (dF h1) (WO.o rfl (R.lenS rfl Tryz.runUnderlying23 rfl) (WO.yes rfl rfl (dF h1) (WO.mv rfl rfl (WO.yes rfl rfl (dF h1) (WO.o rfl (R.gtr rfl rfl) (WO.o rfl (R.pickF rfl (dF h1) rfl) (WO.nil (WX.next ?_))))))))))))
  refine WC.ite rfl (fun h2 => ?_) (fun h2 => ?_)
  ·
   refine WC.sr (WO.a rfl rfl (WO.nil (WX.next (WC.ret (WX.thenR ?_)))))
   refine WX.ret1 Tryz.results15 rfl ⟨_, rfl, by rw [decide_eq_false (by omega)], hE⟩
  ·
   refine WC.ks (WO.o rfl (R.fieldAddr Tryz.runUnderlying26 rfl Tryz.sizeOf24 rfl) (WO.o rfl (R.load Tryz.isAgg24 rfl (hB_g.cells 2 _ rfl)) (WO.mv rfl rfl (WO.call rfl rfl rfl (F.call (vs := [_, _]) Tryz.call57 rfl) (stepsLeft_ok f.body _ D _ b hbd (by omega) (by omega)) ?_))))
   rintro _ wz1 ⟨⟨m, rfl, hm1, hm2⟩, hz1⟩
   replace hE := hE.ext hz1
   replace hh := hh.ext stable_ht hz1
   replace hbd := hbd.ext stable_st hz1
   replace hB_g := hz1.blk hB_g (fun h => h)
   refine WO.a rfl rfl (WO.nil (WX.next (WC.seq (WC.seq (WC.region ?_)))))
   refine WO.o rfl (R.fieldAddr Tryz.runUnderlying26 rfl Tryz.sizeOf23 rfl) (WO.o rfl (R.load Tryz.isAgg23 rfl (hB_g.cells 1 _ rfl)) (WO.o rfl (R.lenS rfl Tryz.runUnderlying23 rfl) (WO.mv rfl rfl (WO.nil (WX.next (WC.block ?_))))))
   refine WC.loop (σ := Nat × Int) (fun ⟨i, x⟩ => [(7, .int .i64 x), (27, .slice a2 f.hatches.length n2), (28, .int .i64 f.hatches.length), (29, .int .i64 i)]) (fun ⟨i, x⟩ => fun w' => i ≤ f.hatches.length ∧ (((sbulk f.body + hnodes (f.hatches.take i) : Nat) : Int) ≤ b → x = b - (sbulk f.body + hnodes (f.hatches.take i) : Nat)) ∧ (¬ ((sbulk f.body + hnodes (f.hatches.take i) : Nat) : Int) ≤ b → x < 0 ∧ -1 - (i : Int) ≤ x) ∧ Ext wz1 w') (fun ⟨i, x⟩ => f.hatches.length - i) ((0, m)) (Sub.of rfl) (⟨Nat.zero_le _, fun h => by simp [hnodes] at h ⊢; omega, fun h => by simp [hnodes] at h ⊢; omega, Keep.refl _ _⟩) ?_
   rintro ⟨i, x⟩ w1 ⟨hi, hy, hn, hL1⟩
   show WC _ _ _ _ [(7, .int .i64 x), (27, .slice a2 f.hatches.length n2), (28, .int .i64 f.hatches.length), (29, .int .i64 i)] _
   replace hE := hE.ext hL1
   replace hh := hh.ext stable_ht hL1
   replace hbd := hbd.ext stable_st hL1
   replace hB_g := hL1.blk hB_g (fun h => h)
   refine WC.sr (WO.o rfl (R.lss rfl rfl) (WO.nil (WX.next (WC.seq ?_))))
   refine WC.ite rfl (fun hlt => ?_) (fun hlt => ?_)
   ·
    obtain ⟨e, he_e⟩ : ∃ x, f.hatches[i]? = some x := ⟨_, List.getElem?_eq_getElem (by omega)⟩
    have hm_e := List.mem_of_getElem? he_e
    obtain ⟨b_e, o_e, c_e, ha_e, _, hc_e, hR_e⟩ := hh.at he_e
    have h1_e := RHt.one hR_e
    obtain ⟨v1_e, rfl, hk_e⟩ := hR_e
    obtain ⟨a1_e, n1_e, rfl⟩ := hk_e.form
    have hlt_e : b_e < _ := World.block_lt_of_cell? _ _ (hc_e 0 _ rfl)
    have hsp := hnodes_take he_e
    refine WC.skip (WX.next (WC.seq (WC.block (WC.seq (WC.region (WO.o rfl (R.indexS Tryz.runUnderlying23 Tryz.sizeOf109 rfl rfl ha_e (by omega)) (WO.o rfl (R.loadK Tryz.isAgg109 Tryz.sizeOf109 rfl (by rfl) hc_e) (WO.mem rfl rfl rfl (M.alloc (cs := _) Tryz.zeroValue109 rfl) ?_))))))))
    rintro _ wa2 ⟨c, rfl, hg_c, hs_c, hB_c, hk_c⟩
    refine WO.mem0 rfl rfl (M.storeK Tryz.sizeOf109 rfl rfl rfl rfl h1_e hB_c (by simp)) ?_
    rintro w_c ⟨_, hB_c, hkk_c⟩
    replace hk_c := hk_c.trans hkk_c (fun q hq h => by have h : q = c := h; omega)
    have hn_g_c : g ≠ c := by have := hB_g.lt; omega
    have hge_c : _ ≤ c := Nat.le_trans hE.size (Nat.le_of_eq hg_c.symm)
    replace hE := hE.ext hk_c
    replace hh := hh.ext stable_ht hk_c
    replace hbd := hbd.ext stable_st hk_c
    replace hB_g := hk_c.blk hB_g (fun h => h)
    replace hL1 := hL1.ext hk_c
    replace hc_e := hk_c.cells hc_e (fun h => h)
    replace hk_e := hk_e.ext stable_tm hk_c
    refine WO.nil (WX.next (WC.region (WO.o rfl (R.fieldAddr Tryz.runUnderlying109 rfl Tryz.sizeOf84 rfl) (WO.o rfl (R.loadK Tryz.isAgg84 Tryz.sizeOf84 rfl (by rfl) (hB_c.cells.sub 3 3)) (WO.mv rfl rfl (WO.call rfl rfl rfl (F.call (vs := [_, _]) Tryz.call58 rfl) (termLeft_ok e.term _ D _ x (RTm.put hk_e) (by by_cases h4 : ((sbulk f.body + hnodes (f.hatches.take i) : Nat) : Int) ≤ b <;> first | (have := hy h4; omega) | (have := hn h4; omega)) (by by_cases h4 : ((sbulk f.body + hnodes (f.hatches.take i) : Nat) : Int) ≤ b <;> first | (have := hy h4; omega) | (have := hn h4; omega))) ?_))))))
    rintro _ wz3 ⟨⟨m2, rfl, h6, h7⟩, hz3⟩
    replace hE := hE.ext hz3
    replace hh := hh.ext stable_ht hz3
    replace hbd := hbd.ext stable_st hz3
    replace hB_g := hz3.blk hB_g (fun h => h)
    replace hL1 := hL1.ext hz3
    replace hc_e := hz3.cells hc_e (fun h => h)
    replace hk_e := hk_e.ext stable_tm hz3
    replace hB_c := hz3.blk hB_c (fun h => h)
    refine WO.a rfl rfl (WO.nil (WX.blockN (WX.next (WC.region ?_))))
    refine WO.o rfl (R.add rfl rfl (wrap_i64_in (by omega))) (WO.mv rfl rfl (WO.nil (WX.back ((i + 1, m2)) (Sub.of rfl) (⟨by omega, ?_, ?_, hL1⟩) (by first | omega | (dsimp only; omega)))))
    ·
     intro h3
     rw [hsp] at h3 ⊢
     have := hy (by omega)
     rw [h6 (by omega)]; omega
    ·
     intro h3
     rw [hsp] at h3
     by_cases h4 : ((sbulk f.body + hnodes (f.hatches.take i) : Nat) : Int) ≤ b
     ·
      have := hy h4
      have := h7 (by omega)
      omega
     ·
      have := hn h4
      have := h7 (by omega)
      omega
   ·
    have : i = f.hatches.length := by omega
    subst this
    rw [List.take_length] at hy hn
    refine WC.exit (WX.thenE (WX.thenE (WX.hit (WX.next (WC.seq (WC.region (WO.mv rfl rfl (WO.o rfl (R.geq rfl rfl) (WO.a rfl rfl (WO.nil (WX.next (WC.ret ?_))))))))))))
    refine WX.ret1 Tryz.results15 rfl ⟨_, rfl, ?_, hE⟩
    congr 1
    by_cases h4 : ((sbulk f.body + hnodes f.hatches : Nat) : Int) ≤ b
    · rw [decide_eq_true (by have := hy h4; omega), decide_eq_true (by omega)]
    · rw [decide_eq_false (by have := hn h4; omega), decide_eq_false (by omega)]
def kidsN (op : Int) : Int := if op = 0 ∨ op = 24 then 0 else if op = 6 ∨ op = 7 then 1 else if 8 ≤ op ∧ op ≤ 22 then 2 else if op = 23 then 3 else if op = 25 then -2 else -1
theorem refKids_ok (op : Int) (w : World) : Calls Tryz.prog 161 #[.int .i64 op] w (Ret fun r w' => r = .int .i64 (kidsN op) ∧ Ext w w') := by
 refine calls Tryz.func161 rfl [(0, .int .i64 op)] 30 ⟨Nat.le_of_ble_eq_true rfl, Tryz.ntmps161⟩ (argsOk (Sub.of rfl)) ?_
 refine WC.sr (WO.a rfl rfl (WO.nil (WX.next (WC.seq (WC.seq (WC.region ?_))))))
 refine WO.mv rfl rfl (WO.nil (WX.next (WC.block (WC.seq (WC.seq (WC.region ?_))))))
 refine WO.o rfl (R.eql rfl rfl) (WO.a rfl rfl (WO.nil (WX.next ?_)))
 refine WC.ite rfl (fun k0 => ?_) (fun k0 => ?_)
 ·
  refine WC.skip (WX.next (WC.tt rfl ((dT k0)) (WC.sr (WO.a rfl rfl (WO.nil (WX.next (WC.ret (WX.blockR (WX.thenR ?_)))))))))
  refine WX.ret1 Tryz.results161 rfl ⟨_, rfl, by unfold kidsN; repeat (first | rw [if_pos (by omega)] | rw [if_neg (by omega)]), Keep.refl _ _⟩
 ·
  refine WC.region (WO.o rfl (R.eql rfl rfl) (WO.a rfl rfl (WO.nil (WX.next ?_))))
  refine WC.ite rfl (fun k24 => ?_) (fun k24 => ?_)
  ·
   refine WC.sr (WO.a rfl rfl (WO.nil (WX.next (WC.ret (WX.blockR (WX.thenR ?_))))))
   refine WX.ret1 Tryz.results161 rfl ⟨_, rfl, by unfold kidsN; repeat (first | rw [if_pos (by omega)] | rw [if_neg (by omega)]), Keep.refl _ _⟩
  ·
   refine WC.seq (WC.seq (WC.region (WO.o rfl (R.eql rfl rfl) (WO.a rfl rfl (WO.nil (WX.next ?_))))))
   refine WC.ite rfl (fun k6 => ?_) (fun k6 => ?_)
   ·
    refine WC.skip (WX.next (WC.tt rfl ((dT k6)) (WC.sr (WO.a rfl rfl (WO.nil (WX.next (WC.ret (WX.blockR (WX.thenR ?_)))))))))
    refine WX.ret1 Tryz.results161 rfl ⟨_, rfl, by unfold kidsN; repeat (first | rw [if_pos (by omega)] | rw [if_neg (by omega)]), Keep.refl _ _⟩
   ·
    refine WC.region (WO.o rfl (R.eql rfl rfl) (WO.a rfl rfl (WO.nil (WX.next ?_))))
    refine WC.ite rfl (fun k7 => ?_) (fun k7 => ?_)
    ·
     refine WC.sr (WO.a rfl rfl (WO.nil (WX.next (WC.ret (WX.blockR (WX.thenR ?_))))))
     refine WX.ret1 Tryz.results161 rfl ⟨_, rfl, by unfold kidsN; repeat (first | rw [if_pos (by omega)] | rw [if_neg (by omega)]), Keep.refl _ _⟩
    ·
     refine WC.seq (WC.seq (WC.region (WO.o rfl (R.eql rfl rfl) (WO.a rfl rfl (WO.nil (WX.next ?_))))))
     refine WC.ite rfl (fun k8 => ?_) (fun k8 => ?_)
     ·
      refine WC.skip (WX.next (WC.tt rfl ((dT k8)) (WC.sr (WO.a rfl rfl (WO.nil (WX.next (WC.ret (WX.blockR (WX.thenR ?_)))))))))
      refine WX.ret1 Tryz.results161 rfl ⟨_, rfl, by unfold kidsN; repeat (first | rw [if_pos (by omega)] | rw [if_neg (by omega)]), Keep.refl _ _⟩
     ·
      refine WC.sr (WO.o rfl (R.eql rfl rfl) (WO.a rfl rfl (WO.nil (WX.next ?_))))
      refine WC.ite rfl (fun k9 => ?_) (fun k9 => ?_)
      ·
       refine WC.skip (WX.next (WC.tt rfl ((dT k9)) (WC.sr (WO.a rfl rfl (WO.nil (WX.next (WC.ret (WX.blockR (WX.thenR ?_)))))))))
       refine WX.ret1 Tryz.results161 rfl ⟨_, rfl, by unfold kidsN; repeat (first | rw [if_pos (by omega)] | rw [if_neg (by omega)]), Keep.refl _ _⟩
      ·
       refine WC.sr (WO.o rfl (R.eql rfl rfl) (WO.a rfl rfl (WO.nil (WX.next ?_))))
       refine WC.ite rfl (fun k10 => ?_) (fun k10 => ?_)
       ·
        refine WC.skip (WX.next (WC.tt rfl ((dT k10)) (WC.sr (WO.a rfl rfl (WO.nil (WX.next (WC.ret (WX.blockR (WX.thenR ?_)))))))))
        refine WX.ret1 Tryz.results161 rfl ⟨_, rfl, by unfold kidsN; repeat (first | rw [if_pos (by omega)] | rw [if_neg (by omega)]), Keep.refl _ _⟩
       ·
        refine WC.sr (WO.o rfl (R.eql rfl rfl) (WO.a rfl rfl (WO.nil (WX.next ?_))))
        refine WC.ite rfl (fun k11 => ?_) (fun k11 => ?_)
        ·
         refine WC.skip (WX.next (WC.tt rfl ((dT k11)) (WC.sr (WO.a rfl rfl (WO.nil (WX.next (WC.ret (WX.blockR (WX.thenR ?_)))))))))
         refine WX.ret1 Tryz.results161 rfl ⟨_, rfl, by unfold kidsN; repeat (first | rw [if_pos (by omega)] | rw [if_neg (by omega)]), Keep.refl _ _⟩
        ·
         refine WC.sr (WO.o rfl (R.eql rfl rfl) (WO.a rfl rfl (WO.nil (WX.next ?_))))
         refine WC.ite rfl (fun k12 => ?_) (fun k12 => ?_)
         ·
          refine WC.skip (WX.next (WC.tt rfl ((dT k12)) (WC.sr (WO.a rfl rfl (WO.nil (WX.next (WC.ret (WX.blockR (WX.thenR ?_)))))))))
          refine WX.ret1 Tryz.results161 rfl ⟨_, rfl, by unfold kidsN; repeat (first | rw [if_pos (by omega)] | rw [if_neg (by omega)]), Keep.refl _ _⟩
         ·
          refine WC.sr (WO.o rfl (R.eql rfl rfl) (WO.a rfl rfl (WO.nil (WX.next ?_))))
          refine WC.ite rfl (fun k13 => ?_) (fun k13 => ?_)
          ·
           refine WC.skip (WX.next (WC.tt rfl ((dT k13)) (WC.sr (WO.a rfl rfl (WO.nil (WX.next (WC.ret (WX.blockR (WX.thenR ?_)))))))))
           refine WX.ret1 Tryz.results161 rfl ⟨_, rfl, by unfold kidsN; repeat (first | rw [if_pos (by omega)] | rw [if_neg (by omega)]), Keep.refl _ _⟩
          ·
           refine WC.sr (WO.o rfl (R.eql rfl rfl) (WO.a rfl rfl (WO.nil (WX.next ?_))))
           refine WC.ite rfl (fun k14 => ?_) (fun k14 => ?_)
           ·
            refine WC.skip (WX.next (WC.tt rfl ((dT k14)) (WC.sr (WO.a rfl rfl (WO.nil (WX.next (WC.ret (WX.blockR (WX.thenR ?_)))))))))
            refine WX.ret1 Tryz.results161 rfl ⟨_, rfl, by unfold kidsN; repeat (first | rw [if_pos (by omega)] | rw [if_neg (by omega)]), Keep.refl _ _⟩
           ·
            refine WC.sr (WO.o rfl (R.eql rfl rfl) (WO.a rfl rfl (WO.nil (WX.next ?_))))
            refine WC.ite rfl (fun k15 => ?_) (fun k15 => ?_)
            ·
             refine WC.skip (WX.next (WC.tt rfl ((dT k15)) (WC.sr (WO.a rfl rfl (WO.nil (WX.next (WC.ret (WX.blockR (WX.thenR ?_)))))))))
             refine WX.ret1 Tryz.results161 rfl ⟨_, rfl, by unfold kidsN; repeat (first | rw [if_pos (by omega)] | rw [if_neg (by omega)]), Keep.refl _ _⟩
            ·
             refine WC.sr (WO.o rfl (R.eql rfl rfl) (WO.a rfl rfl (WO.nil (WX.next ?_))))
             refine WC.ite rfl (fun k16 => ?_) (fun k16 => ?_)
             ·
              refine WC.skip (WX.next (WC.tt rfl ((dT k16)) (WC.sr (WO.a rfl rfl (WO.nil (WX.next (WC.ret (WX.blockR (WX.thenR ?_)))))))))
              refine WX.ret1 Tryz.results161 rfl ⟨_, rfl, by unfold kidsN; repeat (first | rw [if_pos (by omega)] | rw [if_neg (by omega)]), Keep.refl _ _⟩
             ·
              refine WC.sr (WO.o rfl (R.eql rfl rfl) (WO.a rfl rfl (WO.nil (WX.next ?_))))
              refine WC.ite rfl (fun k17 => ?_) (fun k17 => ?_)
              ·
               refine WC.skip (WX.next (WC.tt rfl ((dT k17)) (WC.sr (WO.a rfl rfl (WO.nil (WX.next (WC.ret (WX.blockR (WX.thenR ?_)))))))))
               refine WX.ret1 Tryz.results161 rfl ⟨_, rfl, by unfold kidsN; repeat (first | rw [if_pos (by omega)] | rw [if_neg (by omega)]), Keep.refl _ _⟩
              ·
               refine WC.sr (WO.o rfl (R.eql rfl rfl) (WO.a rfl rfl (WO.nil (WX.next ?_))))
               refine WC.ite rfl (fun k18 => ?_) (fun k18 => ?_)
               ·
                refine WC.skip (WX.next (WC.tt rfl ((dT k18)) (WC.sr (WO.a rfl rfl (WO.nil (WX.next (WC.ret (WX.blockR (WX.thenR ?_)))))))))
                refine WX.ret1 Tryz.results161 rfl ⟨_, rfl, by unfold kidsN; repeat (first | rw [if_pos (by omega)] | rw [if_neg (by omega)]), Keep.refl _ _⟩
               ·
                refine WC.sr (WO.o rfl (R.eql rfl rfl) (WO.a rfl rfl (WO.nil (WX.next ?_))))
                refine WC.ite rfl (fun k19 => ?_) (fun k19 => ?_)
                ·
                 refine WC.skip (WX.next (WC.tt rfl ((dT k19)) (WC.sr (WO.a rfl rfl (WO.nil (WX.next (WC.ret (WX.blockR (WX.thenR ?_)))))))))
                 refine WX.ret1 Tryz.results161 rfl ⟨_, rfl, by unfold kidsN; repeat (first | rw [if_pos (by omega)] | rw [if_neg (by omega)]), Keep.refl _ _⟩
                ·
                 refine WC.sr (WO.o rfl (R.eql rfl rfl) (WO.a rfl rfl (WO.nil (WX.next ?_))))
                 refine WC.ite rfl (fun k20 => ?_) (fun k20 => ?_)
                 ·
                  refine WC.skip (WX.next (WC.tt rfl ((dT k20)) (WC.sr (WO.a rfl rfl (WO.nil (WX.next (WC.ret (WX.blockR (WX.thenR ?_)))))))))
                  refine WX.ret1 Tryz.results161 rfl ⟨_, rfl, by unfold kidsN; repeat (first | rw [if_pos (by omega)] | rw [if_neg (by omega)]), Keep.refl _ _⟩
                 ·
                  refine WC.sr (WO.o rfl (R.eql rfl rfl) (WO.a rfl rfl (WO.nil (WX.next ?_))))
                  refine WC.ite rfl (fun k21 => ?_) (fun k21 => ?_)
                  ·
                   refine WC.skip (WX.next (WC.tt rfl ((dT k21)) (WC.sr (WO.a rfl rfl (WO.nil (WX.next (WC.ret (WX.blockR (WX.thenR ?_)))))))))
                   refine WX.ret1 Tryz.results161 rfl ⟨_, rfl, by unfold kidsN; repeat (first | rw [if_pos (by omega)] | rw [if_neg (by omega)]), Keep.refl _ _⟩
                  ·
                   refine WC.region (WO.o rfl (R.eql rfl rfl) (WO.a rfl rfl (WO.nil (WX.next ?_))))
                   refine WC.ite rfl (fun k22 => ?_) (fun k22 => ?_)
                   ·
                    refine WC.sr (WO.a rfl rfl (WO.nil (WX.next (WC.ret (WX.blockR (WX.thenR ?_))))))
                    refine WX.ret1 Tryz.results161 rfl ⟨_, rfl, by unfold kidsN; repeat (first | rw [if_pos (by omega)] | rw [if_neg (by omega)]), Keep.refl _ _⟩
                   ·
                    refine WC.sr (WO.o rfl (R.eql rfl rfl) (WO.a rfl rfl (WO.nil (WX.next ?_))))
                    refine WC.ite rfl (fun k23 => ?_) (fun k23 => ?_)
                    ·
                     refine WC.sr (WO.a rfl rfl (WO.nil (WX.next (WC.ret (WX.blockR (WX.thenR ?_))))))
                     refine WX.ret1 Tryz.results161 rfl ⟨_, rfl, by unfold kidsN; repeat (first | rw [if_pos (by omega)] | rw [if_neg (by omega)]), Keep.refl _ _⟩
                    ·
                     refine WC.sr (WO.o rfl (R.eql rfl rfl) (WO.a rfl rfl (WO.nil (WX.next ?_))))
                     refine WC.ite rfl (fun k25 => ?_) (fun k25 => ?_)
                     ·
                      refine WC.sr (WO.a rfl rfl (WO.nil (WX.next (WC.ret (WX.blockR (WX.thenR ?_))))))
                      refine WX.ret1 Tryz.results161 rfl ⟨_, rfl, by unfold kidsN; repeat (first | rw [if_pos (by omega)] | rw [if_neg (by omega)]), Keep.refl _ _⟩
                     ·
                      refine WC.skip (WX.blockN (WX.next (WC.seq (WC.region (WO.a rfl rfl (WO.nil (WX.next (WC.ret ?_))))))))
                      refine WX.ret1 Tryz.results161 rfl ⟨_, rfl, by unfold kidsN; repeat (first | rw [if_pos (by omega)] | rw [if_neg (by omega)]), Keep.refl _ _⟩
theorem flatKids_ok (op : Int) (w : World) : Calls Tryz.prog 218 #[.int .i64 op] w (Ret fun r w' => (∃ a b : Int, r = .tuple #[.int .i64 a, .int .i64 b] ∧ (a < 0 ↔ kidsN op = -1) ∧ (0 ≤ kidsN op → a = kidsN op ∧ b = kidsN op) ∧ (kidsN op = -2 → a = 2 ∧ b = 33)) ∧ Ext w w') := by
 refine calls Tryz.func218 rfl [(0, .int .i64 op)] 31 ⟨Nat.le_of_ble_eq_true rfl, Tryz.ntmps218⟩ (argsOk (Sub.of rfl)) ?_
 refine WC.sr (WO.a rfl rfl (WO.a rfl rfl (WO.nil (WX.next (WC.seq (WC.block (WC.seq (WC.region ?_))))))))
 refine WO.mv rfl rfl (WO.o rfl (R.eql rfl rfl) (WO.mv rfl rfl (WO.splitP (d := 7) rfl (fun h1 => ?_) (fun h1 => ?_))))
 ·
  refine WO.no rfl rfl (dT h1) rfl (WO.no rfl rfl (dT h1) rfl (WO.o rfl (R.pickT rfl (dT h1) rfl) (WO.a rfl rfl (WO.nil (WX.next ?_)))))
  refine WC.tt rfl (rfl) (WC.sr (WO.a rfl rfl (WO.a rfl rfl (WO.nil (WX.next (WC.ret (WX.blockR (WX.thenR ?_))))))))
  have e : kidsN op = 0 := by unfold kidsN; rw [if_pos (by omega)]
  refine WX.ret2 Tryz.results218 rfl rfl ⟨_, rfl, ⟨0, 0, rfl, by rw [e]; omega, fun _ => by rw [e]; exact ⟨rfl, rfl⟩, fun h => by rw [e] at h; omega⟩, Keep.refl _ _⟩
 ·
  refine WO.yes rfl rfl (dF h1) (WO.mv rfl rfl (WO.yes rfl rfl (dF h1) (WO.o rfl (R.eql rfl rfl) (WO.o rfl (R.pickF rfl (dF h1) rfl) (WO.a rfl rfl (WO.nil (WX.next ?_)))))))
  refine WC.ite rfl (fun h2 => ?_) (fun h2 => ?_)
  ·
   refine WC.sr (WO.a rfl rfl (WO.a rfl rfl (WO.nil (WX.next (WC.ret (WX.blockR (WX.thenR ?_)))))))
   have e : kidsN op = 0 := by unfold kidsN; rw [if_pos (by omega)]
   refine WX.ret2 Tryz.results218 rfl rfl ⟨_, rfl, ⟨0, 0, rfl, by rw [e]; omega, fun _ => by rw [e]; exact ⟨rfl, rfl⟩, fun h => by rw [e] at h; omega⟩, Keep.refl _ _⟩
  ·
   refine WC.sr (WO.mv rfl rfl (WO.o rfl (R.eql rfl rfl) (WO.mv rfl rfl (WO.splitP (d := 14) rfl (fun h3 => ?_) (fun h3 => ?_)))))
   ·
    refine WO.no rfl rfl (dT h3) rfl (WO.no rfl rfl (dT h3) rfl (WO.o rfl (R.pickT rfl (dT h3) rfl) (WO.a rfl rfl (WO.nil (WX.next ?_)))))
    refine WC.tt rfl (rfl) (WC.sr (WO.a rfl rfl (WO.a rfl rfl (WO.nil (WX.next (WC.ret (WX.blockR (WX.thenR ?_))))))))
    have e : kidsN op = 1 := by unfold kidsN; rw [if_neg (by omega), if_pos (by omega)]
    refine WX.ret2 Tryz.results218 rfl rfl ⟨_, rfl, ⟨1, 1, rfl, by rw [e]; omega, fun _ => by rw [e]; exact ⟨rfl, rfl⟩, fun h => by rw [e] at h; omega⟩, Keep.refl _ _⟩
   ·
    refine WO.yes rfl rfl (dF h3) (WO.mv rfl rfl (WO.yes rfl rfl (dF h3) (WO.o rfl (R.eql rfl rfl) (WO.o rfl (R.pickF rfl (dF h3) rfl) (WO.a rfl rfl (WO.nil (WX.next ?_)))))))
    refine WC.ite rfl (fun h4 => ?_) (fun h4 => ?_)
    ·
     refine WC.sr (WO.a rfl rfl (WO.a rfl rfl (WO.nil (WX.next (WC.ret (WX.blockR (WX.thenR ?_)))))))
     have e : kidsN op = 1 := by unfold kidsN; rw [if_neg (by omega), if_pos (by omega)]
     refine WX.ret2 Tryz.results218 rfl rfl ⟨_, rfl, ⟨1, 1, rfl, by rw [e]; omega, fun _ => by rw [e]; exact ⟨rfl, rfl⟩, fun h => by rw [e] at h; omega⟩, Keep.refl _ _⟩
    ·
     refine WC.seq (WC.cut (σ := Bool) (fun q => [(0, .int .i64 op), (18, .bool q)]) (fun q => fun w' => (q = true ↔ 8 ≤ op ∧ op ≤ 22) ∧ w' = w) ?_ ?_)
     ·
      refine WC.region (WO.mv rfl rfl (WO.o rfl (R.geq rfl rfl) (WO.mv rfl rfl (WO.splitP (d := 21) rfl (fun h5 => ?_) (fun h5 => ?_)))))
      · refine WO.yes rfl rfl (dT h5) (WO.mv rfl rfl (WO.yes rfl rfl (dT h5) (WO.o rfl (R.leq rfl rfl) (WO.o rfl (R.pickT rfl (dT h5) rfl) (WO.a rfl rfl (WO.nil (WX.meet (decide (op ≤ 22)) (Sub.of rfl) (⟨by simp; omega, rfl⟩))))))))
      · refine WO.no rfl rfl (dF h5) rfl (WO.no rfl rfl (dF h5) rfl (WO.o rfl (R.pickF rfl (dF h5) rfl) (WO.a rfl rfl (WO.nil (WX.meet (false) (Sub.of rfl) (⟨by simp; omega, rfl⟩))))))
     ·
      rintro q w1 ⟨hq, hw1⟩
      show WX _ _ _ [(0, .int .i64 op), (18, .bool q)] _
      subst hw1
      refine WX.next (WC.bool rfl (fun h6 => ?_) (fun h6 => ?_))
      ·
       have h7 := hq.1 h6
       refine WC.sr (WO.a rfl rfl (WO.a rfl rfl (WO.nil (WX.next (WC.ret (WX.blockR (WX.thenR ?_)))))))
       have e : kidsN op = 2 := by unfold kidsN; rw [if_neg (by omega), if_neg (by omega), if_pos (by omega)]
       refine WX.ret2 Tryz.results218 rfl rfl ⟨_, rfl, ⟨2, 2, rfl, by rw [e]; omega, fun _ => by rw [e]; exact ⟨rfl, rfl⟩, fun h => by rw [e] at h; omega⟩, Keep.refl _ _⟩
      ·
       have h7 : ¬ (8 ≤ op ∧ op ≤ 22) := fun h => by rw [hq.2 h] at h6; cases h6
       refine WC.sr (WO.mv rfl rfl (WO.o rfl (R.eql rfl rfl) (WO.a rfl rfl (WO.nil (WX.next ?_)))))
       refine WC.ite rfl (fun h8 => ?_) (fun h8 => ?_)
       ·
        refine WC.sr (WO.a rfl rfl (WO.a rfl rfl (WO.nil (WX.next (WC.ret (WX.blockR (WX.thenR ?_)))))))
        have e : kidsN op = 3 := by unfold kidsN; rw [if_neg (by omega), if_neg (by omega), if_neg (by omega), if_pos (by omega)]
        refine WX.ret2 Tryz.results218 rfl rfl ⟨_, rfl, ⟨3, 3, rfl, by rw [e]; omega, fun _ => by rw [e]; exact ⟨rfl, rfl⟩, fun h => by rw [e] at h; omega⟩, Keep.refl _ _⟩
       ·
        refine WC.sr (WO.mv rfl rfl (WO.o rfl (R.eql rfl rfl) (WO.a rfl rfl (WO.nil (WX.next ?_)))))
        refine WC.ite rfl (fun h9 => ?_) (fun h9 => ?_)
        ·
         refine WC.sr (WO.a rfl rfl (WO.a rfl rfl (WO.nil (WX.next (WC.ret (WX.blockR (WX.thenR ?_)))))))
         have e : kidsN op = -2 := by unfold kidsN; rw [if_neg (by omega), if_neg (by omega), if_neg (by omega), if_neg (by omega), if_pos (by omega)]
         refine WX.ret2 Tryz.results218 rfl rfl ⟨_, rfl, ⟨2, 33, rfl, by rw [e]; omega, fun h => by rw [e] at h; omega, fun _ => ⟨rfl, rfl⟩⟩, Keep.refl _ _⟩
        ·
         refine WC.skip (WX.blockN (WX.next (WC.seq (WC.region (WO.a rfl rfl (WO.a rfl rfl (WO.nil (WX.next (WC.ret ?_)))))))))
         have e : kidsN op = -1 := by unfold kidsN; rw [if_neg (by omega), if_neg (by omega), if_neg (by omega), if_neg (by omega), if_neg (by omega)]
         refine WX.ret2 Tryz.results218 rfl rfl ⟨_, rfl, ⟨-1, -1, rfl, by rw [e]; omega, fun h => by rw [e] at h; omega, fun h => by rw [e] at h; omega⟩, Keep.refl _ _⟩
@[irreducible] def letterB (n : Int) : Bool := decide (97 ≤ n ∧ n ≤ 122)
@[irreducible] def otherB (n : Int) : Bool := decide (48 ≤ n ∧ n ≤ 57 ∨ n = 46 ∨ n = 95)
def okB (i : Nat) (n : Int) : Bool := letterB n || (decide (i ≠ 0) && otherB n)
@[irreducible] def isNm (s : ByteArray) : Bool := decide (1 ≤ s.size ∧ s.size ≤ 40 ∧ ∀ (i : Nat) (h : i < s.size), okB i (s[i].toNat : Int) = true)
theorem refIsName_ok (s : ByteArray) (w : World) : Calls Tryz.prog 63 #[.string s] w (Ret fun r w' => r = .bool (isNm s) ∧ Ext w w') := by
 refine calls Tryz.func63 rfl [(0, .string s)] 54 ⟨Nat.le_of_ble_eq_true rfl, Tryz.ntmps63⟩ (argsOk (Sub.of rfl)) ?_
 refine WC.sr (WO.a rfl rfl (WO.nil (WX.next (WC.seq (WC.seq (WC.region ?_))))))
 refine WO.mv rfl rfl (WO.o rfl (R.lenStr rfl Tryz.underlying9 rfl) (WO.o rfl (R.lss rfl rfl) (WO.mv rfl rfl (WO.splitP (d := 10) rfl (fun h1 => ?_) (fun h1 => ?_)))))
 ·
  refine WO.no rfl rfl (dT h1) rfl (WO.no rfl rfl (dT h1) rfl (WO.no rfl rfl (dT h1) rfl (WO.o rfl (R.pickT rfl (dT h1) rfl) (WO.nil (WX.next ?_)))))
  refine WC.tt rfl (rfl) (WC.sr (WO.a rfl rfl (WO.nil (WX.next (WC.ret (WX.thenR ?_))))))
  refine WX.ret1 Tryz.results63 rfl ⟨_, rfl, by rw [isNm, decide_eq_false (fun h => by omega)], Keep.refl _ _⟩
 ·
  refine WO.yes rfl rfl (dF h1) (WO.mv rfl rfl (WO.yes rfl rfl (dF h1) (WO.o rfl (R.lenStr rfl Tryz.underlying9 rfl) (WO.yes rfl rfl (dF h1) (WO.o rfl (R.gtr rfl rfl) (WO.o rfl (R.pickF rfl (dF h1) rfl) (WO.nil (WX.next ?_))))))))
  refine WC.ite rfl (fun h2 => ?_) (fun h2 => ?_)
  ·
   refine WC.sr (WO.a rfl rfl (WO.nil (WX.next (WC.ret (WX.thenR ?_)))))
   refine WX.ret1 Tryz.results63 rfl ⟨_, rfl, by rw [isNm, decide_eq_false (fun h => by omega)], Keep.refl _ _⟩
  ·
   refine WC.skip (WX.next (WC.seq (WC.seq (WC.region (WO.a rfl rfl (WO.nil (WX.next (WC.block ?_))))))))
   refine WC.loop (σ := Nat) (fun i => [(0, .string s), (3, .int .i64 i)]) (fun i => fun w' => i ≤ s.size ∧ (∀ (j : Nat) (h : j < s.size), j < i → okB j (s[j].toNat : Int) = true) ∧ w' = w) (fun i => s.size - i) (0) (Sub.of rfl) (⟨Nat.zero_le _, fun j _ h => absurd h (Nat.not_lt_zero _), rfl⟩) ?_
   rintro i w1 ⟨hi, hall, hw1⟩
   show WC _ _ _ _ [(0, .string s), (3, .int .i64 i)] _
   subst hw1
   refine WC.seq (WC.seq (WC.region (WO.mv rfl rfl (WO.mv rfl rfl (WO.o rfl (R.lenStr rfl Tryz.underlying9 rfl) (WO.o rfl (R.lss rfl rfl) (WO.nil (WX.next ?_))))))))
   refine WC.ite rfl (fun hlt => ?_) (fun hlt => ?_)
   ·
    have hlt' : i < s.size := by omega
    refine WC.skip (WX.next (WC.seq (WC.block (WC.seq (WC.region (WO.mv rfl rfl (WO.mv rfl rfl (WO.o rfl (R.indexStr Tryz.underlying9 rfl rfl i rfl hlt') ?_))))))))
    obtain ⟨n, hn⟩ : ∃ n : Int, n = (s[i].toNat : Int) := ⟨_, rfl⟩
    rw [← hn]
    refine WO.a rfl rfl (WO.nil (WX.next (WC.seq ?_)))
    refine WC.cut (σ := Bool) (fun q => [(0, .string s), (3, .int .i64 i), (4, .int .u8 n), (5, .bool q)]) (fun q => fun w' => q = letterB n ∧ w' = w1) ?_ ?_
    ·
     refine WC.region (WO.mv rfl rfl (WO.o rfl (R.geq rfl rfl) (WO.mv rfl rfl (WO.splitP (d := 26) rfl (fun a => ?_) (fun a => ?_)))))
     · refine WO.yes rfl rfl (dT a) (WO.mv rfl rfl (WO.yes rfl rfl (dT a) (WO.o rfl (R.leq rfl rfl) (WO.o rfl (R.pickT rfl (dT a) rfl) (WO.a rfl rfl (WO.nil (WX.meet (decide (n ≤ 122)) (Sub.of rfl) (⟨by unfold letterB; congr 1; simp; omega, rfl⟩))))))))
     · refine WO.no rfl rfl (dF a) rfl (WO.no rfl rfl (dF a) rfl (WO.o rfl (R.pickF rfl (dF a) rfl) (WO.a rfl rfl (WO.nil (WX.meet (false) (Sub.of rfl) (⟨by unfold letterB; rw [decide_eq_false (by omega)], rfl⟩))))))
    rintro q w2 ⟨hq, hw2⟩
    show WX _ _ _ [(0, .string s), (3, .int .i64 i), (4, .int .u8 n), (5, .bool q)] _
    subst hq
    refine WX.next (WC.seq (WC.cut (σ := Bool) (fun q => [(0, .string s), (3, .int .i64 i), (5, .bool (letterB n)), (6, .bool q)]) (fun q => fun w' => q = otherB n ∧ w' = w2) ?_ ?_))
    ·
     refine WC.region (WO.mv rfl rfl (WO.o rfl (R.geq rfl rfl) (WO.mv rfl rfl (WO.splitP (d := 32) rfl (fun a => ?_) (fun a => ?_)))))
     ·
      refine WO.yes rfl rfl (dT a) (WO.mv rfl rfl (WO.yes rfl rfl (dT a) (WO.o rfl (R.leq rfl rfl) (WO.o rfl (R.pickT rfl (dT a) rfl) (WO.mv rfl rfl (WO.splitP (d := 36) rfl (fun b => ?_) (fun b => ?_)))))))
      · refine WO.no rfl rfl (dT b) rfl (WO.no rfl rfl (dT b) rfl (WO.o rfl (R.pickT rfl (dT b) rfl) (WO.mv rfl rfl (WO.z rfl (WO.z rfl (WO.o rfl (R.pickT rfl rfl rfl) (WO.a rfl rfl (WO.nil (WX.meet (true) (Sub.of rfl) (⟨by unfold otherB; rw [decide_eq_true (by omega)], rfl⟩))))))))))
      ·
       refine WO.yes rfl rfl (dF b) (WO.mv rfl rfl (WO.yes rfl rfl (dF b) (WO.o rfl (R.eql rfl rfl) (WO.o rfl (R.pickF rfl (dF b) rfl) (WO.mv rfl rfl (WO.splitP (d := 40) rfl (fun c => ?_) (fun c => ?_)))))))
       · refine WO.no rfl rfl (dT c) rfl (WO.no rfl rfl (dT c) rfl (WO.o rfl (R.pickT rfl (dT c) rfl) (WO.a rfl rfl (WO.nil (WX.meet (true) (Sub.of rfl) (⟨by unfold otherB; rw [decide_eq_true (by omega)], rfl⟩))))))
       · refine WO.yes rfl rfl (dF c) (WO.mv rfl rfl (WO.yes rfl rfl (dF c) (WO.o rfl (R.eql rfl rfl) (WO.o rfl (R.pickF rfl (dF c) rfl) (WO.a rfl rfl (WO.nil (WX.meet (decide (n = 95)) (Sub.of rfl) (⟨by unfold otherB; congr 1; simp; omega, rfl⟩))))))))
     ·
      refine WO.no rfl rfl (dF a) rfl (WO.no rfl rfl (dF a) rfl (WO.o rfl (R.pickF rfl (dF a) rfl) (WO.mv rfl rfl (WO.yes rfl rfl rfl (WO.mv rfl rfl (WO.yes rfl rfl rfl (WO.o rfl (R.eql rfl rfl) (WO.o rfl (R.pickF rfl rfl rfl) (WO.mv rfl rfl (WO.splitP (d := 40) rfl (fun c => ?_) (fun c => ?_)))))))))))
      · refine WO.no rfl rfl (dT c) rfl (WO.no rfl rfl (dT c) rfl (WO.o rfl (R.pickT rfl (dT c) rfl) (WO.a rfl rfl (WO.nil (WX.meet (true) (Sub.of rfl) (⟨by unfold otherB; rw [decide_eq_true (by omega)], rfl⟩))))))
      · refine WO.yes rfl rfl (dF c) (WO.mv rfl rfl (WO.yes rfl rfl (dF c) (WO.o rfl (R.eql rfl rfl) (WO.o rfl (R.pickF rfl (dF c) rfl) (WO.a rfl rfl (WO.nil (WX.meet (decide (n = 95)) (Sub.of rfl) (⟨by unfold otherB; congr 1; simp; omega, rfl⟩))))))))
    rintro q w3 ⟨hq, hw3⟩
    show WX _ _ _ [(0, .string s), (3, .int .i64 i), (5, .bool (letterB n)), (6, .bool q)] _
    subst hq
    have hstep : okB i n = true → ∀ (j : Nat) (h : j < s.size), j < i + 1 → okB j (s[j].toNat : Int) = true := by
     intro h0 j h h1
     by_cases e : j = i
     · subst e; rw [← hn]; exact h0
     · exact hall j h (by omega)
    have hbad : okB i n = false → isNm s = false := by
     intro h0
     rw [isNm, decide_eq_false]
     rintro ⟨_, _, h3⟩
     have := h3 i hlt'
     rw [← hn, h0] at this
     cases this
    have hw : w3 = w1 := by rw [hw3, hw2]
    refine WX.next (WC.seq (WC.region (WO.mv rfl rfl (WO.o rfl (R.notU rfl (by first | exact not_decide_eq | rfl)) (WO.mv rfl rfl (WO.splitB (d := 46) rfl (fun l => ?_) (fun l => ?_)))))))
    ·
     have l' : letterB n = false := by simpa using l
     refine WO.yes rfl rfl l (WO.mv rfl rfl (WO.yes rfl rfl l (WO.o rfl (R.eql rfl rfl) (WO.yes rfl rfl l (WO.mv rfl rfl (WO.splitP (d := 49) rfl (fun z => ?_) (fun z => ?_)))))))
     ·
      refine WO.no rfl rfl (dT z) rfl (WO.no rfl rfl (dT z) rfl (WO.yes rfl rfl l (WO.o rfl (R.pickT rfl (dT z) rfl) (WO.o rfl (R.pickT rfl l rfl) (WO.nil (WX.next ?_))))))
      refine WC.tt rfl (rfl) (WC.sr (WO.a rfl rfl (WO.nil (WX.next (WC.ret (WX.blockR (WX.thenR (WX.thenR (WX.blockR (WX.thenR ?_))))))))))
      refine WX.ret1 Tryz.results63 rfl ⟨_, rfl, by rw [hbad (by unfold okB; rw [l', decide_eq_false (by omega)]; rfl)], by rw [hw]; exact Keep.refl _ _⟩
     ·
      have z' : decide (i ≠ 0) = true := decide_eq_true (by omega)
      refine WO.yes rfl rfl (dF z) (WO.mv rfl rfl (WO.yes rfl rfl (dF z) (WO.o rfl (R.notU rfl (by first | exact not_decide_eq | rfl)) (WO.yes rfl rfl l (WO.o rfl (R.pickF rfl (dF z) rfl) (WO.o rfl (R.pickT rfl l rfl) (WO.nil (WX.next ?_))))))))
      refine WC.bool rfl (fun o => ?_) (fun o => ?_)
      ·
       have o' : otherB n = false := by simpa using o
       refine WC.sr (WO.a rfl rfl (WO.nil (WX.next (WC.ret (WX.blockR (WX.thenR (WX.thenR (WX.blockR (WX.thenR ?_)))))))))
       refine WX.ret1 Tryz.results63 rfl ⟨_, rfl, by rw [hbad (by unfold okB; rw [l', o']; simp)], by rw [hw]; exact Keep.refl _ _⟩
      ·
       have o' : otherB n = true := by simpa using o
       refine WC.skip (WX.blockN (WX.next (WC.region (WO.mv rfl rfl (WO.o rfl (R.add rfl rfl (wrap_i64_in (by omega))) (WO.a rfl rfl (WO.nil (WX.back (i + 1) (Sub.of rfl) (⟨by omega, hstep (by unfold okB; rw [o', z']; simp), hw⟩) (by first | omega | (dsimp only; omega))))))))))
    ·
     have l' : letterB n = true := by simpa using l
     refine WO.no rfl rfl l rfl (WO.no rfl rfl l rfl (WO.no rfl rfl l rfl (WO.noU rfl rfl rfl (WO.noU rfl rfl rfl (WO.no rfl rfl l rfl (WO.o rfl (R.pickF rfl l rfl) (WO.nil (WX.next ?_))))))))
     refine WC.ff rfl (rfl) (WC.skip (WX.blockN (WX.next (WC.region ?_))))
     refine WO.mv rfl rfl (WO.o rfl (R.add rfl rfl (wrap_i64_in (by omega))) (WO.a rfl rfl (WO.nil (WX.back (i + 1) (Sub.of rfl) (⟨by omega, hstep (by unfold okB; rw [l']; rfl), hw⟩) (by first | omega | (dsimp only; omega))))))
   ·
    refine WC.exit (WX.thenE (WX.thenE (WX.hit (WX.next (WC.seq (WC.region (WO.a rfl rfl (WO.nil (WX.next (WC.ret ?_))))))))))
    refine WX.ret1 Tryz.results63 rfl ⟨_, rfl, by rw [isNm, decide_eq_true ⟨by omega, by omega, fun j h => hall j h (by omega)⟩], Keep.refl _ _⟩
theorem flatIsName_ok (s : ByteArray) (w : World) : Calls Tryz.prog 150 #[.string s] w (Ret fun r w' => r = .bool (isNm s) ∧ Ext w w') := by
 refine calls Tryz.func150 rfl [(0, .string s)] 50 ⟨Nat.le_of_ble_eq_true rfl, Tryz.ntmps150⟩ (argsOk (Sub.of rfl)) ?_
 refine WC.sr (WO.a rfl rfl (WO.nil (WX.next (WC.seq (WC.seq (WC.region ?_))))))
 refine WO.mv rfl rfl (WO.o rfl (R.eqStr rfl rfl) (WO.mv rfl rfl (WO.splitP (d := 8) rfl (fun h1 => ?_) (fun h1 => ?_))))
 ·
  have h1' : s.size = 0 := by
   have := congrArg List.length h1
   rw [ByteArray.toList_eq] at this
   simpa using this
  refine WO.no rfl rfl (dT h1) rfl (WO.no rfl rfl (dT h1) rfl (WO.no rfl rfl (dT h1) rfl (WO.o rfl (R.pickT rfl (dT h1) rfl) (WO.nil (WX.next ?_)))))
  refine WC.tt rfl (rfl) (WC.sr (WO.a rfl rfl (WO.nil (WX.next (WC.ret (WX.thenR ?_))))))
  refine WX.ret1 Tryz.results150 rfl ⟨_, rfl, by rw [isNm, decide_eq_false (fun h => by omega)], Keep.refl _ _⟩
 ·
  have h1' : s.size ≠ 0 := by
   intro h
   apply h1
   have : s.toList.length = 0 := by rw [ByteArray.toList_eq]; simpa using h
   rw [List.eq_nil_of_length_eq_zero this, ByteArray.toList_eq]
  refine WO.yes rfl rfl (dF h1) (WO.mv rfl rfl (WO.yes rfl rfl (dF h1) (WO.o rfl (R.lenStr rfl Tryz.underlying9 rfl) (WO.yes rfl rfl (dF h1) (WO.o rfl (R.gtr rfl rfl) (WO.o rfl (R.pickF rfl (dF h1) rfl) (WO.nil (WX.next ?_))))))))
  refine WC.ite rfl (fun h2 => ?_) (fun h2 => ?_)
  ·
   refine WC.sr (WO.a rfl rfl (WO.nil (WX.next (WC.ret (WX.thenR ?_)))))
   refine WX.ret1 Tryz.results150 rfl ⟨_, rfl, by rw [isNm, decide_eq_false (fun h => by omega)], Keep.refl _ _⟩
  ·
   refine WC.skip (WX.next (WC.seq (WC.seq (WC.region (WO.mv rfl rfl (WO.o rfl (R.lenStr rfl Tryz.underlying9 rfl) (WO.mv rfl rfl (WO.nil (WX.next (WC.block ?_))))))))))
   refine WC.loop (σ := Nat) (fun i => [(0, .string s), (14, .int .i64 s.size), (15, .int .i64 i)]) (fun i => fun w' => i ≤ s.size ∧ (∀ (j : Nat) (h : j < s.size), j < i → okB j (s[j].toNat : Int) = true) ∧ w' = w) (fun i => s.size - i) (0) (Sub.of rfl) (⟨Nat.zero_le _, fun j _ h => absurd h (Nat.not_lt_zero _), rfl⟩) ?_
   rintro i w1 ⟨hi, hall, hw1⟩
   show WC _ _ _ _ [(0, .string s), (14, .int .i64 s.size), (15, .int .i64 i)] _
   subst hw1
   refine WC.sr (WO.o rfl (R.lss rfl rfl) (WO.nil (WX.next (WC.seq ?_))))
   refine WC.ite rfl (fun hlt => ?_) (fun hlt => ?_)
   ·
    have hlt' : i < s.size := by omega
    refine WC.skip (WX.next (WC.seq (WC.block (WC.seq (WC.region (WO.mv rfl rfl (WO.a rfl rfl (WO.nr (WO.mv rfl rfl (WO.mv rfl rfl (WO.o rfl (R.indexStr Tryz.underlying9 rfl rfl i rfl hlt') ?_)))))))))))
    obtain ⟨n, hn⟩ : ∃ n : Int, n = (s[i].toNat : Int) := ⟨_, rfl⟩
    rw [← hn]
    refine WO.a rfl rfl (WO.nil (WX.next (WC.seq ?_)))
    refine WC.cut (σ := Bool) (fun q => [(0, .string s), (14, .int .i64 s.size), (15, .int .i64 i), (3, .int .i64 i), (4, .int .u8 n), (5, .bool q)]) (fun q => fun w' => q = letterB n ∧ w' = w1) ?_ ?_
    ·
     refine WC.region (WO.mv rfl rfl (WO.o rfl (R.geq rfl rfl) (WO.mv rfl rfl (WO.splitP (d := 23) rfl (fun a => ?_) (fun a => ?_)))))
     · refine WO.yes rfl rfl (dT a) (WO.mv rfl rfl (WO.yes rfl rfl (dT a) (WO.o rfl (R.leq rfl rfl) (WO.o rfl (R.pickT rfl (dT a) rfl) (WO.a rfl rfl (WO.nil (WX.meet (decide (n ≤ 122)) (Sub.of rfl) (⟨by unfold letterB; congr 1; simp; omega, rfl⟩))))))))
     · refine WO.no rfl rfl (dF a) rfl (WO.no rfl rfl (dF a) rfl (WO.o rfl (R.pickF rfl (dF a) rfl) (WO.a rfl rfl (WO.nil (WX.meet (false) (Sub.of rfl) (⟨by unfold letterB; rw [decide_eq_false (by omega)], rfl⟩))))))
    rintro q w3 ⟨hq, hw⟩
    show WX _ _ _ [(0, .string s), (14, .int .i64 s.size), (15, .int .i64 i), (3, .int .i64 i), (4, .int .u8 n), (5, .bool q)] _
    subst hq
    have hstep : okB i n = true → ∀ (j : Nat) (h : j < s.size), j < i + 1 → okB j (s[j].toNat : Int) = true := by
     intro h0 j h h1
     by_cases e : j = i
     · subst e; rw [← hn]; exact h0
     · exact hall j h (by omega)
    have hbad : okB i n = false → isNm s = false := by
     intro h0
     rw [isNm, decide_eq_false]
     rintro ⟨_, _, h3⟩
     have := h3 i hlt'
     rw [← hn, h0] at this
     cases this
    refine WX.next (WC.seq (WC.region (WO.mv rfl rfl (WO.o rfl (R.notU rfl (by first | exact not_decide_eq | rfl)) (WO.mv rfl rfl (WO.splitB (d := 29) rfl (fun l => ?_) (fun l => ?_)))))))
    ·
     have l' : letterB n = false := by simpa using l
     refine WO.yes rfl rfl l (WO.mv rfl rfl (WO.yes rfl rfl l (WO.o rfl (R.eql rfl rfl) (WO.yes rfl rfl l (WO.mv rfl rfl (WO.splitP (d := 32) rfl (fun z => ?_) (fun z => ?_)))))))
     ·
      refine WO.no rfl rfl (dT z) rfl (WO.no rfl rfl (dT z) rfl (WO.no rfl rfl (dT z) rfl (WO.noU rfl rfl rfl (WO.noU rfl rfl rfl (WO.no rfl rfl (dT z) rfl (WO.no rfl rfl (dT z) rfl (WO.noU rfl rfl rfl (WO.noU rfl rfl rfl (WO.no rfl rfl (dT z) rfl (WO.no rfl rfl (dT z) rfl (WO.noU rfl rfl rfl (WO.noU rfl rfl rfl (WO.no rfl rfl (dT z) rfl (WO.yes rfl rfl l (WO.o rfl (R.pickT rfl (dT z) rfl) (WO.o rfl (R.pickT rfl l rfl) (WO.nil (WX.next ?_))))))))))))))))))
      refine WC.tt rfl (rfl) (WC.sr (WO.a rfl rfl (WO.nil (WX.next (WC.ret (WX.blockR (WX.thenR (WX.thenR (WX.blockR (WX.thenR ?_))))))))))
      refine WX.ret1 Tryz.results150 rfl ⟨_, rfl, by rw [hbad (by unfold okB; rw [l', decide_eq_false (by omega)]; rfl)], by rw [hw]; exact Keep.refl _ _⟩
     ·
      have z' : decide (i ≠ 0) = true := decide_eq_true (by omega)
      have fin : (otherB n = false → False) → okB i n = true := fun h => by
       unfold okB; rw [z']
       cases ho : otherB n
       · exact (h ho).elim
       · simp
      have bad : otherB n = false → isNm s = false := fun h => hbad (by unfold okB; rw [l', h]; simp)
      refine WO.yes rfl rfl (dF z) (WO.mv rfl rfl (WO.yes rfl rfl (dF z) (WO.o rfl (R.lss rfl rfl) (WO.yes rfl rfl (dF z) (WO.mv rfl rfl (WO.splitP (d := 35) rfl (fun a => ?_) (fun a => ?_)))))))
      ·
       refine WO.no rfl rfl (dT a) rfl (WO.no rfl rfl (dT a) rfl (WO.yes rfl rfl (dF z) (WO.o rfl (R.pickT rfl (dT a) rfl) (WO.yes rfl rfl (dF z) (WO.mv rfl rfl (WO.yes rfl rfl rfl (WO.mv rfl rfl (WO.yes rfl rfl rfl (WO.o rfl (R.neq rfl rfl) (WO.yes rfl rfl (dF z) (WO.o rfl (R.pickT rfl rfl rfl) (WO.yes rfl rfl (dF z) (WO.mv rfl rfl (WO.splitP (d := 43) rfl (fun b => ?_) (fun b => ?_)))))))))))))))
       ·
        refine WO.yes rfl rfl (dT b) (WO.mv rfl rfl (WO.yes rfl rfl (dT b) (WO.o rfl (R.neq rfl rfl) (WO.yes rfl rfl (dF z) (WO.o rfl (R.pickT rfl (dT b) rfl) (WO.yes rfl rfl l (WO.o rfl (R.pickF rfl (dF z) rfl) (WO.o rfl (R.pickT rfl l rfl) (WO.nil (WX.next ?_))))))))))
        refine WC.ite rfl (fun c => ?_) (fun c => ?_)
        ·
         have ho : otherB n = false := by unfold otherB; exact decide_eq_false (by omega)
         refine WC.sr (WO.a rfl rfl (WO.nil (WX.next (WC.ret (WX.blockR (WX.thenR (WX.thenR (WX.blockR (WX.thenR ?_)))))))))
         refine WX.ret1 Tryz.results150 rfl ⟨_, rfl, by rw [bad ho], by rw [hw]; exact Keep.refl _ _⟩
        · refine WC.skip (WX.blockN (WX.next (WC.region (WO.o rfl (R.add rfl rfl (wrap_i64_in (by omega))) (WO.mv rfl rfl (WO.nil (WX.back (i + 1) (Sub.of rfl) (⟨by omega, hstep (fin (fun h => by unfold otherB at h; have := of_decide_eq_false h; omega)), hw⟩) (by first | omega | (dsimp only; omega)))))))))
       ·
        refine WO.no rfl rfl (dF b) rfl (WO.no rfl rfl (dF b) rfl (WO.yes rfl rfl (dF z) (WO.o rfl (R.pickF rfl (dF b) rfl) (WO.yes rfl rfl l (WO.o rfl (R.pickF rfl (dF z) rfl) (WO.o rfl (R.pickT rfl l rfl) (WO.nil (WX.next ?_))))))))
        refine WC.ff rfl (rfl) (WC.skip (WX.blockN (WX.next (WC.region ?_))))
        refine WO.o rfl (R.add rfl rfl (wrap_i64_in (by omega))) (WO.mv rfl rfl (WO.nil (WX.back (i + 1) (Sub.of rfl) (⟨by omega, hstep (fin (fun h => by unfold otherB at h; have := of_decide_eq_false h; omega)), hw⟩) (by first | omega | (dsimp only; omega)))))
      ·
       refine WO.yes rfl rfl (dF a) (WO.mv rfl rfl (WO.yes rfl rfl (dF a) (WO.o rfl (R.gtr rfl rfl) (WO.yes rfl rfl (dF z) (WO.o rfl (R.pickF rfl (dF a) rfl) (WO.yes rfl rfl (dF z) (WO.mv rfl rfl (WO.splitP (d := 39) rfl (fun b0 => ?_) (fun b0 => ?_)))))))))
       ·
        refine WO.yes rfl rfl (dT b0) (WO.mv rfl rfl (WO.yes rfl rfl (dT b0) (WO.o rfl (R.neq rfl rfl) (WO.yes rfl rfl (dF z) (WO.o rfl (R.pickT rfl (dT b0) rfl) (WO.yes rfl rfl (dF z) (WO.mv rfl rfl (WO.splitP (d := 43) rfl (fun b => ?_) (fun b => ?_)))))))))
        ·
         refine WO.yes rfl rfl (dT b) (WO.mv rfl rfl (WO.yes rfl rfl (dT b) (WO.o rfl (R.neq rfl rfl) (WO.yes rfl rfl (dF z) (WO.o rfl (R.pickT rfl (dT b) rfl) (WO.yes rfl rfl l (WO.o rfl (R.pickF rfl (dF z) rfl) (WO.o rfl (R.pickT rfl l rfl) (WO.nil (WX.next ?_))))))))))
         refine WC.ite rfl (fun c => ?_) (fun c => ?_)
         ·
          have ho : otherB n = false := by unfold otherB; exact decide_eq_false (by omega)
          refine WC.sr (WO.a rfl rfl (WO.nil (WX.next (WC.ret (WX.blockR (WX.thenR (WX.thenR (WX.blockR (WX.thenR ?_)))))))))
          refine WX.ret1 Tryz.results150 rfl ⟨_, rfl, by rw [bad ho], by rw [hw]; exact Keep.refl _ _⟩
         · refine WC.skip (WX.blockN (WX.next (WC.region (WO.o rfl (R.add rfl rfl (wrap_i64_in (by omega))) (WO.mv rfl rfl (WO.nil (WX.back (i + 1) (Sub.of rfl) (⟨by omega, hstep (fin (fun h => by unfold otherB at h; have := of_decide_eq_false h; omega)), hw⟩) (by first | omega | (dsimp only; omega)))))))))
        ·
         refine WO.no rfl rfl (dF b) rfl (WO.no rfl rfl (dF b) rfl (WO.yes rfl rfl (dF z) (WO.o rfl (R.pickF rfl (dF b) rfl) (WO.yes rfl rfl l (WO.o rfl (R.pickF rfl (dF z) rfl) (WO.o rfl (R.pickT rfl l rfl) (WO.nil (WX.next ?_))))))))
         refine WC.ff rfl (rfl) (WC.skip (WX.blockN (WX.next (WC.region ?_))))
         refine WO.o rfl (R.add rfl rfl (wrap_i64_in (by omega))) (WO.mv rfl rfl (WO.nil (WX.back (i + 1) (Sub.of rfl) (⟨by omega, hstep (fin (fun h => by unfold otherB at h; have := of_decide_eq_false h; omega)), hw⟩) (by first | omega | (dsimp only; omega)))))
       ·
        refine WO.no rfl rfl (dF b0) rfl (WO.no rfl rfl (dF b0) rfl (WO.yes rfl rfl (dF z) (WO.o rfl (R.pickF rfl (dF b0) rfl) (WO.yes rfl rfl (dF z) (WO.mv rfl rfl (WO.z rfl (WO.z rfl (WO.yes rfl rfl (dF z) (WO.o rfl (R.pickF rfl rfl rfl) (WO.yes rfl rfl l (WO.o rfl (R.pickF rfl (dF z) rfl) (WO.o rfl (R.pickT rfl l rfl) (WO.nil (WX.next ?_))))))))))))))
        refine WC.ff rfl (rfl) (WC.skip (WX.blockN (WX.next (WC.region ?_))))
        refine WO.o rfl (R.add rfl rfl (wrap_i64_in (by omega))) (WO.mv rfl rfl (WO.nil (WX.back (i + 1) (Sub.of rfl) (⟨by omega, hstep (fin (fun h => by unfold otherB at h; have := of_decide_eq_false h; omega)), hw⟩) (by first | omega | (dsimp only; omega)))))
    ·
     have l' : letterB n = true := by simpa using l
     refine WO.no rfl rfl l rfl (WO.no rfl rfl l rfl (WO.no rfl rfl l rfl (WO.noU rfl rfl rfl (WO.noU rfl rfl rfl (WO.noU rfl rfl rfl (WO.noU rfl rfl rfl (WO.noU rfl rfl rfl (WO.noU rfl rfl rfl (WO.noU rfl rfl rfl (WO.noU rfl rfl rfl (WO.noU rfl rfl rfl (WO.noU rfl rfl rfl (WO.noU rfl rfl rfl (WO.noU rfl rfl rfl (WO.noU rfl rfl rfl (WO.noU rfl rfl rfl (WO.no rfl rfl l rfl (WO.o rfl (R.pickF rfl l rfl) (WO.nil (WX.next ?_))))))))))))))))))))
     refine WC.ff rfl (rfl) (WC.skip (WX.blockN (WX.next (WC.region ?_))))
     refine WO.o rfl (R.add rfl rfl (wrap_i64_in (by omega))) (WO.mv rfl rfl (WO.nil (WX.back (i + 1) (Sub.of rfl) (⟨by omega, hstep (by unfold okB; rw [l']; rfl), hw⟩) (by first | omega | (dsimp only; omega)))))
   ·
    refine WC.exit (WX.thenE (WX.thenE (WX.hit (WX.next (WC.seq (WC.region (WO.a rfl rfl (WO.nil (WX.next (WC.ret ?_))))))))))
    refine WX.ret1 Tryz.results150 rfl ⟨_, rfl, by rw [isNm, decide_eq_true ⟨by omega, by omega, fun j h => hall j h (by omega)⟩], Keep.refl _ _⟩
@[irreducible] def bndB (low high : Int) : Bool := decide (low ≤ high ∧ -1048576 ≤ low ∧ high ≤ 1048576)
theorem refBounded_ok (a b : Int) (w : World) : Calls Tryz.prog 64 #[.int .i64 a, .int .i64 b] w (Ret fun r w' => r = .bool (bndB a b) ∧ Ext w w') := by
 refine calls Tryz.func64 rfl [(0, .int .i64 a), (1, .int .i64 b)] 16 ⟨Nat.le_of_ble_eq_true rfl, Tryz.ntmps64⟩ (argsOk (Sub.of rfl)) ?_
 refine WC.sr (WO.a rfl rfl (WO.nr (WO.mv rfl rfl (WO.mv rfl rfl (WO.o rfl (R.leq rfl rfl) (WO.mv rfl rfl (WO.splitP (d := 8) rfl (fun h1 => ?_) (fun h1 => ?_))))))))
 ·
  refine WO.yes rfl rfl (dT h1) (WO.mv rfl rfl (WO.yes rfl rfl (dT h1) (WO.o rfl (R.geq rfl rfl) (WO.o rfl (R.pickT rfl (dT h1) rfl) (WO.mv rfl rfl (WO.splitP (d := 12) rfl (fun h2 => ?_) (fun h2 => ?_)))))))
  ·
   refine WO.yes rfl rfl (dT h2) (WO.mv rfl rfl (WO.yes rfl rfl (dT h2) (WO.o rfl (R.leq rfl rfl) (WO.o rfl (R.pickT rfl (dT h2) rfl) (WO.a rfl rfl (WO.nil (WX.next (WC.ret ?_))))))))
   refine WX.ret1 Tryz.results64 rfl ⟨_, rfl, by unfold bndB; congr 2; simp; omega, Keep.refl _ _⟩
  ·
   refine WO.no rfl rfl (dF h2) rfl (WO.no rfl rfl (dF h2) rfl (WO.o rfl (R.pickF rfl (dF h2) rfl) (WO.a rfl rfl (WO.nil (WX.next (WC.ret ?_))))))
   refine WX.ret1 Tryz.results64 rfl ⟨_, rfl, by rw [bndB, decide_eq_false (by omega)], Keep.refl _ _⟩
 ·
  refine WO.no rfl rfl (dF h1) rfl (WO.no rfl rfl (dF h1) rfl (WO.o rfl (R.pickF rfl (dF h1) rfl) (WO.mv rfl rfl (WO.z rfl (WO.z rfl (WO.o rfl (R.pickF rfl rfl rfl) (WO.a rfl rfl (WO.nil (WX.next (WC.ret ?_))))))))))
  refine WX.ret1 Tryz.results64 rfl ⟨_, rfl, by rw [bndB, decide_eq_false (by omega)], Keep.refl _ _⟩
theorem flatBounded_ok (a b : Int) (w : World) : Calls Tryz.prog 152 #[.int .i64 a, .int .i64 b] w (Ret fun r w' => r = .bool (bndB a b) ∧ Ext w w') := by
 refine calls Tryz.func152 rfl [(0, .int .i64 a), (1, .int .i64 b)] 16 ⟨Nat.le_of_ble_eq_true rfl, Tryz.ntmps152⟩ (argsOk (Sub.of rfl)) ?_
 refine WC.sr (WO.a rfl rfl (WO.nr (WO.mv rfl rfl (WO.mv rfl rfl (WO.o rfl (R.leq rfl rfl) (WO.mv rfl rfl (WO.splitP (d := 8) rfl (fun h1 => ?_) (fun h1 => ?_))))))))
 ·
  refine WO.yes rfl rfl (dT h1) (WO.mv rfl rfl (WO.yes rfl rfl (dT h1) (WO.o rfl (R.geq rfl rfl) (WO.o rfl (R.pickT rfl (dT h1) rfl) (WO.mv rfl rfl (WO.splitP (d := 12) rfl (fun h2 => ?_) (fun h2 => ?_)))))))
  ·
   refine WO.yes rfl rfl (dT h2) (WO.mv rfl rfl (WO.yes rfl rfl (dT h2) (WO.o rfl (R.leq rfl rfl) (WO.o rfl (R.pickT rfl (dT h2) rfl) (WO.a rfl rfl (WO.nil (WX.next (WC.ret ?_))))))))
   refine WX.ret1 Tryz.results152 rfl ⟨_, rfl, by unfold bndB; congr 2; simp; omega, Keep.refl _ _⟩
  ·
   refine WO.no rfl rfl (dF h2) rfl (WO.no rfl rfl (dF h2) rfl (WO.o rfl (R.pickF rfl (dF h2) rfl) (WO.a rfl rfl (WO.nil (WX.next (WC.ret ?_))))))
   refine WX.ret1 Tryz.results152 rfl ⟨_, rfl, by rw [bndB, decide_eq_false (by omega)], Keep.refl _ _⟩
 ·
  refine WO.no rfl rfl (dF h1) rfl (WO.no rfl rfl (dF h1) rfl (WO.o rfl (R.pickF rfl (dF h1) rfl) (WO.mv rfl rfl (WO.z rfl (WO.z rfl (WO.o rfl (R.pickF rfl rfl rfl) (WO.a rfl rfl (WO.nil (WX.next (WC.ret ?_))))))))))
  refine WX.ret1 Tryz.results152 rfl ⟨_, rfl, by rw [bndB, decide_eq_false (by omega)], Keep.refl _ _⟩
def kidsFit (op : Int) (n : Nat) : Bool := if 0 ≤ kidsN op then decide ((n : Int) = kidsN op) else decide (kidsN op = -2 ∧ 2 ≤ n ∧ n ≤ 33)
def isLocal (vs : List Vr) (n : Int) : Bool := match vs[n.toNat]? with
 | some v => decide (v.kind = 0)
 | none => false
def refFit (vs : List Vr) (inputs : Bool) (op n : Int) : Bool := if op = 24 then decide (0 ≤ n ∧ n < vs.length) && !(inputs && isLocal vs n) else decide (op = 0 ∨ n = 0)
mutual
def formedT (vs : List Vr) (inputs : Bool) : Tm → Bool
 | .mk op n ks => kidsFit op ks.length && refFit vs inputs op n && formedL vs inputs ks
def formedL (vs : List Vr) (inputs : Bool) : List Tm → Bool
 | [] => true
 | k :: r => formedT vs inputs k && formedL vs inputs r
end
section
variable {vs : List Vr} {inp : Bool}
theorem formedT_eq (t : Tm) : formedT vs inp t = (kidsFit t.op t.kids.length && refFit vs inp t.op t.n && formedL vs inp t.kids) := by cases t; rw [formedT]; rfl
theorem formedL_append (a b : List Tm) : formedL vs inp (a ++ b) = (formedL vs inp a && formedL vs inp b) := by
 induction a with
 | nil => simp [formedL]
 | cons x r ih => simp [formedL, ih, Bool.and_assoc]
theorem formedL_take {l : List Tm} {i : Nat} {x : Tm} (h : l[i]? = some x) : formedL vs inp (l.take (i + 1)) = (formedL vs inp (l.take i) && formedT vs inp x) := by rw [take_get h, formedL_append]; simp [formedL]
theorem formedL_mem {l : List Tm} {x : Tm} (h : formedL vs inp l = true) (hx : x ∈ l) : formedT vs inp x = true := by
 obtain ⟨i, hi⟩ := List.mem_iff_getElem?.1 hx
 rw [split_get hi, formedL_append] at h
 simp [formedL] at h
 exact h.2.1
theorem formedL_bad {l : List Tm} {x : Tm} (hx : x ∈ l) (h : formedT vs inp x = false) : formedL vs inp l = false := by
 cases h1 : formedL vs inp l with
 | false => rfl
 | true => rw [formedL_mem h1 hx] at h; cases h
theorem kidsFit_no {op : Int} {n : Nat} (h : kidsN op = -1 ∨ (0 ≤ kidsN op ∧ (n : Int) ≠ kidsN op) ∨ (kidsN op = -2 ∧ (n < 2 ∨ 33 < n))) : kidsFit op n = false := by
 unfold kidsFit
 split
 · exact decide_eq_false (by omega)
 · exact decide_eq_false (by omega)
theorem kidsFit_yes {op : Int} {n : Nat} (h : (0 ≤ kidsN op ∧ (n : Int) = kidsN op) ∨ (kidsN op = -2 ∧ 2 ≤ n ∧ n ≤ 33)) : kidsFit op n = true := by
 unfold kidsFit
 split
 · exact decide_eq_true (by omega)
 · exact decide_eq_true (by omega)
theorem kidsN_vals (op : Int) : kidsN op = 0 ∨ kidsN op = 1 ∨ kidsN op = 2 ∨ kidsN op = 3 ∨ kidsN op = -2 ∨ kidsN op = -1 := by
 unfold kidsN; (repeat' split); all_goals omega
theorem refFit_ref {n : Int} (h : 0 ≤ n ∧ n < vs.length) {v : Vr} (hv : vs[n.toNat]? = some v) : refFit vs inp 24 n = !(inp && decide (v.kind = 0)) := by
 unfold refFit isLocal
 rw [if_pos rfl, decide_eq_true h, hv, Bool.true_and]
theorem refFit_out {n : Int} (h : ¬ (0 ≤ n ∧ n < vs.length)) : refFit vs inp 24 n = false := by
 unfold refFit
 rw [if_pos rfl, decide_eq_false h]; rfl
theorem refFit_else {op n : Int} (h : op ≠ 24) : refFit vs inp op n = decide (op = 0 ∨ n = 0) := by
 unfold refFit
 rw [if_neg h]
end
theorem refFormed_ok (vs : List Vr) (inp : Bool) (vv : Value) (Dv : Nat → Prop) (t : Tm) : ∀ (cs : List Value) (D : Nat → Prop) (w : World), SlR 5 RVr Dv w vv vs → RTm D w t cs → Calls Tryz.prog 114 #[vv, .agg cs.toArray, .bool inp] w (Ret fun r w' => r = .bool (formedT vs inp t) ∧ Ext w w') := by
 induction t using Tm.ind with
 | h t ih =>
 intro cs D w hvs ht
 obtain ⟨v, rfl, hk⟩ := ht.get
 have hmx := hk.max
 obtain ⟨ao, cap, rfl⟩ := hk.form
 obtain ⟨av, nv, rfl⟩ := hvs.form
 have hfe := formedT_eq (vs := vs) (inp := inp) t
 have hkv := kidsN_vals t.op
 have hE := Keep.refl (fun _ => False) w
 refine calls Tryz.func114 rfl [(0, .slice av vs.length nv), (1, .agg #[.int .i64 t.op, .int .i64 t.n, .slice ao t.kids.length cap]), (2, .bool inp)] 90 ⟨Nat.le_of_ble_eq_true rfl, Tryz.ntmps114⟩ (argsOk (Sub.of rfl)) ?_
 refine WC.sr (WO.mem rfl rfl rfl (M.box rfl rfl) ?_)
 rintro _ w_b ⟨b, rfl, hg_b, hs_b, hB_b, hk_b⟩
 have hge_b : _ ≤ b := Nat.le_trans hE.size (Nat.le_of_eq hg_b.symm)
 replace hE := hE.ext hk_b
 replace hvs := hvs.ext stable_vr hk_b
 replace hk := hk.ext stable_tm hk_b
 refine WO.a rfl rfl (WO.nr (WO.o rfl (R.fieldAddr Tryz.runUnderlying84 rfl Tryz.sizeOf81 rfl) (WO.o rfl (R.load Tryz.isAgg81 rfl (hB_b.cells 0 _ rfl)) (WO.call rfl rfl rfl (F.call (vs := [_]) Tryz.call161 rfl) (refKids_ok t.op _) ?_))))
 rintro _ wz1 ⟨rfl, hz1⟩
 replace hE := hE.ext hz1
 replace hvs := hvs.ext stable_vr hz1
 replace hk := hk.ext stable_tm hz1
 replace hB_b := hz1.blk hB_b (fun h => h)
 refine WO.a rfl rfl (WO.nil (WX.next (WC.seq (WC.seq ?_))))
 refine WC.cut (σ := Bool) (fun q => [(0, .slice av vs.length nv), (2, .bool inp), (4, .pointer (some ⟨b, 0, none⟩)), (40, .bool q)]) (fun q => fun w' => q = (!kidsFit t.op t.kids.length) ∧ w' = wz1) ?_ ?_
 ·
  refine WC.region (WO.mv rfl rfl (WO.o rfl (R.eql rfl rfl) (WO.mv rfl rfl (WO.splitP (d := 14) rfl (fun h1 => ?_) (fun h1 => ?_)))))
  · refine WO.no rfl rfl (dT h1) rfl (WO.no rfl rfl (dT h1) rfl (WO.no rfl rfl (dT h1) rfl (WO.noU rfl rfl rfl (WO.noU rfl rfl rfl (WO.noU rfl rfl rfl (WO.noU rfl rfl rfl (WO.noU rfl rfl rfl (WO.no rfl rfl (dT h1) rfl (WO.o rfl (R.pickT rfl (dT h1) rfl) (WO.mv rfl rfl (WO.z rfl (WO.z rfl (WO.z rfl (WO.noU rfl rfl rfl (WO.noU rfl rfl rfl (WO.noU rfl rfl rfl (WO.noU rfl rfl rfl (WO.noU rfl rfl rfl (WO.noU rfl rfl rfl (WO.noU rfl rfl rfl (WO.noU rfl rfl rfl (WO.noU rfl rfl rfl (WO.noU rfl rfl rfl (WO.z rfl (WO.o rfl (R.pickT rfl rfl rfl) (WO.nil (WX.meet (true) (Sub.of rfl) (⟨by rw [kidsFit_no (.inl h1)]; rfl, rfl⟩))))))))))))))))))))))))))))
  ·
   refine WO.yes rfl rfl (dF h1) (WO.mv rfl rfl (WO.yes rfl rfl (dF h1) (WO.o rfl (R.geq rfl rfl) (WO.yes rfl rfl (dF h1) (WO.mv rfl rfl (WO.splitP (d := 17) rfl (fun h2 => ?_) (fun h2 => ?_)))))))
   ·
    refine WO.yes rfl rfl (dT h2) (WO.o rfl (R.fieldAddr Tryz.runUnderlying84 rfl Tryz.sizeOf82 rfl) (WO.yes rfl rfl (dT h2) (WO.o rfl (R.load Tryz.isAgg82 rfl (hB_b.cells 2 _ rfl)) (WO.yes rfl rfl (dT h2) (WO.o rfl (R.lenS rfl Tryz.runUnderlying82 rfl) (WO.yes rfl rfl (dT h2) (WO.mv rfl rfl (WO.yes rfl rfl (dT h2) (WO.o rfl (R.neq rfl rfl) (WO.yes rfl rfl (dF h1) (WO.o rfl (R.pickT rfl (dT h2) rfl) (WO.o rfl (R.pickF rfl (dF h1) rfl) (WO.mv rfl rfl (WO.splitP (d := 25) rfl (fun h3 => ?_) (fun h3 => ?_)))))))))))))))
    · refine WO.no rfl rfl (dT h3) rfl (WO.no rfl rfl (dT h3) rfl (WO.no rfl rfl (dT h3) rfl (WO.noU rfl rfl rfl (WO.noU rfl rfl rfl (WO.noU rfl rfl rfl (WO.noU rfl rfl rfl (WO.noU rfl rfl rfl (WO.noU rfl rfl rfl (WO.noU rfl rfl rfl (WO.noU rfl rfl rfl (WO.noU rfl rfl rfl (WO.noU rfl rfl rfl (WO.no rfl rfl (dT h3) rfl (WO.o rfl (R.pickT rfl (dT h3) rfl) (WO.nil (WX.meet (true) (Sub.of rfl) (⟨by rw [kidsFit_no (.inr (.inl ⟨by omega, h3⟩))]; rfl, rfl⟩)))))))))))))))))
    ·
     refine WO.yes rfl rfl (dF h3) (WO.mv rfl rfl (WO.yes rfl rfl (dF h3) (WO.o rfl (R.eql rfl rfl) (WO.yes rfl rfl (dF h3) (WO.mv rfl rfl (WO.splitP (d := 28) rfl (fun h4 => ?_) (fun h4 => ?_)))))))
     · exact absurd h4 (by omega)
     · refine WO.no rfl rfl (dF h4) rfl (WO.no rfl rfl (dF h4) rfl (WO.no rfl rfl (dF h4) rfl (WO.no rfl rfl (dF h4) rfl (WO.no rfl rfl (dF h4) rfl (WO.noU rfl rfl rfl (WO.noU rfl rfl rfl (WO.noU rfl rfl rfl (WO.noU rfl rfl rfl (WO.no rfl rfl (dF h4) rfl (WO.yes rfl rfl (dF h3) (WO.o rfl (R.pickF rfl (dF h4) rfl) (WO.o rfl (R.pickF rfl (dF h3) rfl) (WO.nil (WX.meet (false) (Sub.of rfl) (⟨by rw [kidsFit_yes (.inl ⟨by omega, by omega⟩)]; rfl, rfl⟩)))))))))))))))
   ·
    refine WO.no rfl rfl (dF h2) rfl (WO.no rfl rfl (dF h2) rfl (WO.no rfl rfl (dF h2) rfl (WO.no rfl rfl (dF h2) rfl (WO.no rfl rfl (dF h2) rfl (WO.yes rfl rfl (dF h1) (WO.o rfl (R.pickF rfl (dF h2) rfl) (WO.o rfl (R.pickF rfl (dF h1) rfl) (WO.mv rfl rfl (WO.yes rfl rfl rfl (WO.mv rfl rfl (WO.yes rfl rfl rfl (WO.o rfl (R.eql rfl rfl) (WO.yes rfl rfl rfl (WO.mv rfl rfl (WO.splitP (d := 28) rfl (fun h4 => ?_) (fun h4 => ?_))))))))))))))))
    ·
     refine WO.yes rfl rfl (dT h4) (WO.o rfl (R.fieldAddr Tryz.runUnderlying84 rfl Tryz.sizeOf82 rfl) (WO.yes rfl rfl (dT h4) (WO.o rfl (R.load Tryz.isAgg82 rfl (hB_b.cells 2 _ rfl)) (WO.yes rfl rfl (dT h4) (WO.o rfl (R.lenS rfl Tryz.runUnderlying82 rfl) (WO.yes rfl rfl (dT h4) (WO.o rfl (R.lss rfl rfl) (WO.yes rfl rfl (dT h4) (WO.mv rfl rfl (WO.splitP (d := 33) rfl (fun h5 => ?_) (fun h5 => ?_)))))))))))
     · refine WO.no rfl rfl (dT h5) rfl (WO.no rfl rfl (dT h5) rfl (WO.no rfl rfl (dT h5) rfl (WO.no rfl rfl (dT h5) rfl (WO.yes rfl rfl (dT h4) (WO.o rfl (R.pickT rfl (dT h5) rfl) (WO.yes rfl rfl rfl (WO.o rfl (R.pickT rfl (dT h4) rfl) (WO.o rfl (R.pickF rfl rfl rfl) (WO.nil (WX.meet (true) (Sub.of rfl) (⟨by rw [kidsFit_no (.inr (.inr ⟨h4, by omega⟩))]; rfl, rfl⟩)))))))))))
     ·
      refine WO.yes rfl rfl (dF h5) (WO.o rfl (R.fieldAddr Tryz.runUnderlying84 rfl Tryz.sizeOf82 rfl) (WO.yes rfl rfl (dF h5) (WO.o rfl (R.load Tryz.isAgg82 rfl (hB_b.cells 2 _ rfl)) (WO.yes rfl rfl (dF h5) (WO.o rfl (R.lenS rfl Tryz.runUnderlying82 rfl) (WO.yes rfl rfl (dF h5) (WO.o rfl (R.gtr rfl rfl) (WO.yes rfl rfl (dT h4) (WO.o rfl (R.pickF rfl (dF h5) rfl) (WO.yes rfl rfl rfl (WO.o rfl (R.pickT rfl (dT h4) rfl) (WO.o rfl (R.pickF rfl rfl rfl) (WO.nil (WX.meet (decide ((33 : Int) < (t.kids.length : Int))) (Sub.of rfl) (⟨?_, rfl⟩)))))))))))))))
      by_cases h6 : (33 : Int) < (t.kids.length : Int)
      · rw [kidsFit_no (.inr (.inr ⟨h4, by omega⟩)), decide_eq_true h6]; rfl
      · rw [kidsFit_yes (.inr ⟨h4, by omega, by omega⟩), decide_eq_false h6]; rfl
    · exact absurd h4 (by omega)
 rintro q w2 ⟨hq, hw2⟩
 show WX _ _ _ [(0, .slice av vs.length nv), (2, .bool inp), (4, .pointer (some ⟨b, 0, none⟩)), (40, .bool q)] _
 subst hw2
 refine WX.next (WC.bool rfl (fun hq1 => ?_) (fun hq1 => ?_))
 ·
  have hf : kidsFit t.op t.kids.length = false := by rw [hq1] at hq; simpa using hq.symm
  refine WC.sr (WO.a rfl rfl (WO.nil (WX.next (WC.ret (WX.thenR ?_)))))
  refine WX.ret1 Tryz.results114 rfl ⟨_, rfl, by rw [hfe, hf]; rfl, hE⟩
 ·
  have hf : kidsFit t.op t.kids.length = true := by rw [hq1] at hq; simpa using hq.symm
  rw [hf, Bool.true_and] at hfe
  refine WC.skip (WX.next (WC.seq (WC.seq (WC.region (WO.o rfl (R.fieldAddr Tryz.runUnderlying84 rfl Tryz.sizeOf81 rfl) (WO.o rfl (R.load Tryz.isAgg81 rfl (hB_b.cells 0 _ rfl)) (WO.o rfl (R.eql rfl rfl) (WO.nil (WX.next ?_)))))))))
  refine WC.cut (σ := Unit) (fun u => [(0, .slice av vs.length nv), (2, .bool inp), (4, .pointer (some ⟨b, 0, none⟩))]) (fun u => fun w' => refFit vs inp t.op t.n = true ∧ w' = w2) ?_ ?_
  ·
   refine WC.ite rfl (fun h24 => ?_) (fun h24 => ?_)
   ·
    have hrn : ¬ (0 ≤ t.n ∧ t.n < vs.length) → formedT vs inp t = false := fun h => by rw [hfe, h24, refFit_out h]; rfl
    refine WC.sr (WO.o rfl (R.fieldAddr Tryz.runUnderlying84 rfl Tryz.sizeOf3 rfl) (WO.o rfl (R.load Tryz.isAgg3 rfl (hB_b.cells 1 _ rfl)) (WO.o rfl (R.lss rfl rfl) (WO.mv rfl rfl (WO.splitP (d := 47) rfl (fun n0 => ?_) (fun n0 => ?_))))))
    ·
     refine WO.no rfl rfl (dT n0) rfl (WO.no rfl rfl (dT n0) rfl (WO.no rfl rfl (dT n0) rfl (WO.no rfl rfl (dT n0) rfl (WO.no rfl rfl (dT n0) rfl (WO.o rfl (R.pickT rfl (dT n0) rfl) (WO.mv rfl rfl (WO.z rfl (WO.z rfl (WO.noU rfl rfl rfl (WO.noU rfl rfl rfl (WO.noU rfl rfl rfl (WO.noU rfl rfl rfl (WO.noU rfl rfl rfl (WO.noU rfl rfl rfl (WO.noU rfl rfl rfl (WO.z rfl (WO.o rfl (R.pickT rfl rfl rfl) (WO.nil (WX.next ?_)))))))))))))))))))
     refine WC.tt rfl (rfl) (WC.sr (WO.a rfl rfl (WO.nil (WX.next (WC.ret (WX.thenR (WX.thenR ?_)))))))
     refine WX.ret1 Tryz.results114 rfl ⟨_, rfl, by rw [hrn (by omega)], hE⟩
    ·
     refine WO.yes rfl rfl (dF n0) (WO.o rfl (R.fieldAddr Tryz.runUnderlying84 rfl Tryz.sizeOf3 rfl) (WO.yes rfl rfl (dF n0) (WO.o rfl (R.load Tryz.isAgg3 rfl (hB_b.cells 1 _ rfl)) (WO.yes rfl rfl (dF n0) (WO.mv rfl rfl (WO.yes rfl rfl (dF n0) (WO.o rfl (R.lenS rfl Tryz.runUnderlying22 rfl) (WO.yes rfl rfl (dF n0) (WO.o rfl (R.geq rfl rfl) (WO.o rfl (R.pickF rfl (dF n0) rfl) (WO.mv rfl rfl (WO.splitP (d := 54) rfl (fun n1 => ?_) (fun n1 => ?_)))))))))))))
     ·
      refine WO.no rfl rfl (dT n1) rfl (WO.no rfl rfl (dT n1) rfl (WO.noU rfl rfl rfl (WO.noU rfl rfl rfl (WO.noU rfl rfl rfl (WO.noU rfl rfl rfl (WO.noU rfl rfl rfl (WO.noU rfl rfl rfl (WO.noU rfl rfl rfl (WO.no rfl rfl (dT n1) rfl (WO.o rfl (R.pickT rfl (dT n1) rfl) (WO.nil (WX.next ?_))))))))))))
      refine WC.tt rfl (rfl) (WC.sr (WO.a rfl rfl (WO.nil (WX.next (WC.ret (WX.thenR (WX.thenR ?_)))))))
      refine WX.ret1 Tryz.results114 rfl ⟨_, rfl, by rw [hrn (by omega)], hE⟩
     ·
      obtain ⟨x, he_x⟩ : ∃ x, vs[t.n.toNat]? = some x := ⟨_, List.getElem?_eq_getElem (by omega)⟩
      have hm_x := List.mem_of_getElem? he_x
      obtain ⟨b_x, o_x, c_x, ha_x, _, hc_x, hR_x⟩ := hvs.at he_x
      have h1_x := RVr.one hR_x
      obtain rfl := hR_x
      have hlt_x : b_x < _ := World.block_lt_of_cell? _ _ (hc_x 0 _ rfl)
      have hrf := refFit_ref (vs := vs) (inp := inp) (n := t.n) ⟨by omega, by omega⟩ he_x
      refine WO.yes rfl rfl (dF n1) (WO.mv rfl rfl (WO.yes rfl rfl (dF n1) (WO.mv rfl rfl (WO.splitB (d := 56) rfl (fun hi => ?_) (fun hi => ?_)))))
      ·
       refine WO.yes rfl rfl hi (WO.mv rfl rfl (WO.yes rfl rfl hi (WO.o rfl (R.fieldAddr Tryz.runUnderlying84 rfl Tryz.sizeOf3 rfl) (WO.yes rfl rfl hi (WO.o rfl (R.load Tryz.isAgg3 rfl (hB_b.cells 1 _ rfl)) (WO.yes rfl rfl hi (WO.o rfl (R.indexS Tryz.runUnderlying22 Tryz.sizeOf125 rfl rfl ha_x (by omega)) (WO.yes rfl rfl hi (WO.o rfl (R.fieldAddr Tryz.runUnderlying125 rfl Tryz.sizeOf121 rfl) (WO.yes rfl rfl hi (WO.o rfl (R.load Tryz.isAgg121 rfl (hc_x 1 _ rfl)) (WO.yes rfl rfl hi (WO.o rfl (R.eql rfl rfl) (WO.yes rfl rfl (dF n1) (WO.o rfl (R.pickT rfl hi rfl) (WO.o rfl (R.pickF rfl (dF n1) rfl) ?_))))))))))))))))
       refine WO.nil (WX.next (WC.ite rfl (fun hk0 => ?_) (fun hk0 => ?_)))
       ·
        refine WC.sr (WO.a rfl rfl (WO.nil (WX.next (WC.ret (WX.thenR (WX.thenR ?_))))))
        refine WX.ret1 Tryz.results114 rfl ⟨_, rfl, by rw [hfe, h24, hrf, hi, decide_eq_true hk0]; rfl, hE⟩
       · refine WC.skip (WX.meet (()) (Sub.of rfl) (⟨by rw [h24, hrf, hi, decide_eq_false hk0]; rfl, rfl⟩))
      ·
       refine WO.no rfl rfl hi rfl (WO.no rfl rfl hi rfl (WO.no rfl rfl hi rfl (WO.no rfl rfl hi rfl (WO.no rfl rfl hi rfl (WO.no rfl rfl hi rfl (WO.no rfl rfl hi rfl (WO.yes rfl rfl (dF n1) (WO.o rfl (R.pickF rfl hi rfl) (WO.o rfl (R.pickF rfl (dF n1) rfl) (WO.nil (WX.next ?_)))))))))))
       refine WC.ff rfl (rfl) (WC.skip (WX.meet (()) (Sub.of rfl) (⟨by rw [h24, hrf, hi]; rfl, rfl⟩)))
   ·
    have hrf := refFit_else (vs := vs) (inp := inp) (n := t.n) h24
    refine WC.sr (WO.o rfl (R.fieldAddr Tryz.runUnderlying84 rfl Tryz.sizeOf81 rfl) (WO.o rfl (R.load Tryz.isAgg81 rfl (hB_b.cells 0 _ rfl)) (WO.o rfl (R.neq rfl rfl) (WO.mv rfl rfl (WO.splitP (d := 69) rfl (fun o0 => ?_) (fun o0 => ?_))))))
    ·
     refine WO.yes rfl rfl (dT o0) (WO.o rfl (R.fieldAddr Tryz.runUnderlying84 rfl Tryz.sizeOf3 rfl) (WO.yes rfl rfl (dT o0) (WO.o rfl (R.load Tryz.isAgg3 rfl (hB_b.cells 1 _ rfl)) (WO.yes rfl rfl (dT o0) (WO.o rfl (R.neq rfl rfl) (WO.o rfl (R.pickT rfl (dT o0) rfl) (WO.nil (WX.next ?_))))))))
     refine WC.ite rfl (fun n0 => ?_) (fun n0 => ?_)
     ·
      refine WC.sr (WO.a rfl rfl (WO.nil (WX.next (WC.ret (WX.thenR (WX.thenR ?_))))))
      refine WX.ret1 Tryz.results114 rfl ⟨_, rfl, by rw [hfe, hrf, decide_eq_false (by omega)]; rfl, hE⟩
     · refine WC.skip (WX.meet (()) (Sub.of rfl) (⟨by rw [hrf, decide_eq_true (by omega)], rfl⟩))
    ·
     refine WO.no rfl rfl (dF o0) rfl (WO.no rfl rfl (dF o0) rfl (WO.no rfl rfl (dF o0) rfl (WO.o rfl (R.pickF rfl (dF o0) rfl) (WO.nil (WX.next ?_)))))
     refine WC.ff rfl (rfl) (WC.skip (WX.meet (()) (Sub.of rfl) (⟨by rw [hrf, decide_eq_true (by omega)], rfl⟩)))
  rintro u w3 ⟨hrf, hw3⟩
  show WX _ _ _ [(0, .slice av vs.length nv), (2, .bool inp), (4, .pointer (some ⟨b, 0, none⟩))] _
  subst hw3
  rw [hrf, Bool.true_and] at hfe
  refine WX.next (WC.seq (WC.seq (WC.region (WO.a rfl rfl (WO.nil (WX.next (WC.block ?_)))))))
  refine WC.loop (σ := Nat) (fun i => [(0, .slice av vs.length nv), (2, .bool inp), (4, .pointer (some ⟨b, 0, none⟩)), (8, .int .i64 i)]) (fun i => fun w' => i ≤ t.kids.length ∧ formedL vs inp (t.kids.take i) = true ∧ Ext w3 w') (fun i => t.kids.length - i) (0) (Sub.of rfl) (⟨Nat.zero_le _, by simp [formedL], Keep.refl _ _⟩) ?_
  rintro i w4 ⟨hi, hall, hL1⟩
  show WC _ _ _ _ [(0, .slice av vs.length nv), (2, .bool inp), (4, .pointer (some ⟨b, 0, none⟩)), (8, .int .i64 i)] _
  replace hE := hE.ext hL1
  replace hvs := hvs.ext stable_vr hL1
  replace hk := hk.ext stable_tm hL1
  replace hB_b := hL1.blk hB_b (fun h => h)
  refine WC.seq (WC.seq (WC.region (WO.mv rfl rfl (WO.o rfl (R.fieldAddr Tryz.runUnderlying84 rfl Tryz.sizeOf82 rfl) (WO.o rfl (R.load Tryz.isAgg82 rfl (hB_b.cells 2 _ rfl)) (WO.o rfl (R.lenS rfl Tryz.runUnderlying82 rfl) (WO.o rfl (R.lss rfl rfl) (WO.nil (WX.next ?_)))))))))
  refine WC.ite rfl (fun hlt => ?_) (fun hlt => ?_)
  ·
   obtain ⟨k, he_k⟩ : ∃ x, t.kids[i]? = some x := ⟨_, List.getElem?_eq_getElem (by omega)⟩
   have hm_k := List.mem_of_getElem? he_k
   obtain ⟨b_k, o_k, c_k, ha_k, _, hc_k, hR_k⟩ := hk.at he_k
   have h1_k := RTm.one hR_k
   obtain ⟨v1_k, rfl, hk_k⟩ := hR_k.get
   obtain ⟨a1_k, n1_k, rfl⟩ := hk_k.form
   have hlt_k : b_k < _ := World.block_lt_of_cell? _ _ (hc_k 0 _ rfl)
   refine WC.skip (WX.next (WC.seq (WC.block (WC.seq (WC.region (WO.mv rfl rfl (WO.o rfl (R.fieldAddr Tryz.runUnderlying84 rfl Tryz.sizeOf82 rfl) (WO.o rfl (R.load Tryz.isAgg82 rfl (hB_b.cells 2 _ rfl)) (WO.mv rfl rfl (WO.o rfl (R.indexS Tryz.runUnderlying82 Tryz.sizeOf84 rfl rfl ha_k (by omega)) (WO.o rfl (R.loadK Tryz.isAgg84 Tryz.sizeOf84 rfl (by rfl) hc_k) (WO.mv rfl rfl (WO.call rfl rfl rfl (F.call (vs := [_, _, _]) Tryz.call114 rfl) (ih k hm_k _ D _ hvs (RTm.put hk_k)) ?_)))))))))))))
   rintro _ wz2 ⟨rfl, hz2⟩
   replace hE := hE.ext hz2
   replace hvs := hvs.ext stable_vr hz2
   replace hk := hk.ext stable_tm hz2
   replace hB_b := hz2.blk hB_b (fun h => h)
   replace hL1 := hL1.ext hz2
   replace hc_k := hz2.cells hc_k (fun h => h)
   replace hk_k := hk_k.ext stable_tm hz2
   refine WO.o rfl (R.notU rfl (by first | exact not_decide_eq | rfl)) (WO.nil (WX.next ?_))
   refine WC.bool rfl (fun hb => ?_) (fun hb => ?_)
   ·
    have hb' : formedT vs inp k = false := by simpa using hb
    refine WC.sr (WO.a rfl rfl (WO.nil (WX.next (WC.ret (WX.blockR (WX.thenR (WX.thenR (WX.blockR (WX.thenR ?_)))))))))
    refine WX.ret1 Tryz.results114 rfl ⟨_, rfl, by rw [hfe, formedL_bad hm_k hb'], hE⟩
   ·
    have hb' : formedT vs inp k = true := by simpa using hb
    refine WC.skip (WX.blockN (WX.next (WC.region (WO.mv rfl rfl (WO.o rfl (R.add rfl rfl (wrap_i64_in (by omega))) (WO.a rfl rfl (WO.nil (WX.back (i + 1) (Sub.of rfl) (⟨by omega, by rw [formedL_take he_k, hall, hb']; rfl, hL1⟩) (by first | omega | (dsimp only; omega))))))))))
  ·
   have : i = t.kids.length := by omega
   subst this
   rw [List.take_length] at hall
   refine WC.exit (WX.thenE (WX.thenE (WX.hit (WX.next (WC.seq (WC.region (WO.a rfl rfl (WO.nil (WX.next (WC.ret ?_))))))))))
   refine WX.ret1 Tryz.results114 rfl ⟨_, rfl, by rw [hfe, hall], hE⟩
theorem flatFormed_ok (vs : List Vr) (inp : Bool) (vv : Value) (Dv : Nat → Prop) (t : Tm) : ∀ (cs : List Value) (D : Nat → Prop) (w : World), SlR 5 RVr Dv w vv vs → RTm D w t cs → Calls Tryz.prog 196 #[vv, .agg cs.toArray, .bool inp] w (Ret fun r w' => r = .bool (formedT vs inp t) ∧ Ext w w') := by
 induction t using Tm.ind with
 | h t ih =>
 intro cs D w hvs ht
 have hcs1 := ht.one
 obtain ⟨v, rfl, hk⟩ := ht.get
 have hmx := hk.max
 obtain ⟨ao, cap, rfl⟩ := hk.form
 obtain ⟨av, nv, rfl⟩ := hvs.form
 have hfe := formedT_eq (vs := vs) (inp := inp) t
 have hkv := kidsN_vals t.op
 have hE := Keep.refl (fun _ => False) w
 refine calls Tryz.func196 rfl [(0, .slice av vs.length nv), (1, .agg #[.int .i64 t.op, .int .i64 t.n, .slice ao t.kids.length cap]), (2, .bool inp)] 77 ⟨Nat.le_of_ble_eq_true rfl, Tryz.ntmps196⟩ (argsOk (Sub.of rfl)) ?_
 refine WC.sr (WO.mem rfl rfl rfl (M.box rfl rfl) ?_)
 rintro _ w_b ⟨b, rfl, hg_b, hs_b, hB_b, hk_b⟩
 have hge_b : _ ≤ b := Nat.le_trans hE.size (Nat.le_of_eq hg_b.symm)
 replace hE := hE.ext hk_b
 replace hvs := hvs.ext stable_vr hk_b
 replace hk := hk.ext stable_tm hk_b
 refine WO.a rfl rfl (WO.nr (WO.o rfl (R.fieldAddr Tryz.runUnderlying84 rfl Tryz.sizeOf81 rfl) (WO.o rfl (R.load Tryz.isAgg81 rfl (hB_b.cells 0 _ rfl)) (WO.call rfl rfl rfl (F.call (vs := [_]) Tryz.call218 rfl) (flatKids_ok t.op _) ?_))))
 rintro _ wz1 ⟨⟨la, mo, rfl, hk1, hk2, hk3⟩, hz1⟩
 replace hE := hE.ext hz1
 replace hvs := hvs.ext stable_vr hz1
 replace hk := hk.ext stable_tm hz1
 replace hB_b := hz1.blk hB_b (fun h => h)
 refine WO.mv rfl rfl (WO.o rfl (R.extract rfl rfl) (WO.o rfl (R.extract rfl rfl) (WO.a rfl rfl (WO.a rfl rfl (WO.nil (WX.next (WC.seq (WC.seq ?_))))))))
 refine WC.cut (σ := Bool) (fun q => [(0, .slice av vs.length nv), (2, .bool inp), (4, .pointer (some ⟨b, 0, none⟩)), (32, .bool q)]) (fun q => fun w' => q = (!kidsFit t.op t.kids.length) ∧ w' = wz1) ?_ ?_
 ·
  refine WC.region (WO.mv rfl rfl (WO.o rfl (R.lss rfl rfl) (WO.mv rfl rfl (WO.splitP (d := 19) rfl (fun h1 => ?_) (fun h1 => ?_)))))
  · refine WO.no rfl rfl (dT h1) rfl (WO.no rfl rfl (dT h1) rfl (WO.no rfl rfl (dT h1) rfl (WO.no rfl rfl (dT h1) rfl (WO.no rfl rfl (dT h1) rfl (WO.o rfl (R.pickT rfl (dT h1) rfl) (WO.mv rfl rfl (WO.z rfl (WO.z rfl (WO.z rfl (WO.z rfl (WO.z rfl (WO.o rfl (R.pickT rfl rfl rfl) (WO.nil (WX.meet (true) (Sub.of rfl) (⟨by rw [kidsFit_no (.inl (hk1.1 h1))]; rfl, rfl⟩)))))))))))))))
  ·
   have h1' : kidsN t.op ≠ -1 := fun h => h1 (hk1.2 h)
   refine WO.yes rfl rfl (dF h1) (WO.o rfl (R.fieldAddr Tryz.runUnderlying84 rfl Tryz.sizeOf82 rfl) (WO.yes rfl rfl (dF h1) (WO.o rfl (R.load Tryz.isAgg82 rfl (hB_b.cells 2 _ rfl)) (WO.yes rfl rfl (dF h1) (WO.o rfl (R.lenS rfl Tryz.runUnderlying82 rfl) (WO.yes rfl rfl (dF h1) (WO.mv rfl rfl (WO.yes rfl rfl (dF h1) (WO.o rfl (R.lss rfl rfl) (WO.o rfl (R.pickF rfl (dF h1) rfl) (WO.mv rfl rfl (WO.splitP (d := 26) rfl (fun h2 => ?_) (fun h2 => ?_)))))))))))))
   ·
    refine WO.no rfl rfl (dT h2) rfl (WO.no rfl rfl (dT h2) rfl (WO.no rfl rfl (dT h2) rfl (WO.no rfl rfl (dT h2) rfl (WO.no rfl rfl (dT h2) rfl (WO.o rfl (R.pickT rfl (dT h2) rfl) (WO.nil (WX.meet (true) (Sub.of rfl) (⟨?_, rfl⟩))))))))
    rcases (show 0 ≤ kidsN t.op ∨ kidsN t.op = -2 by omega) with h | h
    ·
     have := hk2 h
     rw [kidsFit_no (.inr (.inl ⟨h, by omega⟩))]; rfl
    ·
     have := hk3 h
     rw [kidsFit_no (.inr (.inr ⟨h, by omega⟩))]; rfl
   ·
    refine WO.yes rfl rfl (dF h2) (WO.o rfl (R.fieldAddr Tryz.runUnderlying84 rfl Tryz.sizeOf82 rfl) (WO.yes rfl rfl (dF h2) (WO.o rfl (R.load Tryz.isAgg82 rfl (hB_b.cells 2 _ rfl)) (WO.yes rfl rfl (dF h2) (WO.o rfl (R.lenS rfl Tryz.runUnderlying82 rfl) (WO.yes rfl rfl (dF h2) (WO.mv rfl rfl (WO.yes rfl rfl (dF h2) (WO.o rfl (R.gtr rfl rfl) (WO.o rfl (R.pickF rfl (dF h2) rfl) (WO.nil (WX.meet (decide (mo < (t.kids.length : Int))) (Sub.of rfl) (⟨?_, rfl⟩)))))))))))))
    rcases (show 0 ≤ kidsN t.op ∨ kidsN t.op = -2 by omega) with h | h
    ·
     have := hk2 h
     by_cases h3 : mo < (t.kids.length : Int)
     · rw [kidsFit_no (.inr (.inl ⟨h, by omega⟩)), decide_eq_true h3]; rfl
     · rw [kidsFit_yes (.inl ⟨h, by omega⟩), decide_eq_false h3]; rfl
    ·
     have := hk3 h
     by_cases h3 : mo < (t.kids.length : Int)
     · rw [kidsFit_no (.inr (.inr ⟨h, by omega⟩)), decide_eq_true h3]; rfl
     · rw [kidsFit_yes (.inr ⟨h, by omega, by omega⟩), decide_eq_false h3]; rfl
 rintro q w2 ⟨hq, hw2⟩
 show WX _ _ _ [(0, .slice av vs.length nv), (2, .bool inp), (4, .pointer (some ⟨b, 0, none⟩)), (32, .bool q)] _
 subst hw2
 refine WX.next (WC.bool rfl (fun hq1 => ?_) (fun hq1 => ?_))
 ·
  have hf : kidsFit t.op t.kids.length = false := by rw [hq1] at hq; simpa using hq.symm
  refine WC.sr (WO.a rfl rfl (WO.nil (WX.next (WC.ret (WX.thenR ?_)))))
  refine WX.ret1 Tryz.results196 rfl ⟨_, rfl, by rw [hfe, hf]; rfl, hE⟩
 ·
  have hf : kidsFit t.op t.kids.length = true := by rw [hq1] at hq; simpa using hq.symm
  rw [hf, Bool.true_and] at hfe
  refine WC.skip (WX.next (WC.seq (WC.seq (WC.region (WO.o rfl (R.fieldAddr Tryz.runUnderlying84 rfl Tryz.sizeOf81 rfl) (WO.o rfl (R.load Tryz.isAgg81 rfl (hB_b.cells 0 _ rfl)) (WO.nil (WX.next ?_))))))))
  refine WC.cut (σ := Unit) (fun u => [(0, .slice av vs.length nv), (2, .bool inp), (4, .pointer (some ⟨b, 0, none⟩))]) (fun u => fun w' => refFit vs inp t.op t.n = true ∧ w' = w2) ?_ ?_
  ·
   refine WC.block (WC.seq (WC.region (WO.o rfl (R.eql rfl rfl) (WO.a rfl rfl (WO.nil (WX.next ?_))))))
   refine WC.ite rfl (fun h0 => ?_) (fun h0 => ?_)
   ·
    have hrf := refFit_else (vs := vs) (inp := inp) (n := t.n) (show t.op ≠ 24 by omega)
    refine WC.skip (WX.blockN (WX.meet (()) (Sub.of rfl) (⟨by rw [hrf, decide_eq_true (by omega)], rfl⟩)))
   ·
    refine WC.sr (WO.o rfl (R.eql rfl rfl) (WO.a rfl rfl (WO.nil (WX.next ?_))))
    refine WC.ite rfl (fun h24 => ?_) (fun h24 => ?_)
    ·
     have hrn : ¬ (0 ≤ t.n ∧ t.n < vs.length) → formedT vs inp t = false := fun h => by rw [hfe, h24, refFit_out h]; rfl
     refine WC.sr (WO.o rfl (R.fieldAddr Tryz.runUnderlying84 rfl Tryz.sizeOf3 rfl) (WO.o rfl (R.load Tryz.isAgg3 rfl (hB_b.cells 1 _ rfl)) (WO.o rfl (R.lss rfl rfl) (WO.mv rfl rfl (WO.splitP (d := 45) rfl (fun n0 => ?_) (fun n0 => ?_))))))
     ·
      refine WO.no rfl rfl (dT n0) rfl (WO.no rfl rfl (dT n0) rfl (WO.no rfl rfl (dT n0) rfl (WO.no rfl rfl (dT n0) rfl (WO.no rfl rfl (dT n0) rfl (WO.o rfl (R.pickT rfl (dT n0) rfl) (WO.mv rfl rfl (WO.z rfl (WO.z rfl (WO.noU rfl rfl rfl (WO.noU rfl rfl rfl (WO.noU rfl rfl rfl (WO.noU rfl rfl rfl (WO.noU rfl rfl rfl (WO.noU rfl rfl rfl (WO.noU rfl rfl rfl (WO.z rfl (WO.o rfl (R.pickT rfl rfl rfl) (WO.nil (WX.next ?_)))))))))))))))))))
      refine WC.tt rfl (rfl) (WC.sr (WO.a rfl rfl (WO.nil (WX.next (WC.ret (WX.blockR (WX.thenR (WX.thenR ?_))))))))
      refine WX.ret1 Tryz.results196 rfl ⟨_, rfl, by rw [hrn (by omega)], hE⟩
     ·
      refine WO.yes rfl rfl (dF n0) (WO.o rfl (R.fieldAddr Tryz.runUnderlying84 rfl Tryz.sizeOf3 rfl) (WO.yes rfl rfl (dF n0) (WO.o rfl (R.load Tryz.isAgg3 rfl (hB_b.cells 1 _ rfl)) (WO.yes rfl rfl (dF n0) (WO.mv rfl rfl (WO.yes rfl rfl (dF n0) (WO.o rfl (R.lenS rfl Tryz.runUnderlying22 rfl) (WO.yes rfl rfl (dF n0) (WO.o rfl (R.geq rfl rfl) (WO.o rfl (R.pickF rfl (dF n0) rfl) (WO.mv rfl rfl (WO.splitP (d := 52) rfl (fun n1 => ?_) (fun n1 => ?_)))))))))))))
      ·
       refine WO.no rfl rfl (dT n1) rfl (WO.no rfl rfl (dT n1) rfl (WO.noU rfl rfl rfl (WO.noU rfl rfl rfl (WO.noU rfl rfl rfl (WO.noU rfl rfl rfl (WO.noU rfl rfl rfl (WO.noU rfl rfl rfl (WO.noU rfl rfl rfl (WO.no rfl rfl (dT n1) rfl (WO.o rfl (R.pickT rfl (dT n1) rfl) (WO.nil (WX.next ?_))))))))))))
       refine WC.tt rfl (rfl) (WC.sr (WO.a rfl rfl (WO.nil (WX.next (WC.ret (WX.blockR (WX.thenR (WX.thenR ?_))))))))
       refine WX.ret1 Tryz.results196 rfl ⟨_, rfl, by rw [hrn (by omega)], hE⟩
      ·
       obtain ⟨x, he_x⟩ : ∃ x, vs[t.n.toNat]? = some x := ⟨_, List.getElem?_eq_getElem (by omega)⟩
       have hm_x := List.mem_of_getElem? he_x
       obtain ⟨b_x, o_x, c_x, ha_x, _, hc_x, hR_x⟩ := hvs.at he_x
       have h1_x := RVr.one hR_x
       obtain rfl := hR_x
       have hlt_x : b_x < _ := World.block_lt_of_cell? _ _ (hc_x 0 _ rfl)
       have hrf := refFit_ref (vs := vs) (inp := inp) (n := t.n) ⟨by omega, by omega⟩ he_x
       refine WO.yes rfl rfl (dF n1) (WO.mv rfl rfl (WO.yes rfl rfl (dF n1) (WO.mv rfl rfl (WO.splitB (d := 54) rfl (fun hi => ?_) (fun hi => ?_)))))
       ·
        refine WO.yes rfl rfl hi (WO.mv rfl rfl (WO.yes rfl rfl hi (WO.o rfl (R.fieldAddr Tryz.runUnderlying84 rfl Tryz.sizeOf3 rfl) (WO.yes rfl rfl hi (WO.o rfl (R.load Tryz.isAgg3 rfl (hB_b.cells 1 _ rfl)) (WO.yes rfl rfl hi (WO.o rfl (R.indexS Tryz.runUnderlying22 Tryz.sizeOf125 rfl rfl ha_x (by omega)) (WO.yes rfl rfl hi (WO.o rfl (R.fieldAddr Tryz.runUnderlying125 rfl Tryz.sizeOf121 rfl) (WO.yes rfl rfl hi (WO.o rfl (R.load Tryz.isAgg121 rfl (hc_x 1 _ rfl)) (WO.yes rfl rfl hi (WO.o rfl (R.eql rfl rfl) (WO.yes rfl rfl (dF n1) (WO.o rfl (R.pickT rfl hi rfl) (WO.o rfl (R.pickF rfl (dF n1) rfl) ?_))))))))))))))))
        refine WO.nil (WX.next (WC.ite rfl (fun hk0 => ?_) (fun hk0 => ?_)))
        ·
         refine WC.sr (WO.a rfl rfl (WO.nil (WX.next (WC.ret (WX.blockR (WX.thenR (WX.thenR ?_)))))))
         refine WX.ret1 Tryz.results196 rfl ⟨_, rfl, by rw [hfe, h24, hrf, hi, decide_eq_true hk0]; rfl, hE⟩
        · refine WC.skip (WX.blockN (WX.meet (()) (Sub.of rfl) (⟨by rw [h24, hrf, hi, decide_eq_false hk0]; rfl, rfl⟩)))
       ·
        refine WO.no rfl rfl hi rfl (WO.no rfl rfl hi rfl (WO.no rfl rfl hi rfl (WO.no rfl rfl hi rfl (WO.no rfl rfl hi rfl (WO.no rfl rfl hi rfl (WO.no rfl rfl hi rfl (WO.yes rfl rfl (dF n1) (WO.o rfl (R.pickF rfl hi rfl) (WO.o rfl (R.pickF rfl (dF n1) rfl) (WO.nil (WX.next ?_)))))))))))
        refine WC.ff rfl (rfl) (WC.skip (WX.blockN ?_))
        refine WX.meet (()) (Sub.of rfl) (⟨by rw [h24, hrf, hi]; rfl, rfl⟩)
    ·
     have hrf := refFit_else (vs := vs) (inp := inp) (n := t.n) h24
     refine WC.sr (WO.o rfl (R.fieldAddr Tryz.runUnderlying84 rfl Tryz.sizeOf3 rfl) (WO.o rfl (R.load Tryz.isAgg3 rfl (hB_b.cells 1 _ rfl)) (WO.o rfl (R.neq rfl rfl) (WO.nil (WX.next ?_)))))
     refine WC.ite rfl (fun n0 => ?_) (fun n0 => ?_)
     ·
      refine WC.sr (WO.a rfl rfl (WO.nil (WX.next (WC.ret (WX.blockR (WX.thenR (WX.thenR ?_)))))))
      refine WX.ret1 Tryz.results196 rfl ⟨_, rfl, by rw [hfe, hrf, decide_eq_false (by omega)]; rfl, hE⟩
     · refine WC.skip (WX.blockN (WX.meet (()) (Sub.of rfl) (⟨by rw [hrf, decide_eq_true (by omega)], rfl⟩)))
  rintro u w3 ⟨hrf, hw3⟩
  show WX _ _ _ [(0, .slice av vs.length nv), (2, .bool inp), (4, .pointer (some ⟨b, 0, none⟩))] _
  subst hw3
  rw [hrf, Bool.true_and] at hfe
  refine WX.next (WC.seq (WC.seq (WC.region (WO.o rfl (R.fieldAddr Tryz.runUnderlying84 rfl Tryz.sizeOf82 rfl) (WO.o rfl (R.load Tryz.isAgg82 rfl (hB_b.cells 2 _ rfl)) (WO.o rfl (R.lenS rfl Tryz.runUnderlying82 rfl) (WO.mv rfl rfl (WO.nil (WX.next (WC.block ?_))))))))))
  refine WC.loop (σ := Nat) (fun i => [(0, .slice av vs.length nv), (2, .bool inp), (65, .slice ao t.kids.length cap), (66, .int .i64 t.kids.length), (67, .int .i64 i)]) (fun i => fun w' => i ≤ t.kids.length ∧ formedL vs inp (t.kids.take i) = true ∧ Ext w3 w') (fun i => t.kids.length - i) (0) (Sub.of rfl) (⟨Nat.zero_le _, by simp [formedL], Keep.refl _ _⟩) ?_
  rintro i w4 ⟨hi, hall, hL1⟩
  show WC _ _ _ _ [(0, .slice av vs.length nv), (2, .bool inp), (65, .slice ao t.kids.length cap), (66, .int .i64 t.kids.length), (67, .int .i64 i)] _
  replace hE := hE.ext hL1
  replace hvs := hvs.ext stable_vr hL1
  replace hk := hk.ext stable_tm hL1
  replace hB_b := hL1.blk hB_b (fun h => h)
  refine WC.sr (WO.o rfl (R.lss rfl rfl) (WO.nil (WX.next (WC.seq ?_))))
  refine WC.ite rfl (fun hlt => ?_) (fun hlt => ?_)
  ·
   obtain ⟨k, he_k⟩ : ∃ x, t.kids[i]? = some x := ⟨_, List.getElem?_eq_getElem (by omega)⟩
   have hm_k := List.mem_of_getElem? he_k
   obtain ⟨b_k, o_k, c_k, ha_k, _, hc_k, hR_k⟩ := hk.at he_k
   have h1_k := RTm.one hR_k
   obtain ⟨v1_k, rfl, hk_k⟩ := hR_k.get
   obtain ⟨a1_k, n1_k, rfl⟩ := hk_k.form
   have hlt_k : b_k < _ := World.block_lt_of_cell? _ _ (hc_k 0 _ rfl)
   refine WC.skip (WX.next (WC.seq (WC.block (WC.seq (WC.region (WO.o rfl (R.indexS Tryz.runUnderlying82 Tryz.sizeOf84 rfl rfl ha_k (by omega)) (WO.o rfl (R.loadK Tryz.isAgg84 Tryz.sizeOf84 rfl (by rfl) hc_k) (WO.mem rfl rfl rfl (M.alloc (cs := _) Tryz.zeroValue84 rfl) ?_))))))))
   rintro _ wa2 ⟨c, rfl, hg_c, hs_c, hB_c, hk_c⟩
   refine WO.mem0 rfl rfl (M.storeK Tryz.sizeOf84 rfl rfl rfl rfl h1_k hB_c (by simp)) ?_
   rintro w_c ⟨_, hB_c, hkk_c⟩
   replace hk_c := hk_c.trans hkk_c (fun q hq h => by have h : q = c := h; omega)
   have hn_b_c : b ≠ c := by have := hB_b.lt; omega
   have hge_c : _ ≤ c := Nat.le_trans hE.size (Nat.le_of_eq hg_c.symm)
   replace hE := hE.ext hk_c
   replace hvs := hvs.ext stable_vr hk_c
   replace hk := hk.ext stable_tm hk_c
   replace hB_b := hk_c.blk hB_b (fun h => h)
   replace hL1 := hL1.ext hk_c
   replace hc_k := hk_c.cells hc_k (fun h => h)
   replace hk_k := hk_k.ext stable_tm hk_c
   refine WO.nr (WO.mv rfl rfl (WO.o rfl (R.loadK Tryz.isAgg84 Tryz.sizeOf84 rfl (by rfl) hB_c.cells) (WO.mv rfl rfl (WO.call rfl rfl rfl (F.call (vs := [_, _, _]) Tryz.call196 rfl) (ih k hm_k _ D _ hvs (RTm.put hk_k)) ?_))))
   rintro _ wz3 ⟨rfl, hz3⟩
   replace hE := hE.ext hz3
   replace hvs := hvs.ext stable_vr hz3
   replace hk := hk.ext stable_tm hz3
   replace hB_b := hz3.blk hB_b (fun h => h)
   replace hL1 := hL1.ext hz3
   replace hc_k := hz3.cells hc_k (fun h => h)
   replace hk_k := hk_k.ext stable_tm hz3
   replace hB_c := hz3.blk hB_c (fun h => h)
   refine WO.o rfl (R.notU rfl (by first | exact not_decide_eq | rfl)) (WO.nil (WX.next ?_))
   refine WC.bool rfl (fun hb => ?_) (fun hb => ?_)
   ·
    have hb' : formedT vs inp k = false := by simpa using hb
    refine WC.sr (WO.a rfl rfl (WO.nil (WX.next (WC.ret (WX.blockR (WX.thenR (WX.thenR (WX.blockR (WX.thenR ?_)))))))))
    refine WX.ret1 Tryz.results196 rfl ⟨_, rfl, by rw [hfe, formedL_bad hm_k hb'], hE⟩
   ·
    have hb' : formedT vs inp k = true := by simpa using hb
    refine WC.skip (WX.blockN (WX.next (WC.region (WO.o rfl (R.add rfl rfl (wrap_i64_in (by omega))) (WO.mv rfl rfl (WO.nil (WX.back (i + 1) (Sub.of rfl) (⟨by omega, by rw [formedL_take he_k, hall, hb']; rfl, hL1⟩) (by first | omega | (dsimp only; omega)))))))))
  ·
   have : i = t.kids.length := by omega
   subst this
   rw [List.take_length] at hall
   refine WC.exit (WX.thenE (WX.thenE (WX.hit (WX.next (WC.seq (WC.region (WO.a rfl rfl (WO.nil (WX.next (WC.ret ?_))))))))))
   refine WX.ret1 Tryz.results196 rfl ⟨_, rfl, by rw [hfe, hall], hE⟩
open Go.GL
abbrev Rg := Int × Int
def okR (r : Rg) : Bool := decide (-1048576 ≤ r.1 ∧ r.2 ≤ 1048576)
def Good (r : Rg) : Prop := -1048576 ≤ r.1 ∧ r.1 ≤ r.2 ∧ r.2 ≤ 1048576
def hullL (x : Rg) (l : List Rg) : Rg := l.foldl (fun o r => (min o.1 r.1, max o.2 r.2)) x
def cornersI (a b : Rg) : Rg := hullL (a.1 * b.1, a.1 * b.1) [(a.1 * b.2, a.1 * b.2), (a.2 * b.1, a.2 * b.1), (a.2 * b.2, a.2 * b.2)]
theorem hullL_take {x : Rg} {l : List Rg} {i : Nat} {r : Rg} (h : l[i]? = some r) : hullL x (l.take (i + 1)) = (min (hullL x (l.take i)).1 r.1, max (hullL x (l.take i)).2 r.2) := by
 rw [take_get h]; simp [hullL]
theorem mul_le {x y : Int} (hx : -1048576 ≤ x ∧ x ≤ 1048576) (hy : -1048576 ≤ y ∧ y ≤ 1048576) : -1099511627776 ≤ x * y ∧ x * y ≤ 1099511627776 := by
 have h1 := Int.natAbs_mul x y
 have h2 : x.natAbs * y.natAbs ≤ 1048576 * 1048576 := Nat.mul_le_mul (by omega) (by omega)
 omega
theorem hull_ok (a b : Rg) (w : World) : Calls Tryz.prog 228 #[.agg #[.int .i64 a.1, .int .i64 a.2], .agg #[.int .i64 b.1, .int .i64 b.2]] w (Ret fun r w' => r = .agg #[.int .i64 (min a.1 b.1), .int .i64 (max a.2 b.2)] ∧ Ext w w') := by
 have hE := Keep.refl (fun _ => False) w
 refine calls Tryz.func228 rfl [(0, .agg #[.int .i64 a.1, .int .i64 a.2]), (1, .agg #[.int .i64 b.1, .int .i64 b.2])] 16 ⟨Nat.le_of_ble_eq_true rfl, Tryz.ntmps228⟩ (argsOk (Sub.of rfl)) ?_
 refine WC.sr (WO.mem rfl rfl rfl (M.box rfl rfl) ?_)
 rintro _ w_x ⟨x, rfl, hg_x, hs_x, hB_x, hk_x⟩
 have hge_x : _ ≤ x := Nat.le_trans hE.size (Nat.le_of_eq hg_x.symm)
 replace hE := hE.ext hk_x
 refine WO.mem rfl rfl rfl (M.box rfl rfl) ?_
 rintro _ w_y ⟨y, rfl, hg_y, hs_y, hB_y, hk_y⟩
 have hn_x_y : x ≠ y := by have := hB_x.lt; omega
 have hge_y : _ ≤ y := Nat.le_trans hE.size (Nat.le_of_eq hg_y.symm)
 replace hE := hE.ext hk_y
 replace hB_x := hk_y.blk hB_x (fun h => h)
 refine WO.mem rfl rfl rfl (M.alloc (cs := _) Tryz.zeroValue243 rfl) ?_
 rintro _ w_r ⟨r, rfl, hg_r, hs_r, hB_r, hk_r⟩
 have hn_x_r : x ≠ r := by have := hB_x.lt; omega
 have hn_y_r : y ≠ r := by have := hB_y.lt; omega
 have hge_r : _ ≤ r := Nat.le_trans hE.size (Nat.le_of_eq hg_r.symm)
 replace hE := hE.ext hk_r
 replace hB_x := hk_r.blk hB_x (fun h => h)
 replace hB_y := hk_r.blk hB_y (fun h => h)
 refine WO.nr (WO.o rfl (R.fieldAddr Tryz.runUnderlying243 rfl Tryz.sizeOf3 rfl) (WO.o rfl (R.load Tryz.isAgg3 rfl (hB_x.cells 0 _ rfl)) (WO.o rfl (R.fieldAddr Tryz.runUnderlying243 rfl Tryz.sizeOf3 rfl) (WO.o rfl (R.load Tryz.isAgg3 rfl (hB_y.cells 0 _ rfl)) (WO.o rfl (R.minI rfl rfl) (WO.o rfl (R.fieldAddr Tryz.runUnderlying243 rfl Tryz.sizeOf3 rfl) (WO.o rfl (R.load Tryz.isAgg3 rfl (hB_x.cells 1 _ rfl)) (WO.o rfl (R.fieldAddr Tryz.runUnderlying243 rfl Tryz.sizeOf3 rfl) (WO.o rfl (R.load Tryz.isAgg3 rfl (hB_y.cells 1 _ rfl)) (WO.o rfl (R.maxI rfl rfl) (WO.o rfl (R.build (v := .agg #[.int .i64 (min a.1 b.1), .int .i64 (max a.2 b.2)]) [(0, _), (1, _)] rfl (fun _ => by kernel_rfl)) ?_)))))))))))
 refine WO.mem0 rfl rfl (M.storeK Tryz.sizeOf243 rfl rfl rfl rfl (by simp [Value.oneCell']) hB_r (by simp)) ?_
 rintro wf ⟨_, hBf, hkf⟩
 refine WO.nil (WX.next (WC.ret (WX.retC Tryz.results228 rfl (run_loadK Tryz.isAgg243 Tryz.sizeOf243 rfl hBf.cells) ?_)))
 exact ⟨_, rfl, rfl, hE.trans hkf (fun q hq h => by have h : q = r := h; omega)⟩
theorem mulF_ok (a b : Int) (w : World) (ha : -1048576 ≤ a ∧ a ≤ 1048576) (hb : -1048576 ≤ b ∧ b ≤ 1048576) : Calls Tryz.prog 227 #[.int .i64 a, .int .i64 b] w (Ret fun r w' => r = .int .i64 (a * b) ∧ Ext w w') := by
 have := mul_le ha hb
 refine calls Tryz.func227 rfl [(0, .int .i64 a), (1, .int .i64 b)] 8 ⟨Nat.le_of_ble_eq_true rfl, Tryz.ntmps227⟩ (argsOk (Sub.of rfl)) ?_
 refine WC.sr (WO.a rfl rfl (WO.nr (WO.mv rfl rfl (WO.mv rfl rfl (WO.o rfl (R.mul rfl rfl (wrap_i64_in (by omega))) (WO.a rfl rfl (WO.nil (WX.next (WC.ret ?_)))))))))
 refine WX.ret1 Tryz.results227 rfl ⟨_, rfl, rfl, Keep.refl _ _⟩
theorem corners_ok (a b : Rg) (w : World) (ha : Good a) (hb : Good b) : Calls Tryz.prog 226 #[.agg #[.int .i64 a.1, .int .i64 a.2], .agg #[.int .i64 b.1, .int .i64 b.2], .func (.func 227) #[] #[]] w (Ret fun r w' => r = .agg #[.int .i64 (cornersI a b).1, .int .i64 (cornersI a b).2] ∧ Ext w w') := by
 unfold Good at ha hb
 have hE := Keep.refl (fun _ => False) w
 refine calls Tryz.func226 rfl [(0, .agg #[.int .i64 a.1, .int .i64 a.2]), (1, .agg #[.int .i64 b.1, .int .i64 b.2]), (2, .func (.func 227) #[] #[])] 51 ⟨Nat.le_of_ble_eq_true rfl, Tryz.ntmps226⟩ (argsOk (Sub.of rfl)) ?_
 refine WC.sr (WO.mem rfl rfl rfl (M.box rfl rfl) ?_)
 rintro _ w_x ⟨x, rfl, hg_x, hs_x, hB_x, hk_x⟩
 have hge_x : _ ≤ x := Nat.le_trans hE.size (Nat.le_of_eq hg_x.symm)
 replace hE := hE.ext hk_x
 refine WO.mem rfl rfl rfl (M.box rfl rfl) ?_
 rintro _ w_y ⟨y, rfl, hg_y, hs_y, hB_y, hk_y⟩
 have hn_x_y : x ≠ y := by have := hB_x.lt; omega
 have hge_y : _ ≤ y := Nat.le_trans hE.size (Nat.le_of_eq hg_y.symm)
 replace hE := hE.ext hk_y
 replace hB_x := hk_y.blk hB_x (fun h => h)
 refine WO.mem rfl rfl rfl (M.alloc (cs := _) Tryz.zeroValue243 rfl) ?_
 rintro _ w_r ⟨r, rfl, hg_r, hs_r, hB_r, hk_r⟩
 have hn_x_r : x ≠ r := by have := hB_x.lt; omega
 have hn_y_r : y ≠ r := by have := hB_y.lt; omega
 have hge_r : _ ≤ r := Nat.le_trans hE.size (Nat.le_of_eq hg_r.symm)
 replace hE := hE.ext hk_r
 replace hB_x := hk_r.blk hB_x (fun h => h)
 replace hB_y := hk_r.blk hB_y (fun h => h)
 refine WO.nr (WO.mv rfl rfl (WO.o rfl (R.fieldAddr Tryz.runUnderlying243 rfl Tryz.sizeOf3 rfl) (WO.o rfl (R.load Tryz.isAgg3 rfl (hB_x.cells 0 _ rfl)) (WO.o rfl (R.fieldAddr Tryz.runUnderlying243 rfl Tryz.sizeOf3 rfl) (WO.o rfl (R.load Tryz.isAgg3 rfl (hB_y.cells 0 _ rfl)) (WO.call rfl rfl rfl (F.callV (vs := [_, _]) Tryz.call227 rfl rfl) (mulF_ok a.1 b.1 _ (by omega) (by omega)) ?_))))))
 rintro _ wz1 ⟨rfl, hz1⟩
 replace hE := hE.ext hz1
 replace hB_x := hz1.blk hB_x (fun h => h)
 replace hB_y := hz1.blk hB_y (fun h => h)
 replace hB_r := hz1.blk hB_r (fun h => h)
 refine WO.a rfl rfl (WO.nr (WO.mv rfl rfl (WO.mv rfl rfl (WO.o rfl (R.build (v := .agg #[.int .i64 (a.1 * b.1), .int .i64 (a.1 * b.1)]) [(0, _), (1, _)] rfl (fun _ => by kernel_rfl)) (WO.mem rfl rfl rfl (M.alloc (cs := _) Tryz.zeroValue243 rfl) ?_)))))
 rintro _ wa2 ⟨o, rfl, hg_o, hs_o, hB_o, hk_o⟩
 refine WO.mem0 rfl rfl (M.storeK Tryz.sizeOf243 rfl rfl rfl rfl (by simp [Value.oneCell']) hB_o (by simp)) ?_
 rintro w_o ⟨_, hB_o, hkk_o⟩
 replace hk_o := hk_o.trans hkk_o (fun q hq h => by have h : q = o := h; omega)
 have hn_x_o : x ≠ o := by have := hB_x.lt; omega
 have hn_y_o : y ≠ o := by have := hB_y.lt; omega
 have hn_r_o : r ≠ o := by have := hB_r.lt; omega
 have hge_o : _ ≤ o := Nat.le_trans hE.size (Nat.le_of_eq hg_o.symm)
 replace hE := hE.ext hk_o
 replace hB_x := hk_o.blk hB_x (fun h => h)
 replace hB_y := hk_o.blk hB_y (fun h => h)
 replace hB_r := hk_o.blk hB_r (fun h => h)
 refine WO.nil (WX.next (WC.seq (WC.seq (WC.draw (fun q => Ext w_o q) [] (by kernel_rfl) (fun wd3 hD _ => ?_)))))
 refine WD.takeW 0 rfl (by kernel_rfl) rfl rfl rfl (fun w1 => R.move rfl) (WD.takeW 1 rfl (by kernel_rfl) rfl rfl rfl (fun w1 => R.fieldAddr Tryz.runUnderlying243 rfl Tryz.sizeOf3 rfl) (WD.take 2 rfl (by kernel_rfl) rfl rfl rfl hD (fun w1 hw1 => R.load Tryz.isAgg3 rfl ((hw1.blk hB_x (fun h => h)).cells 0 _ rfl)) (WD.takeW 3 rfl (by kernel_rfl) rfl rfl rfl (fun w1 => R.fieldAddr Tryz.runUnderlying243 rfl Tryz.sizeOf3 rfl) (WD.take 4 rfl (by kernel_rfl) rfl rfl rfl hD (fun w1 hw1 => R.load Tryz.isAgg3 rfl ((hw1.blk hB_y (fun h => h)).cells 1 _ rfl)) (WD.takeW 6 rfl (by kernel_rfl) rfl rfl rfl (fun w1 => R.move rfl) ?_)))))
 refine WD.takeW 7 rfl (by kernel_rfl) rfl rfl rfl (fun w1 => R.fieldAddr Tryz.runUnderlying243 rfl Tryz.sizeOf3 rfl) (WD.take 8 rfl (by kernel_rfl) rfl rfl rfl hD (fun w1 hw1 => R.load Tryz.isAgg3 rfl ((hw1.blk hB_x (fun h => h)).cells 1 _ rfl)) (WD.takeW 9 rfl (by kernel_rfl) rfl rfl rfl (fun w1 => R.fieldAddr Tryz.runUnderlying243 rfl Tryz.sizeOf3 rfl) (WD.take 10 rfl (by kernel_rfl) rfl rfl rfl hD (fun w1 hw1 => R.load Tryz.isAgg3 rfl ((hw1.blk hB_y (fun h => h)).cells 0 _ rfl)) (WD.takeW 12 rfl (by kernel_rfl) rfl rfl rfl (fun w1 => R.move rfl) (WD.takeW 13 rfl (by kernel_rfl) rfl rfl rfl (fun w1 => R.fieldAddr Tryz.runUnderlying243 rfl Tryz.sizeOf3 rfl) ?_)))))
 refine WD.take 14 rfl (by kernel_rfl) rfl rfl rfl hD (fun w1 hw1 => R.load Tryz.isAgg3 rfl ((hw1.blk hB_x (fun h => h)).cells 1 _ rfl)) (WD.takeW 15 rfl (by kernel_rfl) rfl rfl rfl (fun w1 => R.fieldAddr Tryz.runUnderlying243 rfl Tryz.sizeOf3 rfl) (WD.take 16 rfl (by kernel_rfl) rfl rfl rfl hD (fun w1 hw1 => R.load Tryz.isAgg3 rfl ((hw1.blk hB_y (fun h => h)).cells 1 _ rfl)) (WD.takeW 20 rfl (by kernel_rfl) rfl rfl rfl (fun w1 => R.move rfl) (WD.call 5 rfl (by kernel_rfl) rfl rfl rfl (F.callV (vs := [_, _]) Tryz.call227 rfl rfl) (mulF_ok a.1 b.2 _ (by omega) (by omega)) ?_))))
 rintro _ wz4 ⟨rfl, hz4⟩
 replace hD := hD.ext hz4
 refine ⟨fun _ => hD, ?_⟩
 refine WD.call 11 rfl (by kernel_rfl) rfl rfl rfl (F.callV (vs := [_, _]) Tryz.call227 rfl rfl) (mulF_ok a.2 b.1 _ (by omega) (by omega)) ?_
 rintro _ wz5 ⟨rfl, hz5⟩
 replace hD := hD.ext hz5
 refine ⟨fun _ => hD, ?_⟩
 refine WD.call 17 rfl (by kernel_rfl) rfl rfl rfl (F.callV (vs := [_, _]) Tryz.call227 rfl rfl) (mulF_ok a.2 b.2 _ (by omega) (by omega)) ?_
 rintro _ wz6 ⟨rfl, hz6⟩
 replace hD := hD.ext hz6
 refine ⟨fun _ => hD, ?_⟩
 refine WD.mem 18 rfl (by kernel_rfl) rfl rfl rfl (M.buildSlice (cs := [.int .i64 (a.1 * b.2), .int .i64 (a.2 * b.1), .int .i64 (a.2 * b.2)]) [(0, _), (1, _), (2, _)] Tryz.runUnderlying50 Tryz.sizeOf3 Tryz.zeroValue3 (by decide) rfl (by kernel_rfl)) ?_
 rintro _ ws ⟨s, rfl, hg_s, hs_s, hB_s, hk_s⟩
 have hEs := hD.ext hk_s
 have hso : s ≠ o := by have := hB_o.lt; have := hD.size; omega
 refine ⟨fun _ => hEs, ?_⟩
 refine WD.takeW 19 rfl (by kernel_rfl) rfl rfl rfl (fun w1 => R.lenS rfl Tryz.runUnderlying50 rfl) (WD.done (by kernel_rfl) ?_ _)
 replace hE := hE.ext hEs
 replace hB_x := hEs.blk hB_x (fun h => h)
 replace hB_y := hEs.blk hB_y (fun h => h)
 replace hB_r := hEs.blk hB_r (fun h => h)
 replace hB_o := hEs.blk hB_o (fun h => h)
 obtain ⟨es, hes⟩ : ∃ es : List Int, es = [a.1 * b.2, a.2 * b.1, a.2 * b.2] := ⟨_, rfl⟩
 have hel : es.length = 3 := by rw [hes]; rfl
 have hBs : Blk ws s (es.map (.int .i64)) 3 := by rw [hes]; exact hB_s
 have hp := mul_le (x := a.1) (y := b.1) (by omega) (by omega)
 refine WX.next (WC.block (WC.loop (σ := Nat) (fun k => [(6, .pointer (some ⟨r, 0, none⟩)), (8, .pointer (some ⟨o, 0, none⟩)), (38, .slice (some ⟨s, 0, none⟩) 3 3), (39, .int .i64 3), (40, .int .i64 k)]) (fun k => fun w' => k ≤ 3 ∧ Blk w' o [.int .i64 (hullL (a.1 * b.1, a.1 * b.1) ((es.map (fun x => (x, x))).take k)).1, .int .i64 (hullL (a.1 * b.1, a.1 * b.1) ((es.map (fun x => (x, x))).take k)).2] 243 ∧ Keep (fun q => q = o) ws w') (fun k => 3 - k) (0) (Sub.of rfl) (⟨Nat.zero_le _, hB_o, Keep.refl _ _⟩) ?_))
 rintro k w1 ⟨hk, hB_o, hk1⟩
 show WC _ _ _ _ [(6, .pointer (some ⟨r, 0, none⟩)), (8, .pointer (some ⟨o, 0, none⟩)), (38, .slice (some ⟨s, 0, none⟩) 3 3), (39, .int .i64 3), (40, .int .i64 k)] _
 refine WC.sr (WO.o rfl (R.lss rfl rfl) (WO.nil (WX.next (WC.seq ?_))))
 refine WC.ite rfl (fun hlt => ?_) (fun hlt => ?_)
 ·
  obtain ⟨x, hx⟩ : ∃ x, es[k]? = some x := ⟨_, List.getElem?_eq_getElem (by omega)⟩
  refine WC.skip (WX.next (WC.seq (WC.block (WC.seq (WC.region (WO.o rfl (R.indexS Tryz.runUnderlying50 Tryz.sizeOf3 rfl rfl rfl (by omega)) (WO.o rfl (R.load Tryz.isAgg3 rfl ((hk1.blk hBs hso).cells.el1 k rfl (by rw [List.getElem?_map, hx]; rfl))) ?_)))))))
  refine WO.a rfl rfl (WO.nil (WX.next (WC.region ?_)))
  refine WO.o rfl (R.loadK Tryz.isAgg243 Tryz.sizeOf243 rfl (by rfl) hB_o.cells) (WO.mv rfl rfl (WO.mv rfl rfl (WO.o rfl (R.build (v := .agg #[.int .i64 x, .int .i64 x]) [(0, _), (1, _)] rfl (fun _ => by kernel_rfl)) (WO.call rfl rfl rfl (F.call (vs := [_, _]) Tryz.call228 rfl) (hull_ok (hullL (a.1 * b.1, a.1 * b.1) ((es.map (fun x => (x, x))).take k)) (x, x) w1) ?_))))
  rintro _ w2 ⟨rfl, hk2⟩
  refine WO.mem0 rfl rfl (M.storeK Tryz.sizeOf243 rfl rfl rfl rfl (by simp [Value.oneCell']) (hk2.blk hB_o (fun h => h)) (by simp)) ?_
  rintro w3 ⟨_, hB3, hk3⟩
  refine WO.nil (WX.blockN (WX.next (WC.region (WO.o rfl (R.add rfl rfl (wrap_i64_in (by omega))) (WO.mv rfl rfl (WO.nil (WX.back (k + 1) (Sub.of rfl) (⟨by omega, ?_, (hk1.ext hk2).trans hk3 (fun _ _ h => h)⟩) (by first | omega | (dsimp only; omega)))))))))
  rw [hullL_take (show (es.map (fun x => (x, x)))[k]? = some (x, x) by rw [List.getElem?_map, hx]; rfl)]
  exact hB3
 ·
  have hk3 : k = 3 := by omega
  subst hk3
  have hr1 := hk1.blk hB_r hn_r_o
  have e : hullL (a.1 * b.1, a.1 * b.1) ((es.map (fun x => (x, x))).take 3) = cornersI a b := by rw [hes]; rfl
  rw [e] at hB_o
  refine WC.exit (WX.thenE (WX.thenE (WX.hit (WX.next (WC.seq (WC.region (WO.o rfl (R.loadK Tryz.isAgg243 Tryz.sizeOf243 rfl (by rfl) hB_o.cells) (WO.mem0 rfl rfl (M.storeK Tryz.sizeOf243 rfl rfl rfl rfl (by simp [Value.oneCell']) hr1 (by simp)) ?_))))))))
  rintro wf ⟨_, hBf, hkf⟩
  refine WO.nil (WX.next (WC.ret (WX.retC Tryz.results226 rfl (run_loadK Tryz.isAgg243 Tryz.sizeOf243 rfl hBf.cells) ?_)))
  exact ⟨_, rfl, rfl, (hE.trans hk1 (fun q hq h => by have h : q = o := h; omega)).trans hkf (fun q hq h => by have h : q = r := h; omega)⟩
def at2 (l : List Rg) (i : Nat) : Rg := l[i]?.getD (0, 0)
theorem at2_eq {l : List Rg} {i : Nat} {x : Rg} (h : l[i]? = some x) : at2 l i = x := by simp [at2, h]
def vat (vs : List Vr) (n : Int) : Rg := match vs[n.toNat]? with
 | some v => (v.low, v.high)
 | none => (0, 0)
theorem vat_eq {vs : List Vr} {n : Int} {v : Vr} (h : vs[n.toNat]? = some v) : vat vs n = (v.low, v.high) := by simp [vat, h]
def spanOf (vs : List Vr) (op n : Int) (l : List Rg) : Rg :=
 if op = 0 then (n, n)
 else if op = 24 then vat vs n
 else if op = 6 then (-(at2 l 0).2, -(at2 l 0).1)
 else if op = 8 then ((at2 l 0).1 + (at2 l 1).1, (at2 l 0).2 + (at2 l 1).2)
 else if op = 9 then ((at2 l 0).1 - (at2 l 1).2, (at2 l 0).2 - (at2 l 1).1)
 else if op = 10 then cornersI (at2 l 0) (at2 l 1)
 else if op = 11 then (if 0 ≤ (at2 l 0).1 ∧ 0 ≤ (at2 l 1).1 then 0 else -(max (at2 l 0).2 (-(at2 l 0).1)), max (at2 l 0).2 (-(at2 l 0).1))
 else if op = 12 then (if (at2 l 1).1 < 0 then min ((at2 l 1).1 + 1) 0 else 0, if 0 < (at2 l 1).2 then max ((at2 l 1).2 - 1) 0 else 0)
 else if op = 21 then (min (at2 l 0).1 (at2 l 1).1, min (at2 l 0).2 (at2 l 1).2)
 else if op = 22 then (max (at2 l 0).1 (at2 l 1).1, max (at2 l 0).2 (at2 l 1).2)
 else if op = 23 ∨ op = 25 then hullL (at2 l 1) (l.drop 2)
 else (0, 1)
structure NodeOk (vs : List Vr) (op n : Int) (l : List Rg) : Prop where
 k0 : op = 0 ∨ op = 24 → l.length = 0
 k1 : op = 6 ∨ op = 7 → l.length = 1
 k2 : 8 ≤ op ∧ op ≤ 22 → l.length = 2
 k3 : op = 23 ∨ op = 25 → 2 ≤ l.length ∧ l.length ≤ 33
 good : ∀ r ∈ l, Good r
 var : op = 24 → 0 ≤ n ∧ n < vs.length
 vars : ∀ v ∈ vs, Good (v.low, v.high)
theorem nodeOk_of {vs : List Vr} {inp : Bool} {op n : Int} {l : List Rg} {k : Nat} (hl : l.length = k) (h1 : kidsFit op k = true) (h2 : refFit vs inp op n = true) (hg : ∀ r ∈ l, Good r) (hv : ∀ v ∈ vs, Good (v.low, v.high)) : NodeOk vs op n l := by
 have h3 : (0 ≤ kidsN op → (l.length : Int) = kidsN op) ∧ (¬ 0 ≤ kidsN op → 2 ≤ l.length ∧ l.length ≤ 33) := by
  unfold kidsFit at h1
  rw [hl]
  constructor
  · intro h; rw [if_pos h] at h1; exact of_decide_eq_true h1
  · intro h; rw [if_neg h] at h1; exact (of_decide_eq_true h1).2
 unfold kidsN at h3
 refine ⟨fun h => ?_, fun h => ?_, fun h => ?_, fun h => ?_, hg, fun h => ?_, hv⟩
 · rw [if_pos h] at h3; have := h3.1 (by omega); omega
 · rw [if_neg (by omega), if_pos h] at h3; have := h3.1 (by omega); omega
 · rw [if_neg (by omega), if_neg (by omega), if_pos h] at h3; have := h3.1 (by omega); omega
 ·
  rcases h with h | h
  · rw [if_neg (by omega), if_neg (by omega), if_neg (by omega), if_pos h] at h3; have := h3.1 (by omega); omega
  · rw [if_neg (by omega), if_neg (by omega), if_neg (by omega), if_neg (by omega), if_pos h] at h3; exact h3.2 (by omega)
 ·
  unfold refFit at h2
  rw [if_pos h, Bool.and_eq_true] at h2
  exact of_decide_eq_true h2.1
theorem rule_ok (vs : List Vr) (t : Tm) (ks : List Rg) (vv kv : Value) (cs : List Value) (Dv D Dk : Nat → Prop) (w : World) (hvs : SlR 5 RVr Dv w vv vs) (ht : RTm D w t cs) (hks : SlR 2 RPair Dk w kv ks) (hn : NodeOk vs t.op t.n ks) : Calls Tryz.prog 219 #[vv, .agg cs.toArray, kv] w (Ret fun r w' => r = .agg #[.int .i64 (spanOf vs t.op t.n ks).1, .int .i64 (spanOf vs t.op t.n ks).2] ∧ Ext w w') := by
 obtain ⟨v, rfl, hk⟩ := ht.get
 obtain ⟨av, nv, rfl⟩ := hvs.form
 obtain ⟨ak, nk, rfl⟩ := hks.form
 have hmx := hks.max
 have hE := Keep.refl (fun _ => False) w
 refine calls Tryz.func219 rfl [(0, .slice av vs.length nv), (1, .agg #[.int .i64 t.op, .int .i64 t.n, v]), (2, .slice ak ks.length nk)] 219 ⟨Nat.le_of_ble_eq_true rfl, Tryz.ntmps219⟩ (argsOk (Sub.of rfl)) ?_
 refine WC.sr (WO.mem rfl rfl rfl (M.box rfl rfl) ?_)
 rintro _ w_b ⟨b, rfl, hg_b, hs_b, hB_b, hk_b⟩
 have hge_b : _ ≤ b := Nat.le_trans hE.size (Nat.le_of_eq hg_b.symm)
 replace hE := hE.ext hk_b
 replace hvs := hvs.ext stable_vr hk_b
 replace hks := hks.ext stable_pair hk_b
 refine WO.mem rfl rfl rfl (M.alloc (cs := _) Tryz.zeroValue243 rfl) ?_
 rintro _ w_r ⟨r, rfl, hg_r, hs_r, hB_r, hk_r⟩
 have hn_b_r : b ≠ r := by have := hB_b.lt; omega
 have hge_r : _ ≤ r := Nat.le_trans hE.size (Nat.le_of_eq hg_r.symm)
 replace hE := hE.ext hk_r
 replace hvs := hvs.ext stable_vr hk_r
 replace hks := hks.ext stable_pair hk_r
 replace hB_b := hk_r.blk hB_b (fun h => h)
 refine WO.nil (WX.next (WC.seq (WC.seq (WC.region (WO.o rfl (R.fieldAddr Tryz.runUnderlying84 rfl Tryz.sizeOf81 rfl) (WO.o rfl (R.load Tryz.isAgg81 rfl (hB_b.cells 0 _ rfl)) (WO.nil (WX.next (WC.block (WC.seq (WC.region ?_)))))))))))
 refine WO.o rfl (R.eql rfl rfl) (WO.a rfl rfl (WO.nil (WX.next ?_)))
 refine WC.ite rfl (fun h0 => ?_) (fun h0 => ?_)
 ·
  have e : spanOf vs t.op t.n ks = (t.n, t.n) := by rw [spanOf, if_pos h0]
  refine WC.sr (WO.o rfl (R.fieldAddr Tryz.runUnderlying84 rfl Tryz.sizeOf3 rfl) (WO.o rfl (R.load Tryz.isAgg3 rfl (hB_b.cells 1 _ rfl)) (WO.o rfl (R.fieldAddr Tryz.runUnderlying84 rfl Tryz.sizeOf3 rfl) (WO.o rfl (R.load Tryz.isAgg3 rfl (hB_b.cells 1 _ rfl)) (WO.o rfl (R.build (v := .agg #[.int .i64 t.n, .int .i64 t.n]) [(0, _), (1, _)] rfl (fun _ => by kernel_rfl)) (WO.mem0 rfl rfl (M.storeK Tryz.sizeOf243 rfl rfl rfl rfl (by simp [Value.oneCell']) hB_r (by simp)) ?_))))))
  rintro wf ⟨_, hBf, hkf⟩
  refine WO.nil (WX.next (WC.ret (WX.blockR (WX.thenR (WX.retC Tryz.results219 rfl (run_loadK Tryz.isAgg243 Tryz.sizeOf243 rfl hBf.cells) ?_)))))
  exact ⟨_, rfl, by rw [e] <;> rfl, hE.trans hkf (fun q hq h => by have h : q = r := h; omega)⟩
 ·
  refine WC.sr (WO.o rfl (R.eql rfl rfl) (WO.a rfl rfl (WO.nil (WX.next ?_))))
  refine WC.ite rfl (fun h24 => ?_) (fun h24 => ?_)
  ·
   have hv := hn.var h24
   obtain ⟨x, he_x⟩ : ∃ x, vs[t.n.toNat]? = some x := ⟨_, List.getElem?_eq_getElem (by omega)⟩
   have hm_x := List.mem_of_getElem? he_x
   obtain ⟨b_x, o_x, c_x, ha_x, _, hc_x, hR_x⟩ := hvs.at he_x
   have h1_x := RVr.one hR_x
   obtain rfl := hR_x
   have hlt_x : b_x < _ := World.block_lt_of_cell? _ _ (hc_x 0 _ rfl)
   have e : spanOf vs t.op t.n ks = (x.low, x.high) := by rw [spanOf, if_neg h0, if_pos h24, vat_eq he_x]
   refine WC.seq (WC.draw (fun q => Ext w_r q) [13] (by kernel_rfl) (fun wd1 hD _ => ?_))
   refine WD.takeW 0 rfl (by kernel_rfl) rfl rfl rfl (fun w1 => R.move rfl) (WD.takeW 1 rfl (by kernel_rfl) rfl rfl rfl (fun w1 => R.fieldAddr Tryz.runUnderlying84 rfl Tryz.sizeOf3 rfl) (WD.take 2 rfl (by kernel_rfl) rfl rfl rfl hD (fun w1 hw1 => R.load Tryz.isAgg3 rfl ((hw1.blk hB_b (fun h => h)).cells 1 _ rfl)) (WD.takeW 3 rfl (by kernel_rfl) rfl rfl rfl (fun w1 => R.indexS Tryz.runUnderlying22 Tryz.sizeOf125 rfl rfl ha_x (by omega)) (WD.takeW 4 rfl (by kernel_rfl) rfl rfl rfl (fun w1 => R.fieldAddr Tryz.runUnderlying125 rfl Tryz.sizeOf3 rfl) (WD.take 5 rfl (by kernel_rfl) rfl rfl rfl hD (fun w1 hw1 => R.load Tryz.isAgg3 rfl ((hw1.cells hc_x (fun h => h)) 2 _ rfl)) ?_)))))
   refine WD.takeW 6 rfl (by kernel_rfl) rfl rfl rfl (fun w1 => R.move rfl) (WD.takeW 7 rfl (by kernel_rfl) rfl rfl rfl (fun w1 => R.fieldAddr Tryz.runUnderlying84 rfl Tryz.sizeOf3 rfl) (WD.take 8 rfl (by kernel_rfl) rfl rfl rfl hD (fun w1 hw1 => R.load Tryz.isAgg3 rfl ((hw1.blk hB_b (fun h => h)).cells 1 _ rfl)) (WD.takeW 9 rfl (by kernel_rfl) rfl rfl rfl (fun w1 => R.indexS Tryz.runUnderlying22 Tryz.sizeOf125 rfl rfl ha_x (by omega)) (WD.takeW 10 rfl (by kernel_rfl) rfl rfl rfl (fun w1 => R.fieldAddr Tryz.runUnderlying125 rfl Tryz.sizeOf3 rfl) (WD.take 11 rfl (by kernel_rfl) rfl rfl rfl hD (fun w1 hw1 => R.load Tryz.isAgg3 rfl ((hw1.cells hc_x (fun h => h)) 3 _ rfl)) ?_)))))
   refine WD.takeW 12 rfl (by kernel_rfl) rfl rfl rfl (fun w1 => R.build (v := .agg #[.int .i64 x.low, .int .i64 x.high]) [(0, _), (1, _)] rfl (fun _ => by kernel_rfl)) (WD.mem0 13 rfl (by kernel_rfl) rfl rfl (M.storeK Tryz.sizeOf243 rfl rfl rfl rfl (by simp [Value.oneCell']) (hD.blk hB_r (fun h => h)) (by simp)) ?_)
   rintro wf ⟨_, hBf, hkf⟩
   refine ⟨fun h => absurd (by simp) h, ?_⟩
   refine WD.done (by kernel_rfl) ?_ _
   refine WX.next (WC.ret (WX.blockR (WX.thenR (WX.retC Tryz.results219 rfl (run_loadK Tryz.isAgg243 Tryz.sizeOf243 rfl hBf.cells) ?_))))
   exact ⟨_, rfl, by rw [e] <;> rfl, (hE.ext hD).trans hkf (fun q hq h => by have h : q = r := h; omega)⟩
  ·
   refine WC.sr (WO.o rfl (R.eql rfl rfl) (WO.a rfl rfl (WO.nil (WX.next ?_))))
   refine WC.ite rfl (fun h6 => ?_) (fun h6 => ?_)
   ·
    have hl := hn.k1 (.inl h6)
    obtain ⟨x, he_x⟩ : ∃ x, ks[0]? = some x := ⟨_, List.getElem?_eq_getElem (by omega)⟩
    have hm_x := List.mem_of_getElem? he_x
    obtain ⟨b_x, o_x, c_x, ha_x, _, hc_x, hR_x⟩ := hks.at he_x
    obtain rfl := hR_x
    have hlt_x : b_x < _ := World.block_lt_of_cell? _ _ (hc_x 0 _ rfl)
    have hgx := hn.good x hm_x
    unfold Good at hgx
    have e : spanOf vs t.op t.n ks = (-x.2, -x.1) := by rw [spanOf, if_neg h0, if_neg h24, if_pos h6, at2_eq he_x]
    refine WC.seq (WC.draw (fun q => Ext w_r q) [11] (by kernel_rfl) (fun wd2 hD _ => ?_))
    refine WD.takeW 0 rfl (by kernel_rfl) rfl rfl rfl (fun w1 => R.move rfl) (WD.takeW 1 rfl (by kernel_rfl) rfl rfl rfl (fun w1 => R.indexS Tryz.runUnderlying261 Tryz.sizeOf243 rfl rfl ha_x (by omega)) (WD.takeW 2 rfl (by kernel_rfl) rfl rfl rfl (fun w1 => R.fieldAddr Tryz.runUnderlying243 rfl Tryz.sizeOf3 rfl) (WD.take 3 rfl (by kernel_rfl) rfl rfl rfl hD (fun w1 hw1 => R.load Tryz.isAgg3 rfl ((hw1.cells hc_x (fun h => h)) 1 _ rfl)) (WD.takeW 4 rfl (by kernel_rfl) rfl rfl rfl (fun w1 => R.neg rfl (wrap_i64_in (by omega))) (WD.takeW 5 rfl (by kernel_rfl) rfl rfl rfl (fun w1 => R.move rfl) ?_)))))
    refine WD.takeW 6 rfl (by kernel_rfl) rfl rfl rfl (fun w1 => R.indexS Tryz.runUnderlying261 Tryz.sizeOf243 rfl rfl ha_x (by omega)) (WD.takeW 7 rfl (by kernel_rfl) rfl rfl rfl (fun w1 => R.fieldAddr Tryz.runUnderlying243 rfl Tryz.sizeOf3 rfl) (WD.take 8 rfl (by kernel_rfl) rfl rfl rfl hD (fun w1 hw1 => R.load Tryz.isAgg3 rfl ((hw1.cells hc_x (fun h => h)) 0 _ rfl)) (WD.takeW 9 rfl (by kernel_rfl) rfl rfl rfl (fun w1 => R.neg rfl (wrap_i64_in (by omega))) (WD.takeW 10 rfl (by kernel_rfl) rfl rfl rfl (fun w1 => R.build (v := .agg #[.int .i64 (-x.2), .int .i64 (-x.1)]) [(0, _), (1, _)] rfl (fun _ => by kernel_rfl)) ?_))))
    refine WD.mem0 11 rfl (by kernel_rfl) rfl rfl (M.storeK Tryz.sizeOf243 rfl rfl rfl rfl (by simp [Value.oneCell']) (hD.blk hB_r (fun h => h)) (by simp)) ?_
    rintro wf ⟨_, hBf, hkf⟩
    refine ⟨fun h => absurd (by simp) h, ?_⟩
    refine WD.done (by kernel_rfl) ?_ _
    refine WX.next (WC.ret (WX.blockR (WX.thenR (WX.retC Tryz.results219 rfl (run_loadK Tryz.isAgg243 Tryz.sizeOf243 rfl hBf.cells) ?_))))
    exact ⟨_, rfl, by rw [e] <;> rfl, (hE.ext hD).trans hkf (fun q hq h => by have h : q = r := h; omega)⟩
   ·
    refine WC.sr (WO.o rfl (R.eql rfl rfl) (WO.a rfl rfl (WO.nil (WX.next ?_))))
    refine WC.ite rfl (fun h8 => ?_) (fun h8 => ?_)
    ·
     have hl := hn.k2 (by omega)
     obtain ⟨x, he_x⟩ : ∃ x, ks[0]? = some x := ⟨_, List.getElem?_eq_getElem (by omega)⟩
     have hm_x := List.mem_of_getElem? he_x
     obtain ⟨b_x, o_x, c_x, ha_x, _, hc_x, hR_x⟩ := hks.at he_x
     obtain rfl := hR_x
     have hlt_x : b_x < _ := World.block_lt_of_cell? _ _ (hc_x 0 _ rfl)
     obtain ⟨y, he_y⟩ : ∃ x, ks[1]? = some x := ⟨_, List.getElem?_eq_getElem (by omega)⟩
     have hm_y := List.mem_of_getElem? he_y
     obtain ⟨b_y, o_y, c_y, ha_y, _, hc_y, hR_y⟩ := hks.at he_y
     obtain rfl := hR_y
     have hlt_y : b_y < _ := World.block_lt_of_cell? _ _ (hc_y 0 _ rfl)
     have hgx := hn.good x hm_x
     have hgy := hn.good y hm_y
     unfold Good at hgx hgy
     have e : spanOf vs t.op t.n ks = (x.1 + y.1, x.2 + y.2) := by rw [spanOf, if_neg h0, if_neg h24, if_neg h6, if_pos h8, at2_eq he_x, at2_eq he_y]
     refine WC.seq (WC.draw (fun q => Ext w_r q) [19] (by kernel_rfl) (fun wd3 hD _ => ?_))
     refine WD.takeW 0 rfl (by kernel_rfl) rfl rfl rfl (fun w1 => R.move rfl) (WD.takeW 1 rfl (by kernel_rfl) rfl rfl rfl (fun w1 => R.indexS Tryz.runUnderlying261 Tryz.sizeOf243 rfl rfl ha_x (by omega)) (WD.takeW 2 rfl (by kernel_rfl) rfl rfl rfl (fun w1 => R.fieldAddr Tryz.runUnderlying243 rfl Tryz.sizeOf3 rfl) (WD.take 3 rfl (by kernel_rfl) rfl rfl rfl hD (fun w1 hw1 => R.load Tryz.isAgg3 rfl ((hw1.cells hc_x (fun h => h)) 0 _ rfl)) (WD.takeW 4 rfl (by kernel_rfl) rfl rfl rfl (fun w1 => R.move rfl) (WD.takeW 5 rfl (by kernel_rfl) rfl rfl rfl (fun w1 => R.indexS Tryz.runUnderlying261 Tryz.sizeOf243 rfl rfl ha_y (by omega)) ?_)))))
     refine WD.takeW 6 rfl (by kernel_rfl) rfl rfl rfl (fun w1 => R.fieldAddr Tryz.runUnderlying243 rfl Tryz.sizeOf3 rfl) (WD.take 7 rfl (by kernel_rfl) rfl rfl rfl hD (fun w1 hw1 => R.load Tryz.isAgg3 rfl ((hw1.cells hc_y (fun h => h)) 0 _ rfl)) (WD.takeW 8 rfl (by kernel_rfl) rfl rfl rfl (fun w1 => R.add rfl rfl (wrap_i64_in (by omega))) (WD.takeW 9 rfl (by kernel_rfl) rfl rfl rfl (fun w1 => R.move rfl) (WD.takeW 10 rfl (by kernel_rfl) rfl rfl rfl (fun w1 => R.indexS Tryz.runUnderlying261 Tryz.sizeOf243 rfl rfl ha_x (by omega)) (WD.takeW 11 rfl (by kernel_rfl) rfl rfl rfl (fun w1 => R.fieldAddr Tryz.runUnderlying243 rfl Tryz.sizeOf3 rfl) ?_)))))
     refine WD.take 12 rfl (by kernel_rfl) rfl rfl rfl hD (fun w1 hw1 => R.load Tryz.isAgg3 rfl ((hw1.cells hc_x (fun h => h)) 1 _ rfl)) (WD.takeW 13 rfl (by kernel_rfl) rfl rfl rfl (fun w1 => R.move rfl) (WD.takeW 14 rfl (by kernel_rfl) rfl rfl rfl (fun w1 => R.indexS Tryz.runUnderlying261 Tryz.sizeOf243 rfl rfl ha_y (by omega)) (WD.takeW 15 rfl (by kernel_rfl) rfl rfl rfl (fun w1 => R.fieldAddr Tryz.runUnderlying243 rfl Tryz.sizeOf3 rfl) (WD.take 16 rfl (by kernel_rfl) rfl rfl rfl hD (fun w1 hw1 => R.load Tryz.isAgg3 rfl ((hw1.cells hc_y (fun h => h)) 1 _ rfl)) (WD.takeW 17 rfl (by kernel_rfl) rfl rfl rfl (fun w1 => R.add rfl rfl (wrap_i64_in (by omega))) ?_)))))
     refine WD.takeW 18 rfl (by kernel_rfl) rfl rfl rfl (fun w1 => R.build (v := .agg #[.int .i64 (x.1 + y.1), .int .i64 (x.2 + y.2)]) [(0, _), (1, _)] rfl (fun _ => by kernel_rfl)) (WD.mem0 19 rfl (by kernel_rfl) rfl rfl (M.storeK Tryz.sizeOf243 rfl rfl rfl rfl (by simp [Value.oneCell']) (hD.blk hB_r (fun h => h)) (by simp)) ?_)
     rintro wf ⟨_, hBf, hkf⟩
     refine ⟨fun h => absurd (by simp) h, ?_⟩
     refine WD.done (by kernel_rfl) ?_ _
     refine WX.next (WC.ret (WX.blockR (WX.thenR (WX.retC Tryz.results219 rfl (run_loadK Tryz.isAgg243 Tryz.sizeOf243 rfl hBf.cells) ?_))))
     exact ⟨_, rfl, by rw [e] <;> rfl, (hE.ext hD).trans hkf (fun q hq h => by have h : q = r := h; omega)⟩
    ·
     refine WC.sr (WO.o rfl (R.eql rfl rfl) (WO.a rfl rfl (WO.nil (WX.next ?_))))
     refine WC.ite rfl (fun h9 => ?_) (fun h9 => ?_)
     ·
      have hl := hn.k2 (by omega)
      obtain ⟨x, he_x⟩ : ∃ x, ks[0]? = some x := ⟨_, List.getElem?_eq_getElem (by omega)⟩
      have hm_x := List.mem_of_getElem? he_x
      obtain ⟨b_x, o_x, c_x, ha_x, _, hc_x, hR_x⟩ := hks.at he_x
      obtain rfl := hR_x
      have hlt_x : b_x < _ := World.block_lt_of_cell? _ _ (hc_x 0 _ rfl)
      obtain ⟨y, he_y⟩ : ∃ x, ks[1]? = some x := ⟨_, List.getElem?_eq_getElem (by omega)⟩
      have hm_y := List.mem_of_getElem? he_y
      obtain ⟨b_y, o_y, c_y, ha_y, _, hc_y, hR_y⟩ := hks.at he_y
      obtain rfl := hR_y
      have hlt_y : b_y < _ := World.block_lt_of_cell? _ _ (hc_y 0 _ rfl)
      have hgx := hn.good x hm_x
      have hgy := hn.good y hm_y
      unfold Good at hgx hgy
      have e : spanOf vs t.op t.n ks = (x.1 - y.2, x.2 - y.1) := by rw [spanOf, if_neg h0, if_neg h24, if_neg h6, if_neg h8, if_pos h9, at2_eq he_x, at2_eq he_y]
      refine WC.seq (WC.draw (fun q => Ext w_r q) [19] (by kernel_rfl) (fun wd4 hD _ => ?_))
      refine WD.takeW 0 rfl (by kernel_rfl) rfl rfl rfl (fun w1 => R.move rfl) (WD.takeW 1 rfl (by kernel_rfl) rfl rfl rfl (fun w1 => R.indexS Tryz.runUnderlying261 Tryz.sizeOf243 rfl rfl ha_x (by omega)) (WD.takeW 2 rfl (by kernel_rfl) rfl rfl rfl (fun w1 => R.fieldAddr Tryz.runUnderlying243 rfl Tryz.sizeOf3 rfl) (WD.take 3 rfl (by kernel_rfl) rfl rfl rfl hD (fun w1 hw1 => R.load Tryz.isAgg3 rfl ((hw1.cells hc_x (fun h => h)) 0 _ rfl)) (WD.takeW 4 rfl (by kernel_rfl) rfl rfl rfl (fun w1 => R.move rfl) (WD.takeW 5 rfl (by kernel_rfl) rfl rfl rfl (fun w1 => R.indexS Tryz.runUnderlying261 Tryz.sizeOf243 rfl rfl ha_y (by omega)) ?_)))))
      refine WD.takeW 6 rfl (by kernel_rfl) rfl rfl rfl (fun w1 => R.fieldAddr Tryz.runUnderlying243 rfl Tryz.sizeOf3 rfl) (WD.take 7 rfl (by kernel_rfl) rfl rfl rfl hD (fun w1 hw1 => R.load Tryz.isAgg3 rfl ((hw1.cells hc_y (fun h => h)) 1 _ rfl)) (WD.takeW 8 rfl (by kernel_rfl) rfl rfl rfl (fun w1 => R.sub rfl rfl (wrap_i64_in (by omega))) (WD.takeW 9 rfl (by kernel_rfl) rfl rfl rfl (fun w1 => R.move rfl) (WD.takeW 10 rfl (by kernel_rfl) rfl rfl rfl (fun w1 => R.indexS Tryz.runUnderlying261 Tryz.sizeOf243 rfl rfl ha_x (by omega)) (WD.takeW 11 rfl (by kernel_rfl) rfl rfl rfl (fun w1 => R.fieldAddr Tryz.runUnderlying243 rfl Tryz.sizeOf3 rfl) ?_)))))
      refine WD.take 12 rfl (by kernel_rfl) rfl rfl rfl hD (fun w1 hw1 => R.load Tryz.isAgg3 rfl ((hw1.cells hc_x (fun h => h)) 1 _ rfl)) (WD.takeW 13 rfl (by kernel_rfl) rfl rfl rfl (fun w1 => R.move rfl) (WD.takeW 14 rfl (by kernel_rfl) rfl rfl rfl (fun w1 => R.indexS Tryz.runUnderlying261 Tryz.sizeOf243 rfl rfl ha_y (by omega)) (WD.takeW 15 rfl (by kernel_rfl) rfl rfl rfl (fun w1 => R.fieldAddr Tryz.runUnderlying243 rfl Tryz.sizeOf3 rfl) (WD.take 16 rfl (by kernel_rfl) rfl rfl rfl hD (fun w1 hw1 => R.load Tryz.isAgg3 rfl ((hw1.cells hc_y (fun h => h)) 0 _ rfl)) (WD.takeW 17 rfl (by kernel_rfl) rfl rfl rfl (fun w1 => R.sub rfl rfl (wrap_i64_in (by omega))) ?_)))))
      refine WD.takeW 18 rfl (by kernel_rfl) rfl rfl rfl (fun w1 => R.build (v := .agg #[.int .i64 (x.1 - y.2), .int .i64 (x.2 - y.1)]) [(0, _), (1, _)] rfl (fun _ => by kernel_rfl)) (WD.mem0 19 rfl (by kernel_rfl) rfl rfl (M.storeK Tryz.sizeOf243 rfl rfl rfl rfl (by simp [Value.oneCell']) (hD.blk hB_r (fun h => h)) (by simp)) ?_)
      rintro wf ⟨_, hBf, hkf⟩
      refine ⟨fun h => absurd (by simp) h, ?_⟩
      refine WD.done (by kernel_rfl) ?_ _
      refine WX.next (WC.ret (WX.blockR (WX.thenR (WX.retC Tryz.results219 rfl (run_loadK Tryz.isAgg243 Tryz.sizeOf243 rfl hBf.cells) ?_))))
      exact ⟨_, rfl, by rw [e] <;> rfl, (hE.ext hD).trans hkf (fun q hq h => by have h : q = r := h; omega)⟩
     ·
      refine WC.sr (WO.o rfl (R.eql rfl rfl) (WO.a rfl rfl (WO.nil (WX.next ?_))))
      refine WC.ite rfl (fun h10 => ?_) (fun h10 => ?_)
      ·
       have hl := hn.k2 (by omega)
       obtain ⟨x, he_x⟩ : ∃ x, ks[0]? = some x := ⟨_, List.getElem?_eq_getElem (by omega)⟩
       have hm_x := List.mem_of_getElem? he_x
       obtain ⟨b_x, o_x, c_x, ha_x, _, hc_x, hR_x⟩ := hks.at he_x
       obtain rfl := hR_x
       have hlt_x : b_x < _ := World.block_lt_of_cell? _ _ (hc_x 0 _ rfl)
       obtain ⟨y, he_y⟩ : ∃ x, ks[1]? = some x := ⟨_, List.getElem?_eq_getElem (by omega)⟩
       have hm_y := List.mem_of_getElem? he_y
       obtain ⟨b_y, o_y, c_y, ha_y, _, hc_y, hR_y⟩ := hks.at he_y
       obtain rfl := hR_y
       have hlt_y : b_y < _ := World.block_lt_of_cell? _ _ (hc_y 0 _ rfl)
       have e : spanOf vs t.op t.n ks = cornersI x y := by rw [spanOf, if_neg h0, if_neg h24, if_neg h6, if_neg h8, if_neg h9, if_pos h10, at2_eq he_x, at2_eq he_y]
       refine WC.seq (WC.draw (fun q => Ext w_r q) [7] (by kernel_rfl) (fun wd5 hD _ => ?_))
       refine WD.takeW 0 rfl (by kernel_rfl) rfl rfl rfl (fun w1 => R.move rfl) (WD.takeW 1 rfl (by kernel_rfl) rfl rfl rfl (fun w1 => R.indexS Tryz.runUnderlying261 Tryz.sizeOf243 rfl rfl ha_x (by omega)) (WD.take 2 rfl (by kernel_rfl) rfl rfl rfl hD (fun w1 hw1 => R.loadK Tryz.isAgg243 Tryz.sizeOf243 rfl (by rfl) (hw1.cells hc_x (fun h => h))) (WD.takeW 3 rfl (by kernel_rfl) rfl rfl rfl (fun w1 => R.move rfl) (WD.takeW 4 rfl (by kernel_rfl) rfl rfl rfl (fun w1 => R.indexS Tryz.runUnderlying261 Tryz.sizeOf243 rfl rfl ha_y (by omega)) (WD.take 5 rfl (by kernel_rfl) rfl rfl rfl hD (fun w1 hw1 => R.loadK Tryz.isAgg243 Tryz.sizeOf243 rfl (by rfl) (hw1.cells hc_y (fun h => h))) ?_)))))
       refine WD.call 6 rfl (by kernel_rfl) rfl rfl rfl (F.call (vs := [_, _, _]) Tryz.call226 rfl) (corners_ok x y _ (hn.good x hm_x) (hn.good y hm_y)) ?_
       rintro _ wz6 ⟨rfl, hz6⟩
       replace hD := hD.ext hz6
       refine ⟨fun _ => hD, ?_⟩
       refine WD.mem0 7 rfl (by kernel_rfl) rfl rfl (M.storeK Tryz.sizeOf243 rfl rfl rfl rfl (by simp [Value.oneCell']) (hD.blk hB_r (fun h => h)) (by simp)) ?_
       rintro wf ⟨_, hBf, hkf⟩
       refine ⟨fun h => absurd (by simp) h, ?_⟩
       refine WD.done (by kernel_rfl) ?_ _
       refine WX.next (WC.ret (WX.blockR (WX.thenR (WX.retC Tryz.results219 rfl (run_loadK Tryz.isAgg243 Tryz.sizeOf243 rfl hBf.cells) ?_))))
       exact ⟨_, rfl, by rw [e] <;> rfl, (hE.ext hD).trans hkf (fun q hq h => by have h : q = r := h; omega)⟩
      ·
       refine WC.sr (WO.o rfl (R.eql rfl rfl) (WO.a rfl rfl (WO.nil (WX.next ?_))))
       refine WC.ite rfl (fun h11 => ?_) (fun h11 => ?_)
       ·
        have hl := hn.k2 (by omega)
        obtain ⟨x, he_x⟩ : ∃ x, ks[0]? = some x := ⟨_, List.getElem?_eq_getElem (by omega)⟩
        have hm_x := List.mem_of_getElem? he_x
        obtain ⟨b_x, o_x, c_x, ha_x, _, hc_x, hR_x⟩ := hks.at he_x
        obtain rfl := hR_x
        have hlt_x : b_x < _ := World.block_lt_of_cell? _ _ (hc_x 0 _ rfl)
        obtain ⟨y, he_y⟩ : ∃ x, ks[1]? = some x := ⟨_, List.getElem?_eq_getElem (by omega)⟩
        have hm_y := List.mem_of_getElem? he_y
        obtain ⟨b_y, o_y, c_y, ha_y, _, hc_y, hR_y⟩ := hks.at he_y
        obtain rfl := hR_y
        have hlt_y : b_y < _ := World.block_lt_of_cell? _ _ (hc_y 0 _ rfl)
        have hgx := hn.good x hm_x
        have hgy := hn.good y hm_y
        unfold Good at hgx hgy
        have e : spanOf vs t.op t.n ks = (if 0 ≤ x.1 ∧ 0 ≤ y.1 then 0 else -(max x.2 (-x.1)), max x.2 (-x.1)) := by rw [spanOf, if_neg h0, if_neg h24, if_neg h6, if_neg h8, if_neg h9, if_neg h10, if_pos h11, at2_eq he_x, at2_eq he_y]
        have hmx2 : 0 ≤ max x.2 (-x.1) ∧ max x.2 (-x.1) ≤ 1048576 := by omega
        refine WC.seq (WC.draw (fun q => Ext w_r q) [] (by kernel_rfl) (fun wd7 hD _ => ?_))
        refine WD.takeW 0 rfl (by kernel_rfl) rfl rfl rfl (fun w1 => R.move rfl) (WD.takeW 1 rfl (by kernel_rfl) rfl rfl rfl (fun w1 => R.indexS Tryz.runUnderlying261 Tryz.sizeOf243 rfl rfl ha_x (by omega)) (WD.takeW 2 rfl (by kernel_rfl) rfl rfl rfl (fun w1 => R.fieldAddr Tryz.runUnderlying243 rfl Tryz.sizeOf3 rfl) (WD.take 3 rfl (by kernel_rfl) rfl rfl rfl hD (fun w1 hw1 => R.load Tryz.isAgg3 rfl ((hw1.cells hc_x (fun h => h)) 1 _ rfl)) (WD.takeW 4 rfl (by kernel_rfl) rfl rfl rfl (fun w1 => R.move rfl) (WD.takeW 5 rfl (by kernel_rfl) rfl rfl rfl (fun w1 => R.indexS Tryz.runUnderlying261 Tryz.sizeOf243 rfl rfl ha_x (by omega)) ?_)))))
        refine WD.takeW 6 rfl (by kernel_rfl) rfl rfl rfl (fun w1 => R.fieldAddr Tryz.runUnderlying243 rfl Tryz.sizeOf3 rfl) (WD.take 7 rfl (by kernel_rfl) rfl rfl rfl hD (fun w1 hw1 => R.load Tryz.isAgg3 rfl ((hw1.cells hc_x (fun h => h)) 0 _ rfl)) (WD.takeW 8 rfl (by kernel_rfl) rfl rfl rfl (fun w1 => R.neg rfl (wrap_i64_in (by omega))) (WD.takeW 9 rfl (by kernel_rfl) rfl rfl rfl (fun w1 => R.maxI rfl rfl) (WD.takeW 10 rfl (by kernel_rfl) rfl rfl rfl (fun w1 => R.assign rfl) (WD.done (by kernel_rfl) ?_ _)))))
        replace hE := hE.ext hD
        replace hvs := hvs.ext stable_vr hD
        replace hks := hks.ext stable_pair hD
        replace hB_b := hD.blk hB_b (fun h => h)
        replace hB_r := hD.blk hB_r (fun h => h)
        replace hc_x := hD.cells hc_x (fun h => h)
        replace hc_y := hD.cells hc_y (fun h => h)
        refine WX.next (WC.seq (WC.seq (WC.region (WO.mv rfl rfl (WO.o rfl (R.indexS Tryz.runUnderlying261 Tryz.sizeOf243 rfl rfl ha_x (by omega)) (WO.o rfl (R.fieldAddr Tryz.runUnderlying243 rfl Tryz.sizeOf3 rfl) (WO.o rfl (R.load Tryz.isAgg3 rfl (hc_x 0 _ rfl)) (WO.o rfl (R.geq rfl rfl) (WO.mv rfl rfl (WO.splitP (d := 117) rfl (fun p0 => ?_) (fun p0 => ?_)))))))))))
        ·
         refine WO.yes rfl rfl (dT p0) (WO.mv rfl rfl (WO.yes rfl rfl (dT p0) (WO.o rfl (R.indexS Tryz.runUnderlying261 Tryz.sizeOf243 rfl rfl ha_y (by omega)) (WO.yes rfl rfl (dT p0) (WO.o rfl (R.fieldAddr Tryz.runUnderlying243 rfl Tryz.sizeOf3 rfl) (WO.yes rfl rfl (dT p0) (WO.o rfl (R.load Tryz.isAgg3 rfl (hc_y 0 _ rfl)) (WO.yes rfl rfl (dT p0) (WO.o rfl (R.geq rfl rfl) (WO.o rfl (R.pickT rfl (dT p0) rfl) (WO.nil (WX.next ?_))))))))))))
         refine WC.ite rfl (fun p1 => ?_) (fun p1 => ?_)
         ·
          refine WC.sr (WO.mv rfl rfl (WO.o rfl (R.build (v := .agg #[.int .i64 0, .int .i64 (max x.2 (-x.1))]) [(0, _), (1, _)] rfl (fun _ => by kernel_rfl)) (WO.mem0 rfl rfl (M.storeK Tryz.sizeOf243 rfl rfl rfl rfl (by simp [Value.oneCell']) hB_r (by simp)) ?_)))
          rintro wf ⟨_, hBf, hkf⟩
          refine WO.nil (WX.next (WC.ret (WX.thenR (WX.blockR (WX.thenR (WX.retC Tryz.results219 rfl (run_loadK Tryz.isAgg243 Tryz.sizeOf243 rfl hBf.cells) ?_))))))
          exact ⟨_, rfl, by rw [e, if_pos ⟨p0, p1⟩] <;> rfl, hE.trans hkf (fun q hq h => by have h : q = r := h; omega)⟩
         ·
          refine WC.ks (WO.mv rfl rfl (WO.o rfl (R.neg rfl (wrap_i64_in (by omega))) (WO.mv rfl rfl (WO.o rfl (R.build (v := .agg #[.int .i64 (-(max x.2 (-x.1))), .int .i64 (max x.2 (-x.1))]) [(0, _), (1, _)] rfl (fun _ => by kernel_rfl)) (WO.mem0 rfl rfl (M.storeK Tryz.sizeOf243 rfl rfl rfl rfl (by simp [Value.oneCell']) hB_r (by simp)) ?_)))))
          rintro wf ⟨_, hBf, hkf⟩
          refine WO.nil (WX.next (WC.ret (WX.blockR (WX.thenR (WX.retC Tryz.results219 rfl (run_loadK Tryz.isAgg243 Tryz.sizeOf243 rfl hBf.cells) ?_)))))
          exact ⟨_, rfl, by rw [e, if_neg (fun h => p1 h.2)] <;> rfl, hE.trans hkf (fun q hq h => by have h : q = r := h; omega)⟩
        ·
         refine WO.no rfl rfl (dF p0) rfl (WO.no rfl rfl (dF p0) rfl (WO.no rfl rfl (dF p0) rfl (WO.no rfl rfl (dF p0) rfl (WO.no rfl rfl (dF p0) rfl (WO.o rfl (R.pickF rfl (dF p0) rfl) (WO.nil (WX.next ?_)))))))
         refine WC.ff rfl (rfl) (WC.ks (WO.mv rfl rfl (WO.o rfl (R.neg rfl (wrap_i64_in (by omega))) (WO.mv rfl rfl (WO.o rfl (R.build (v := .agg #[.int .i64 (-(max x.2 (-x.1))), .int .i64 (max x.2 (-x.1))]) [(0, _), (1, _)] rfl (fun _ => by kernel_rfl)) (WO.mem0 rfl rfl (M.storeK Tryz.sizeOf243 rfl rfl rfl rfl (by simp [Value.oneCell']) hB_r (by simp)) ?_))))))
         rintro wf ⟨_, hBf, hkf⟩
         refine WO.nil (WX.next (WC.ret (WX.blockR (WX.thenR (WX.retC Tryz.results219 rfl (run_loadK Tryz.isAgg243 Tryz.sizeOf243 rfl hBf.cells) ?_)))))
         exact ⟨_, rfl, by rw [e, if_neg (fun h => p0 h.1)] <;> rfl, hE.trans hkf (fun q hq h => by have h : q = r := h; omega)⟩
       ·
        refine WC.sr (WO.o rfl (R.eql rfl rfl) (WO.a rfl rfl (WO.nil (WX.next ?_))))
        refine WC.ite rfl (fun h12 => ?_) (fun h12 => ?_)
        ·
         have hl := hn.k2 (by omega)
         obtain ⟨y, he_y⟩ : ∃ x, ks[1]? = some x := ⟨_, List.getElem?_eq_getElem (by omega)⟩
         have hm_y := List.mem_of_getElem? he_y
         obtain ⟨b_y, o_y, c_y, ha_y, _, hc_y, hR_y⟩ := hks.at he_y
         obtain rfl := hR_y
         have hlt_y : b_y < _ := World.block_lt_of_cell? _ _ (hc_y 0 _ rfl)
         have hgy := hn.good y hm_y
         unfold Good at hgy
         have e : spanOf vs t.op t.n ks = (if y.1 < 0 then min (y.1 + 1) 0 else 0, if 0 < y.2 then max (y.2 - 1) 0 else 0) := by rw [spanOf, if_neg h0, if_neg h24, if_neg h6, if_neg h8, if_neg h9, if_neg h10, if_neg h11, if_pos h12, at2_eq he_y]
         refine WC.sr (WO.o rfl (R.build (v := .agg #[.int .i64 0, .int .i64 0]) [] rfl (fun _ => by kernel_rfl)) (WO.mem rfl rfl rfl (M.alloc (cs := _) Tryz.zeroValue243 rfl) ?_))
         rintro _ wa8 ⟨o, rfl, hg_o, hs_o, hB_o, hk_o⟩
         refine WO.mem0 rfl rfl (M.storeK Tryz.sizeOf243 rfl rfl rfl rfl (by simp [Value.oneCell']) hB_o (by simp)) ?_
         rintro w_o ⟨_, hB_o, hkk_o⟩
         replace hk_o := hk_o.trans hkk_o (fun q hq h => by have h : q = o := h; omega)
         have hn_b_o : b ≠ o := by have := hB_b.lt; omega
         have hn_r_o : r ≠ o := by have := hB_r.lt; omega
         have hge_o : _ ≤ o := Nat.le_trans hE.size (Nat.le_of_eq hg_o.symm)
         replace hE := hE.ext hk_o
         replace hvs := hvs.ext stable_vr hk_o
         replace hks := hks.ext stable_pair hk_o
         replace hB_b := hk_o.blk hB_b (fun h => h)
         replace hB_r := hk_o.blk hB_r (fun h => h)
         replace hc_y := hk_o.cells hc_y (fun h => h)
         refine WO.nil (WX.next (WC.seq (WC.seq (WC.region (WO.mv rfl rfl (WO.o rfl (R.indexS Tryz.runUnderlying261 Tryz.sizeOf243 rfl rfl ha_y (by omega)) (WO.o rfl (R.fieldAddr Tryz.runUnderlying243 rfl Tryz.sizeOf3 rfl) (WO.o rfl (R.load Tryz.isAgg3 rfl (hc_y 0 _ rfl)) (WO.o rfl (R.lss rfl rfl) (WO.nil (WX.next ?_)))))))))))
         refine WC.ite rfl (fun p0 => ?_) (fun p0 => ?_)
         ·
          refine WC.region (WO.mv rfl rfl (WO.o rfl (R.indexS Tryz.runUnderlying261 Tryz.sizeOf243 rfl rfl ha_y (by omega)) (WO.o rfl (R.fieldAddr Tryz.runUnderlying243 rfl Tryz.sizeOf3 rfl) (WO.o rfl (R.load Tryz.isAgg3 rfl (hc_y 0 _ rfl)) (WO.o rfl (R.add rfl rfl (wrap_i64_in (by omega))) (WO.o rfl (R.minI rfl rfl) (WO.o rfl (R.fieldAddr Tryz.runUnderlying243 rfl Tryz.sizeOf3 rfl) (WO.mem0 rfl rfl (M.store Tryz.sizeOf3 rfl rfl rfl rfl hB_o (by simp)) ?_))))))))
          rintro ws9 ⟨_, hB_o, hs9⟩
          replace hE := hE.trans hs9 (fun q hq h => by have h : q = o := h; omega)
          replace hB_b := hs9.blk hB_b hn_b_o
          replace hB_r := hs9.blk hB_r hn_r_o
          replace hc_y := hs9.cells hc_y (show b_y ≠ o by omega)
          refine WO.nil (WX.next (WC.seq (WC.seq (WC.region (WO.mv rfl rfl (WO.o rfl (R.indexS Tryz.runUnderlying261 Tryz.sizeOf243 rfl rfl ha_y (by omega)) (WO.o rfl (R.fieldAddr Tryz.runUnderlying243 rfl Tryz.sizeOf3 rfl) (WO.o rfl (R.load Tryz.isAgg3 rfl (hc_y 1 _ rfl)) (WO.o rfl (R.gtr rfl rfl) (WO.nil (WX.next ?_)))))))))))
          refine WC.ite rfl (fun p1 => ?_) (fun p1 => ?_)
          ·
           refine WC.region (WO.mv rfl rfl (WO.o rfl (R.indexS Tryz.runUnderlying261 Tryz.sizeOf243 rfl rfl ha_y (by omega)) (WO.o rfl (R.fieldAddr Tryz.runUnderlying243 rfl Tryz.sizeOf3 rfl) (WO.o rfl (R.load Tryz.isAgg3 rfl (hc_y 1 _ rfl)) (WO.o rfl (R.sub rfl rfl (wrap_i64_in (by omega))) (WO.o rfl (R.maxI rfl rfl) (WO.o rfl (R.fieldAddr Tryz.runUnderlying243 rfl Tryz.sizeOf3 rfl) (WO.mem0 rfl rfl (M.store Tryz.sizeOf3 rfl rfl rfl rfl hB_o (by simp)) ?_))))))))
           rintro ws10 ⟨_, hB_o, hs10⟩
           replace hE := hE.trans hs10 (fun q hq h => by have h : q = o := h; omega)
           replace hB_b := hs10.blk hB_b hn_b_o
           replace hB_r := hs10.blk hB_r hn_r_o
           replace hc_y := hs10.cells hc_y (show b_y ≠ o by omega)
           refine WO.nr (WO.o rfl (R.loadK Tryz.isAgg243 Tryz.sizeOf243 rfl (by rfl) hB_o.cells) (WO.mem0 rfl rfl (M.storeK Tryz.sizeOf243 rfl rfl rfl rfl (by simp [Value.oneCell']) hB_r (by simp)) ?_))
           rintro wf ⟨_, hBf, hkf⟩
           refine WO.nil (WX.next (WC.ret (WX.blockR (WX.thenR (WX.retC Tryz.results219 rfl (run_loadK Tryz.isAgg243 Tryz.sizeOf243 rfl hBf.cells) ?_)))))
           exact ⟨_, rfl, by rw [e, if_pos p0, if_pos p1] <;> rfl, hE.trans hkf (fun q hq h => by have h : q = r := h; omega)⟩
          ·
           refine WC.ks (WO.o rfl (R.loadK Tryz.isAgg243 Tryz.sizeOf243 rfl (by rfl) hB_o.cells) (WO.mem0 rfl rfl (M.storeK Tryz.sizeOf243 rfl rfl rfl rfl (by simp [Value.oneCell']) hB_r (by simp)) ?_))
           rintro wf ⟨_, hBf, hkf⟩
           refine WO.nil (WX.next (WC.ret (WX.blockR (WX.thenR (WX.retC Tryz.results219 rfl (run_loadK Tryz.isAgg243 Tryz.sizeOf243 rfl hBf.cells) ?_)))))
           exact ⟨_, rfl, by rw [e, if_pos p0, if_neg p1] <;> rfl, hE.trans hkf (fun q hq h => by have h : q = r := h; omega)⟩
         ·
          refine WC.skip (WX.next (WC.seq (WC.seq (WC.region (WO.mv rfl rfl (WO.o rfl (R.indexS Tryz.runUnderlying261 Tryz.sizeOf243 rfl rfl ha_y (by omega)) (WO.o rfl (R.fieldAddr Tryz.runUnderlying243 rfl Tryz.sizeOf3 rfl) (WO.o rfl (R.load Tryz.isAgg3 rfl (hc_y 1 _ rfl)) (WO.o rfl (R.gtr rfl rfl) (WO.nil (WX.next ?_)))))))))))
          refine WC.ite rfl (fun p1 => ?_) (fun p1 => ?_)
          ·
           refine WC.region (WO.mv rfl rfl (WO.o rfl (R.indexS Tryz.runUnderlying261 Tryz.sizeOf243 rfl rfl ha_y (by omega)) (WO.o rfl (R.fieldAddr Tryz.runUnderlying243 rfl Tryz.sizeOf3 rfl) (WO.o rfl (R.load Tryz.isAgg3 rfl (hc_y 1 _ rfl)) (WO.o rfl (R.sub rfl rfl (wrap_i64_in (by omega))) (WO.o rfl (R.maxI rfl rfl) (WO.o rfl (R.fieldAddr Tryz.runUnderlying243 rfl Tryz.sizeOf3 rfl) (WO.mem0 rfl rfl (M.store Tryz.sizeOf3 rfl rfl rfl rfl hB_o (by simp)) ?_))))))))
           rintro ws11 ⟨_, hB_o, hs11⟩
           replace hE := hE.trans hs11 (fun q hq h => by have h : q = o := h; omega)
           replace hB_b := hs11.blk hB_b hn_b_o
           replace hB_r := hs11.blk hB_r hn_r_o
           replace hc_y := hs11.cells hc_y (show b_y ≠ o by omega)
           refine WO.nr (WO.o rfl (R.loadK Tryz.isAgg243 Tryz.sizeOf243 rfl (by rfl) hB_o.cells) (WO.mem0 rfl rfl (M.storeK Tryz.sizeOf243 rfl rfl rfl rfl (by simp [Value.oneCell']) hB_r (by simp)) ?_))
           rintro wf ⟨_, hBf, hkf⟩
           refine WO.nil (WX.next (WC.ret (WX.blockR (WX.thenR (WX.retC Tryz.results219 rfl (run_loadK Tryz.isAgg243 Tryz.sizeOf243 rfl hBf.cells) ?_)))))
           exact ⟨_, rfl, by rw [e, if_neg p0, if_pos p1] <;> rfl, hE.trans hkf (fun q hq h => by have h : q = r := h; omega)⟩
          ·
           refine WC.ks (WO.o rfl (R.loadK Tryz.isAgg243 Tryz.sizeOf243 rfl (by rfl) hB_o.cells) (WO.mem0 rfl rfl (M.storeK Tryz.sizeOf243 rfl rfl rfl rfl (by simp [Value.oneCell']) hB_r (by simp)) ?_))
           rintro wf ⟨_, hBf, hkf⟩
           refine WO.nil (WX.next (WC.ret (WX.blockR (WX.thenR (WX.retC Tryz.results219 rfl (run_loadK Tryz.isAgg243 Tryz.sizeOf243 rfl hBf.cells) ?_)))))
           exact ⟨_, rfl, by rw [e, if_neg p0, if_neg p1] <;> rfl, hE.trans hkf (fun q hq h => by have h : q = r := h; omega)⟩
        ·
         refine WC.sr (WO.o rfl (R.eql rfl rfl) (WO.a rfl rfl (WO.nil (WX.next ?_))))
         refine WC.ite rfl (fun h21 => ?_) (fun h21 => ?_)
         ·
          have hl := hn.k2 (by omega)
          obtain ⟨x, he_x⟩ : ∃ x, ks[0]? = some x := ⟨_, List.getElem?_eq_getElem (by omega)⟩
          have hm_x := List.mem_of_getElem? he_x
          obtain ⟨b_x, o_x, c_x, ha_x, _, hc_x, hR_x⟩ := hks.at he_x
          obtain rfl := hR_x
          have hlt_x : b_x < _ := World.block_lt_of_cell? _ _ (hc_x 0 _ rfl)
          obtain ⟨y, he_y⟩ : ∃ x, ks[1]? = some x := ⟨_, List.getElem?_eq_getElem (by omega)⟩
          have hm_y := List.mem_of_getElem? he_y
          obtain ⟨b_y, o_y, c_y, ha_y, _, hc_y, hR_y⟩ := hks.at he_y
          obtain rfl := hR_y
          have hlt_y : b_y < _ := World.block_lt_of_cell? _ _ (hc_y 0 _ rfl)
          have e : spanOf vs t.op t.n ks = (min x.1 y.1, min x.2 y.2) := by rw [spanOf, if_neg h0, if_neg h24, if_neg h6, if_neg h8, if_neg h9, if_neg h10, if_neg h11, if_neg h12, if_pos h21, at2_eq he_x, at2_eq he_y]
          refine WC.seq (WC.draw (fun q => Ext w_r q) [19] (by kernel_rfl) (fun wd12 hD _ => ?_))
          refine WD.takeW 0 rfl (by kernel_rfl) rfl rfl rfl (fun w1 => R.move rfl) (WD.takeW 1 rfl (by kernel_rfl) rfl rfl rfl (fun w1 => R.indexS Tryz.runUnderlying261 Tryz.sizeOf243 rfl rfl ha_x (by omega)) (WD.takeW 2 rfl (by kernel_rfl) rfl rfl rfl (fun w1 => R.fieldAddr Tryz.runUnderlying243 rfl Tryz.sizeOf3 rfl) (WD.take 3 rfl (by kernel_rfl) rfl rfl rfl hD (fun w1 hw1 => R.load Tryz.isAgg3 rfl ((hw1.cells hc_x (fun h => h)) 0 _ rfl)) (WD.takeW 4 rfl (by kernel_rfl) rfl rfl rfl (fun w1 => R.move rfl) (WD.takeW 5 rfl (by kernel_rfl) rfl rfl rfl (fun w1 => R.indexS Tryz.runUnderlying261 Tryz.sizeOf243 rfl rfl ha_y (by omega)) ?_)))))
          refine WD.takeW 6 rfl (by kernel_rfl) rfl rfl rfl (fun w1 => R.fieldAddr Tryz.runUnderlying243 rfl Tryz.sizeOf3 rfl) (WD.take 7 rfl (by kernel_rfl) rfl rfl rfl hD (fun w1 hw1 => R.load Tryz.isAgg3 rfl ((hw1.cells hc_y (fun h => h)) 0 _ rfl)) (WD.takeW 8 rfl (by kernel_rfl) rfl rfl rfl (fun w1 => R.minI rfl rfl) (WD.takeW 9 rfl (by kernel_rfl) rfl rfl rfl (fun w1 => R.move rfl) (WD.takeW 10 rfl (by kernel_rfl) rfl rfl rfl (fun w1 => R.indexS Tryz.runUnderlying261 Tryz.sizeOf243 rfl rfl ha_x (by omega)) (WD.takeW 11 rfl (by kernel_rfl) rfl rfl rfl (fun w1 => R.fieldAddr Tryz.runUnderlying243 rfl Tryz.sizeOf3 rfl) ?_)))))
          refine WD.take 12 rfl (by kernel_rfl) rfl rfl rfl hD (fun w1 hw1 => R.load Tryz.isAgg3 rfl ((hw1.cells hc_x (fun h => h)) 1 _ rfl)) (WD.takeW 13 rfl (by kernel_rfl) rfl rfl rfl (fun w1 => R.move rfl) (WD.takeW 14 rfl (by kernel_rfl) rfl rfl rfl (fun w1 => R.indexS Tryz.runUnderlying261 Tryz.sizeOf243 rfl rfl ha_y (by omega)) (WD.takeW 15 rfl (by kernel_rfl) rfl rfl rfl (fun w1 => R.fieldAddr Tryz.runUnderlying243 rfl Tryz.sizeOf3 rfl) (WD.take 16 rfl (by kernel_rfl) rfl rfl rfl hD (fun w1 hw1 => R.load Tryz.isAgg3 rfl ((hw1.cells hc_y (fun h => h)) 1 _ rfl)) (WD.takeW 17 rfl (by kernel_rfl) rfl rfl rfl (fun w1 => R.minI rfl rfl) ?_)))))
          refine WD.takeW 18 rfl (by kernel_rfl) rfl rfl rfl (fun w1 => R.build (v := .agg #[.int .i64 (min x.1 y.1), .int .i64 (min x.2 y.2)]) [(0, _), (1, _)] rfl (fun _ => by kernel_rfl)) (WD.mem0 19 rfl (by kernel_rfl) rfl rfl (M.storeK Tryz.sizeOf243 rfl rfl rfl rfl (by simp [Value.oneCell']) (hD.blk hB_r (fun h => h)) (by simp)) ?_)
          rintro wf ⟨_, hBf, hkf⟩
          refine ⟨fun h => absurd (by simp) h, ?_⟩
          refine WD.done (by kernel_rfl) ?_ _
          refine WX.next (WC.ret (WX.blockR (WX.thenR (WX.retC Tryz.results219 rfl (run_loadK Tryz.isAgg243 Tryz.sizeOf243 rfl hBf.cells) ?_))))
          exact ⟨_, rfl, by rw [e] <;> rfl, (hE.ext hD).trans hkf (fun q hq h => by have h : q = r := h; omega)⟩
         ·
          refine WC.sr (WO.o rfl (R.eql rfl rfl) (WO.a rfl rfl (WO.nil (WX.next ?_))))
          refine WC.ite rfl (fun h22 => ?_) (fun h22 => ?_)
          ·
           have hl := hn.k2 (by omega)
           obtain ⟨x, he_x⟩ : ∃ x, ks[0]? = some x := ⟨_, List.getElem?_eq_getElem (by omega)⟩
           have hm_x := List.mem_of_getElem? he_x
           obtain ⟨b_x, o_x, c_x, ha_x, _, hc_x, hR_x⟩ := hks.at he_x
           obtain rfl := hR_x
           have hlt_x : b_x < _ := World.block_lt_of_cell? _ _ (hc_x 0 _ rfl)
           obtain ⟨y, he_y⟩ : ∃ x, ks[1]? = some x := ⟨_, List.getElem?_eq_getElem (by omega)⟩
           have hm_y := List.mem_of_getElem? he_y
           obtain ⟨b_y, o_y, c_y, ha_y, _, hc_y, hR_y⟩ := hks.at he_y
           obtain rfl := hR_y
           have hlt_y : b_y < _ := World.block_lt_of_cell? _ _ (hc_y 0 _ rfl)
           have e : spanOf vs t.op t.n ks = (max x.1 y.1, max x.2 y.2) := by rw [spanOf, if_neg h0, if_neg h24, if_neg h6, if_neg h8, if_neg h9, if_neg h10, if_neg h11, if_neg h12, if_neg h21, if_pos h22, at2_eq he_x, at2_eq he_y]
           refine WC.seq (WC.draw (fun q => Ext w_r q) [19] (by kernel_rfl) (fun wd13 hD _ => ?_))
           refine WD.takeW 0 rfl (by kernel_rfl) rfl rfl rfl (fun w1 => R.move rfl) (WD.takeW 1 rfl (by kernel_rfl) rfl rfl rfl (fun w1 => R.indexS Tryz.runUnderlying261 Tryz.sizeOf243 rfl rfl ha_x (by omega)) (WD.takeW 2 rfl (by kernel_rfl) rfl rfl rfl (fun w1 => R.fieldAddr Tryz.runUnderlying243 rfl Tryz.sizeOf3 rfl) (WD.take 3 rfl (by kernel_rfl) rfl rfl rfl hD (fun w1 hw1 => R.load Tryz.isAgg3 rfl ((hw1.cells hc_x (fun h => h)) 0 _ rfl)) (WD.takeW 4 rfl (by kernel_rfl) rfl rfl rfl (fun w1 => R.move rfl) (WD.takeW 5 rfl (by kernel_rfl) rfl rfl rfl (fun w1 => R.indexS Tryz.runUnderlying261 Tryz.sizeOf243 rfl rfl ha_y (by omega)) ?_)))))
           refine WD.takeW 6 rfl (by kernel_rfl) rfl rfl rfl (fun w1 => R.fieldAddr Tryz.runUnderlying243 rfl Tryz.sizeOf3 rfl) (WD.take 7 rfl (by kernel_rfl) rfl rfl rfl hD (fun w1 hw1 => R.load Tryz.isAgg3 rfl ((hw1.cells hc_y (fun h => h)) 0 _ rfl)) (WD.takeW 8 rfl (by kernel_rfl) rfl rfl rfl (fun w1 => R.maxI rfl rfl) (WD.takeW 9 rfl (by kernel_rfl) rfl rfl rfl (fun w1 => R.move rfl) (WD.takeW 10 rfl (by kernel_rfl) rfl rfl rfl (fun w1 => R.indexS Tryz.runUnderlying261 Tryz.sizeOf243 rfl rfl ha_x (by omega)) (WD.takeW 11 rfl (by kernel_rfl) rfl rfl rfl (fun w1 => R.fieldAddr Tryz.runUnderlying243 rfl Tryz.sizeOf3 rfl) ?_)))))
           refine WD.take 12 rfl (by kernel_rfl) rfl rfl rfl hD (fun w1 hw1 => R.load Tryz.isAgg3 rfl ((hw1.cells hc_x (fun h => h)) 1 _ rfl)) (WD.takeW 13 rfl (by kernel_rfl) rfl rfl rfl (fun w1 => R.move rfl) (WD.takeW 14 rfl (by kernel_rfl) rfl rfl rfl (fun w1 => R.indexS Tryz.runUnderlying261 Tryz.sizeOf243 rfl rfl ha_y (by omega)) (WD.takeW 15 rfl (by kernel_rfl) rfl rfl rfl (fun w1 => R.fieldAddr Tryz.runUnderlying243 rfl Tryz.sizeOf3 rfl) (WD.take 16 rfl (by kernel_rfl) rfl rfl rfl hD (fun w1 hw1 => R.load Tryz.isAgg3 rfl ((hw1.cells hc_y (fun h => h)) 1 _ rfl)) (WD.takeW 17 rfl (by kernel_rfl) rfl rfl rfl (fun w1 => R.maxI rfl rfl) ?_)))))
           refine WD.takeW 18 rfl (by kernel_rfl) rfl rfl rfl (fun w1 => R.build (v := .agg #[.int .i64 (max x.1 y.1), .int .i64 (max x.2 y.2)]) [(0, _), (1, _)] rfl (fun _ => by kernel_rfl)) (WD.mem0 19 rfl (by kernel_rfl) rfl rfl (M.storeK Tryz.sizeOf243 rfl rfl rfl rfl (by simp [Value.oneCell']) (hD.blk hB_r (fun h => h)) (by simp)) ?_)
           rintro wf ⟨_, hBf, hkf⟩
           refine ⟨fun h => absurd (by simp) h, ?_⟩
           refine WD.done (by kernel_rfl) ?_ _
           refine WX.next (WC.ret (WX.blockR (WX.thenR (WX.retC Tryz.results219 rfl (run_loadK Tryz.isAgg243 Tryz.sizeOf243 rfl hBf.cells) ?_))))
           exact ⟨_, rfl, by rw [e] <;> rfl, (hE.ext hD).trans hkf (fun q hq h => by have h : q = r := h; omega)⟩
          ·
           have hbase : ¬ (t.op = 23 ∨ t.op = 25) → spanOf vs t.op t.n ks = (0, 1) := fun h => by rw [spanOf, if_neg h0, if_neg h24, if_neg h6, if_neg h8, if_neg h9, if_neg h10, if_neg h11, if_neg h12, if_neg h21, if_neg h22, if_neg h]
           refine WC.seq (WC.seq (WC.region (WO.o rfl (R.eql rfl rfl) (WO.a rfl rfl (WO.nil (WX.next ?_))))))
           refine WC.cut (σ := Bool) (fun p => [(2, .slice ak ks.length nk), (6, .pointer (some ⟨r, 0, none⟩)), (200, .bool p)]) (fun p => fun w' => (p = true ↔ t.op = 23 ∨ t.op = 25) ∧ w' = w_r) ?_ ?_
           ·
            refine WC.ite rfl (fun h23 => ?_) (fun h23 => ?_)
            · refine WC.skip (WX.meet (decide (t.op = 23)) (Sub.of rfl) (⟨by simp [h23], rfl⟩))
            · refine WC.region (WO.o rfl (R.eql rfl rfl) (WO.a rfl rfl (WO.nil (WX.meet (decide (t.op = 25)) (Sub.of rfl) (⟨by simp [h23], rfl⟩)))))
           rintro p w2 ⟨hp, hw2⟩
           show WX _ _ _ [(2, .slice ak ks.length nk), (6, .pointer (some ⟨r, 0, none⟩)), (200, .bool p)] _
           subst hw2
           refine WX.next (WC.bool rfl (fun p1 => ?_) (fun p1 => ?_))
           ·
            have hl := hn.k3 (hp.1 p1)
            obtain ⟨y, he_y⟩ : ∃ x, ks[1]? = some x := ⟨_, List.getElem?_eq_getElem (by omega)⟩
            have hm_y := List.mem_of_getElem? he_y
            obtain ⟨b_y, o_y, c_y, ha_y, _, hc_y, hR_y⟩ := hks.at he_y
            obtain rfl := hR_y
            have hlt_y : b_y < _ := World.block_lt_of_cell? _ _ (hc_y 0 _ rfl)
            have e : spanOf vs t.op t.n ks = hullL y (ks.drop 2) := by rw [spanOf, if_neg h0, if_neg h24, if_neg h6, if_neg h8, if_neg h9, if_neg h10, if_neg h11, if_neg h12, if_neg h21, if_neg h22, if_pos (hp.1 p1), at2_eq he_y]
            have hdr := hks.drop 2 (by omega)
            have hdl : (ks.drop 2).length = ks.length - 2 := List.length_drop
            refine WC.sr (WO.mv rfl rfl (WO.o rfl (R.indexS Tryz.runUnderlying261 Tryz.sizeOf243 rfl rfl ha_y (by omega)) (WO.o rfl (R.loadK Tryz.isAgg243 Tryz.sizeOf243 rfl (by rfl) hc_y) (WO.mem rfl rfl rfl (M.alloc (cs := _) Tryz.zeroValue243 rfl) ?_))))
            rintro _ wa14 ⟨o, rfl, hg_o, hs_o, hB_o, hk_o⟩
            refine WO.mem0 rfl rfl (M.storeK Tryz.sizeOf243 rfl rfl rfl rfl (by simp [Value.oneCell']) hB_o (by simp)) ?_
            rintro w_o ⟨_, hB_o, hkk_o⟩
            replace hk_o := hk_o.trans hkk_o (fun q hq h => by have h : q = o := h; omega)
            have hn_b_o : b ≠ o := by have := hB_b.lt; omega
            have hn_r_o : r ≠ o := by have := hB_r.lt; omega
            have hge_o : _ ≤ o := Nat.le_trans hE.size (Nat.le_of_eq hg_o.symm)
            replace hE := hE.ext hk_o
            replace hvs := hvs.ext stable_vr hk_o
            replace hks := hks.ext stable_pair hk_o
            replace hB_b := hk_o.blk hB_b (fun h => h)
            replace hB_r := hk_o.blk hB_r (fun h => h)
            replace hc_y := hk_o.cells hc_y (fun h => h)
            refine WO.nil (WX.next (WC.seq (WC.seq (WC.region (WO.mv rfl rfl (WO.o rfl (R.sliceLo Tryz.runUnderlying261 Tryz.sizeOf243 rfl rfl (by omega)) (WO.o rfl (R.lenS rfl Tryz.runUnderlying261 rfl) (WO.mv rfl rfl (WO.nil (WX.next (WC.block ?_)))))))))))
            refine WC.loop (σ := Nat) (fun k => [(6, .pointer (some ⟨r, 0, none⟩)), (9, .pointer (some ⟨o, 0, none⟩)), (207, .slice (if nk = 2 then ak else ak.map (·.add (2 * 2))) (ks.length - 2) (nk - 2)), (208, .int .i64 (ks.length - 2 : Nat)), (209, .int .i64 k)]) (fun k => fun w' => k ≤ ks.length - 2 ∧ Blk w' o [.int .i64 (hullL y ((ks.drop 2).take k)).1, .int .i64 (hullL y ((ks.drop 2).take k)).2] 243 ∧ Keep (fun q => q = o) w_o w') (fun k => ks.length - 2 - k) (0) (Sub.of rfl) (⟨Nat.zero_le _, hB_o, Keep.refl _ _⟩) ?_
            rintro k w1 ⟨hk, hB_o, hk1⟩
            show WC _ _ _ _ [(6, .pointer (some ⟨r, 0, none⟩)), (9, .pointer (some ⟨o, 0, none⟩)), (207, .slice (if nk = 2 then ak else ak.map (·.add (2 * 2))) (ks.length - 2) (nk - 2)), (208, .int .i64 (ks.length - 2 : Nat)), (209, .int .i64 k)] _
            refine WC.sr (WO.o rfl (R.lss rfl rfl) (WO.nil (WX.next (WC.seq ?_))))
            refine WC.ite rfl (fun hlt => ?_) (fun hlt => ?_)
            ·
             obtain ⟨z, he_z⟩ : ∃ x, (ks.drop 2)[k]? = some x := ⟨_, List.getElem?_eq_getElem (by omega)⟩
             have hm_z := List.mem_of_getElem? he_z
             obtain ⟨b_z, o_z, c_z, ha_z, _, hc_z, hR_z⟩ := hdr.at he_z
             obtain rfl := hR_z
             have hlt_z : b_z < _ := World.block_lt_of_cell? _ _ (hc_z 0 _ rfl)
             replace hc_z := hk1.cells (hk_o.cells hc_z (fun h => h)) (show b_z ≠ o by omega)
             refine WC.skip (WX.next (WC.seq (WC.block (WC.seq (WC.region (WO.o rfl (R.indexS Tryz.runUnderlying261 Tryz.sizeOf243 rfl rfl ha_z (by omega)) (WO.o rfl (R.loadK Tryz.isAgg243 Tryz.sizeOf243 rfl (by rfl) hc_z) (WO.mem rfl rfl rfl (M.alloc (cs := _) Tryz.zeroValue243 rfl) ?_))))))))
             rintro _ wa ⟨c, rfl, hg_c, hs_c, hB_c, hk_c⟩
             refine WO.mem0 rfl rfl (M.storeK Tryz.sizeOf243 rfl rfl rfl rfl (by simp [Value.oneCell']) hB_c (by simp)) ?_
             rintro w3 ⟨_, hB_c, hk3⟩
             have hk13 : Ext w1 w3 := hk_c.trans hk3 (fun q hq h => by have h : q = c := h; omega)
             replace hB_o := hk13.blk hB_o (fun h => h)
             refine WO.nil (WX.next (WC.region (WO.o rfl (R.loadK Tryz.isAgg243 Tryz.sizeOf243 rfl (by rfl) hB_o.cells) (WO.o rfl (R.loadK Tryz.isAgg243 Tryz.sizeOf243 rfl (by rfl) hB_c.cells) (WO.call rfl rfl rfl (F.call (vs := [_, _]) Tryz.call228 rfl) (hull_ok (hullL y ((ks.drop 2).take k)) z w3) ?_)))))
             rintro _ w4 ⟨rfl, hk4⟩
             refine WO.mem0 rfl rfl (M.storeK Tryz.sizeOf243 rfl rfl rfl rfl (by simp [Value.oneCell']) (hk4.blk hB_o (fun h => h)) (by simp)) ?_
             rintro w5 ⟨_, hB5, hk5⟩
             refine WO.nil (WX.blockN (WX.next (WC.region (WO.o rfl (R.add rfl rfl (wrap_i64_in (by omega))) (WO.mv rfl rfl (WO.nil (WX.back (k + 1) (Sub.of rfl) (⟨by omega, ?_, (hk1.ext (hk13.ext hk4)).trans hk5 (fun _ _ h => h)⟩) (by first | omega | (dsimp only; omega)))))))))
             rw [hullL_take he_z]
             exact hB5
            ·
             have hkk : k = ks.length - 2 := by omega
             have hr1 := hk1.blk hB_r hn_r_o
             rw [hkk, ← hdl, List.take_length, ← e] at hB_o
             refine WC.exit (WX.thenE (WX.thenE (WX.hit (WX.next (WC.seq (WC.region (WO.o rfl (R.loadK Tryz.isAgg243 Tryz.sizeOf243 rfl (by rfl) hB_o.cells) (WO.mem0 rfl rfl (M.storeK Tryz.sizeOf243 rfl rfl rfl rfl (by simp [Value.oneCell']) hr1 (by simp)) ?_))))))))
             rintro wf ⟨_, hBf, hkf⟩
             refine WO.nil (WX.next (WC.ret (WX.blockR (WX.thenR (WX.retC Tryz.results219 rfl (run_loadK Tryz.isAgg243 Tryz.sizeOf243 rfl hBf.cells) ?_)))))
             exact ⟨_, rfl, rfl, (hE.trans hk1 (fun q hq h => by have h : q = o := h; omega)).trans hkf (fun q hq h => by have h : q = r := h; omega)⟩
           ·
            have e := hbase (fun h => by rw [hp.2 h] at p1; cases p1)
            refine WC.skip (WX.blockN (WX.next (WC.seq (WC.region (WO.o rfl (R.build (v := .agg #[.int .i64 0, .int .i64 1]) [(0, _), (1, _)] rfl (fun _ => by kernel_rfl)) (WO.mem0 rfl rfl (M.storeK Tryz.sizeOf243 rfl rfl rfl rfl (by simp [Value.oneCell']) hB_r (by simp)) ?_))))))
            rintro wf ⟨_, hBf, hkf⟩
            refine WO.nil (WX.next (WC.ret (WX.retC Tryz.results219 rfl (run_loadK Tryz.isAgg243 Tryz.sizeOf243 rfl hBf.cells) ?_)))
            exact ⟨_, rfl, by rw [e] <;> rfl, hE.trans hkf (fun q hq h => by have h : q = r := h; omega)⟩
def encP (e : Int × Int) : List Value := [.int .i64 e.1, .int .i64 e.2]
theorem encP_len (e : Int × Int) : (encP e).length = 2 := rfl
theorem encP_one (e : Int × Int) : ∀ u ∈ encP e, u.oneCell' = true := by simp [encP, Value.oneCell']
mutual
/-- The range of a term whose nodes all lie within the limit. -/
def rng (vs : List Vr) : Tm → Option Rg
 | .mk op n ks => (rngL vs ks).bind fun l => if okR (spanOf vs op n l) then some (spanOf vs op n l) else none
def rngL (vs : List Vr) : List Tm → Option (List Rg)
 | [] => some []
 | k :: r => (rng vs k).bind fun x => (rngL vs r).map fun l => x :: l
end
section
variable {vs : List Vr}
theorem rng_eq (t : Tm) : rng vs t = (rngL vs t.kids).bind fun l => if okR (spanOf vs t.op t.n l) then some (spanOf vs t.op t.n l) else none := by cases t; rw [rng]; rfl
theorem rngL_append (a b : List Tm) : rngL vs (a ++ b) = (rngL vs a).bind fun l => (rngL vs b).map fun m => l ++ m := by
 induction a with
 | nil => simp [rngL]
 | cons x r ih =>
  simp only [List.cons_append, rngL, ih]
  cases rng vs x <;> cases rngL vs r <;> cases rngL vs b <;> simp
theorem rngL_take {l : List Tm} {i : Nat} {x : Tm} {m : List Rg} {r : Rg} (h : l[i]? = some x) (h1 : rngL vs (l.take i) = some m) (h2 : rng vs x = some r) : rngL vs (l.take (i + 1)) = some (m ++ [r]) := by
 rw [take_get h, rngL_append, h1]; simp [rngL, h2]
theorem rngL_none {l : List Tm} {i : Nat} {x : Tm} (h : l[i]? = some x) (h2 : rng vs x = none) : rngL vs l = none := by
 rw [split_get h, rngL_append]
 cases rngL vs (l.take i) <;> simp [rngL, h2]
theorem rngL_len : ∀ (l : List Tm) (m : List Rg), rngL vs l = some m → m.length = l.length
 | [], m, h => by simp [rngL] at h; subst h; rfl
 | x :: r, m, h => by
  simp only [rngL, Option.bind_eq_some_iff, Option.map_eq_some_iff] at h
  obtain ⟨y, _, z, h2, rfl⟩ := h
  simp [rngL_len r z h2]
theorem rngL_mem : ∀ (l : List Tm) (m : List Rg), rngL vs l = some m → ∀ r ∈ m, ∃ t ∈ l, rng vs t = some r
 | [], m, h, r, hr => by simp [rngL] at h; subst h; simp at hr
 | x :: l, m, h, r, hr => by
  simp only [rngL, Option.bind_eq_some_iff, Option.map_eq_some_iff] at h
  obtain ⟨y, h1, z, h2, rfl⟩ := h
  rcases List.mem_cons.1 hr with rfl | hr
  · exact ⟨x, List.mem_cons_self .., h1⟩
  ·
   obtain ⟨t, h3, h4⟩ := rngL_mem l z h2 r hr
   exact ⟨t, List.mem_cons_of_mem _ h3, h4⟩
theorem hullL_le (x : Rg) (h : x.1 ≤ x.2) : ∀ l : List Rg, (hullL x l).1 ≤ x.1 ∧ x.2 ≤ (hullL x l).2 := by
 intro l
 induction l generalizing x with
 | nil => simp [hullL]
 | cons y r ih =>
  have := ih (min x.1 y.1, max x.2 y.2) (by dsimp only; omega)
  simp only [hullL, List.foldl_cons] at this ⊢
  constructor <;> omega
theorem at2_mem {l : List Rg} {i : Nat} (h : i < l.length) : at2 l i ∈ l := by
 unfold at2
 rw [List.getElem?_eq_getElem h]
 exact List.getElem_mem h
theorem vat_good {n : Int} (hv : ∀ v ∈ vs, Good (v.low, v.high)) (hn : 0 ≤ n ∧ n < vs.length) : Good (vat vs n) := by
 unfold vat
 rw [List.getElem?_eq_getElem (show n.toNat < vs.length by omega)]
 exact hv _ (List.getElem_mem _)
theorem spanOf_le {op n : Int} {l : List Rg} (h : NodeOk vs op n l) : (spanOf vs op n l).1 ≤ (spanOf vs op n l).2 := by
 have hg : ∀ i, i < l.length → Good (at2 l i) := fun i hi => h.good _ (at2_mem hi)
 unfold Good at hg
 unfold spanOf
 split
 · exact Int.le_refl _
 split
 · rename_i h1 h2; exact (vat_good h.vars (h.var h2)).2.1
 split
 · rename_i h1 h2 h3; have := h.k1 (.inl h3); have := hg 0 (by omega); dsimp only; omega
 split
 · have := h.k2 (by omega); have := hg 0 (by omega); have := hg 1 (by omega); dsimp only; omega
 split
 · have := h.k2 (by omega); have := hg 0 (by omega); have := hg 1 (by omega); dsimp only; omega
 split
 ·
  have := hullL_le ((at2 l 0).1 * (at2 l 1).1, (at2 l 0).1 * (at2 l 1).1) (Int.le_refl _) [((at2 l 0).1 * (at2 l 1).2, (at2 l 0).1 * (at2 l 1).2), ((at2 l 0).2 * (at2 l 1).1, (at2 l 0).2 * (at2 l 1).1), ((at2 l 0).2 * (at2 l 1).2, (at2 l 0).2 * (at2 l 1).2)]
  unfold cornersI
  exact Int.le_trans this.1 this.2
 split
 · have := h.k2 (by omega); have := hg 0 (by omega); dsimp only; split <;> omega
 split
 · have := h.k2 (by omega); have := hg 1 (by omega); dsimp only; split <;> split <;> omega
 split
 · have := h.k2 (by omega); have := hg 0 (by omega); have := hg 1 (by omega); dsimp only; omega
 split
 · have := h.k2 (by omega); have := hg 0 (by omega); have := hg 1 (by omega); dsimp only; omega
 split
 ·
  rename_i hk
  have := h.k3 hk; have h2 := hg 1 (by omega)
  have := hullL_le (at2 l 1) h2.2.1 (l.drop 2)
  omega
 · decide
theorem rng_good {inp : Bool} (hv : ∀ v ∈ vs, Good (v.low, v.high)) (t : Tm) : formedT vs inp t = true → ∀ r, rng vs t = some r → Good r := by
 induction t using Tm.ind with
 | h t ih =>
  intro hf r hr
  rw [formedT_eq, Bool.and_eq_true, Bool.and_eq_true] at hf
  rw [rng_eq, Option.bind_eq_some_iff] at hr
  obtain ⟨l, h1, h2⟩ := hr
  have hn : NodeOk vs t.op t.n l := nodeOk_of (rngL_len _ _ h1) hf.1.1 hf.1.2 (fun x hx => by
   obtain ⟨k, hk, hkx⟩ := rngL_mem _ _ h1 x hx
   exact ih k hk (formedL_mem hf.2 hk) x hkx) hv
  have := spanOf_le hn
  split at h2
  ·
   rename_i hok
   cases h2
   have := of_decide_eq_true hok
   exact ⟨this.1, by omega, this.2⟩
  · cases h2
end
theorem ranged_ok (vs : List Vr) (inp : Bool) (vv : Value) (Dv : Nat → Prop) (hvb : ∀ v ∈ vs, Good (v.low, v.high)) (t : Tm) : ∀ (cs : List Value) (D : Nat → Prop) (w : World), SlR 5 RVr Dv w vv vs → RTm D w t cs → formedT vs inp t = true → t.nodes ≤ 1000000 →
  Calls Tryz.prog 197 #[vv, .agg cs.toArray] w (Ret fun r w' => (∃ a b : Int, r = .tuple #[.agg #[.int .i64 a, .int .i64 b], .bool (rng vs t).isSome] ∧ ∀ x, rng vs t = some x → (a, b) = x) ∧ Ext w w') := by
 induction t using Tm.ind with
 | h t ih =>
 intro cs D w hvs ht hf hsz
 have hft := hf
 rw [formedT_eq, Bool.and_eq_true, Bool.and_eq_true] at hf
 have hlen := tlen_le t.kids
 have hse := t.nodes_eq
 obtain ⟨v, rfl, hk⟩ := ht.get
 obtain ⟨ao, cap, rfl⟩ := hk.form
 obtain ⟨av, nv, rfl⟩ := hvs.form
 have hE := Keep.refl (fun _ => False) w
 refine calls Tryz.func197 rfl [(0, .slice av vs.length nv), (1, .agg #[.int .i64 t.op, .int .i64 t.n, .slice ao t.kids.length cap])] 46 ⟨Nat.le_of_ble_eq_true rfl, Tryz.ntmps197⟩ (argsOk (Sub.of rfl)) ?_
 refine WC.sr (WO.mem rfl rfl rfl (M.box rfl rfl) ?_)
 rintro _ w_b ⟨b, rfl, hg_b, hs_b, hB_b, hk_b⟩
 have hge_b : _ ≤ b := Nat.le_trans hE.size (Nat.le_of_eq hg_b.symm)
 replace hE := hE.ext hk_b
 replace hvs := hvs.ext stable_vr hk_b
 replace hk := hk.ext stable_tm hk_b
 refine WO.mem rfl rfl rfl (M.alloc (cs := _) Tryz.zeroValue243 rfl) ?_
 rintro _ w_r ⟨r, rfl, hg_r, hs_r, hB_r, hk_r⟩
 have hn_b_r : b ≠ r := by have := hB_b.lt; omega
 have hge_r : _ ≤ r := Nat.le_trans hE.size (Nat.le_of_eq hg_r.symm)
 replace hE := hE.ext hk_r
 replace hvs := hvs.ext stable_vr hk_r
 replace hk := hk.ext stable_tm hk_r
 replace hB_b := hk_r.blk hB_b (fun h => h)
 refine WO.a rfl rfl (WO.nr (WO.a rfl rfl (WO.nil (WX.next (WC.seq (WC.seq (WC.region ?_)))))))
 refine WO.o rfl (R.fieldAddr Tryz.runUnderlying84 rfl Tryz.sizeOf82 rfl) (WO.o rfl (R.load Tryz.isAgg82 rfl (hB_b.cells 2 _ rfl)) (WO.o rfl (R.lenS rfl Tryz.runUnderlying82 rfl) (WO.mv rfl rfl (WO.nil (WX.next (WC.block ?_))))))
 refine WC.loop (σ := Nat × List Rg × Value) (fun ⟨i, l, vk⟩ => [(0, .slice av vs.length nv), (3, .pointer (some ⟨b, 0, none⟩)), (4, .pointer (some ⟨r, 0, none⟩)), (6, vk), (13, .slice ao t.kids.length cap), (14, .int .i64 t.kids.length), (15, .int .i64 i)]) (fun ⟨i, l, vk⟩ => fun w' => i ≤ t.kids.length ∧ rngL vs (t.kids.take i) = some l ∧ w'.ownsRow 0 243 2 vk l.length (l.flatMap encP) ∧ (∀ q, vk.ownBlock = some q → w_r.heap.size ≤ q) ∧ Ext w_r w') (fun ⟨i, l, vk⟩ => t.kids.length - i) ((0, [], .slice none 0 0)) (Sub.of rfl) (⟨Nat.zero_le _, rfl, own_nil _ _ _, fun q hq => by simp [Value.ownBlock] at hq, Keep.refl _ _⟩) ?_
 rintro ⟨i, l, vk⟩ w1 ⟨hi, hl, hown, hfr, hL1⟩
 show WC _ _ _ _ [(0, .slice av vs.length nv), (3, .pointer (some ⟨b, 0, none⟩)), (4, .pointer (some ⟨r, 0, none⟩)), (6, vk), (13, .slice ao t.kids.length cap), (14, .int .i64 t.kids.length), (15, .int .i64 i)] _
 replace hE := hE.ext hL1
 replace hvs := hvs.ext stable_vr hL1
 replace hk := hk.ext stable_tm hL1
 replace hB_b := hL1.blk hB_b (fun h => h)
 replace hB_r := hL1.blk hB_r (fun h => h)
 refine WC.sr (WO.o rfl (R.lss rfl rfl) (WO.nil (WX.next (WC.seq ?_))))
 refine WC.ite rfl (fun hlt => ?_) (fun hlt => ?_)
 ·
  obtain ⟨k, he_k⟩ : ∃ x, t.kids[i]? = some x := ⟨_, List.getElem?_eq_getElem (by omega)⟩
  have hm_k := List.mem_of_getElem? he_k
  obtain ⟨b_k, o_k, c_k, ha_k, _, hc_k, hR_k⟩ := hk.at he_k
  have h1_k := RTm.one hR_k
  obtain ⟨v1_k, rfl, hk_k⟩ := hR_k.get
  obtain ⟨a1_k, n1_k, rfl⟩ := hk_k.form
  have hlt_k : b_k < _ := World.block_lt_of_cell? _ _ (hc_k 0 _ rfl)
  have hsp := tnodes_split he_k
  have hll := rngL_len _ _ hl
  rw [List.length_take] at hll
  refine WC.skip (WX.next (WC.seq (WC.block (WC.seq (WC.region (WO.o rfl (R.indexS Tryz.runUnderlying82 Tryz.sizeOf84 rfl rfl ha_k (by omega)) (WO.o rfl (R.loadK Tryz.isAgg84 Tryz.sizeOf84 rfl (by rfl) hc_k) (WO.mem rfl rfl rfl (M.alloc (cs := _) Tryz.zeroValue84 rfl) ?_))))))))
  rintro _ wa1 ⟨c, rfl, hg_c, hs_c, hB_c, hk_c⟩
  refine WO.mem0 rfl rfl (M.storeK Tryz.sizeOf84 rfl rfl rfl rfl h1_k hB_c (by simp)) ?_
  rintro w_c ⟨_, hB_c, hkk_c⟩
  replace hk_c := hk_c.trans hkk_c (fun q hq h => by have h : q = c := h; omega)
  have hn_b_c : b ≠ c := by have := hB_b.lt; omega
  have hn_r_c : r ≠ c := by have := hB_r.lt; omega
  have hge_c : _ ≤ c := Nat.le_trans hE.size (Nat.le_of_eq hg_c.symm)
  replace hE := hE.ext hk_c
  replace hvs := hvs.ext stable_vr hk_c
  replace hk := hk.ext stable_tm hk_c
  replace hB_b := hk_c.blk hB_b (fun h => h)
  replace hB_r := hk_c.blk hB_r (fun h => h)
  replace hL1 := hL1.ext hk_c
  replace hown := own_keep hown hk_c (fun _ _ h => h)
  replace hc_k := hk_c.cells hc_k (fun h => h)
  replace hk_k := hk_k.ext stable_tm hk_c
  refine WO.nr (WO.mv rfl rfl (WO.o rfl (R.loadK Tryz.isAgg84 Tryz.sizeOf84 rfl (by rfl) hB_c.cells) (WO.call rfl rfl rfl (F.call (vs := [_, _]) Tryz.call197 rfl) (ih k hm_k _ D _ hvs (RTm.put hk_k) (formedL_mem hf.2 hm_k) (by omega)) ?_)))
  rintro _ wz2 ⟨⟨ka, kb, rfl, hval⟩, hz2⟩
  replace hE := hE.ext hz2
  replace hvs := hvs.ext stable_vr hz2
  replace hk := hk.ext stable_tm hz2
  replace hB_b := hz2.blk hB_b (fun h => h)
  replace hB_r := hz2.blk hB_r (fun h => h)
  replace hL1 := hL1.ext hz2
  replace hown := own_keep hown hz2 (fun _ _ h => h)
  replace hc_k := hz2.cells hc_k (fun h => h)
  replace hk_k := hk_k.ext stable_tm hz2
  replace hB_c := hz2.blk hB_c (fun h => h)
  refine WO.mv rfl rfl (WO.o rfl (R.extract rfl rfl) (WO.o rfl (R.extract rfl rfl) (WO.mem rfl rfl rfl (M.alloc (cs := _) Tryz.zeroValue243 rfl) ?_)))
  rintro _ wa3 ⟨d, rfl, hg_d, hs_d, hB_d, hk_d⟩
  refine WO.mem0 rfl rfl (M.storeK Tryz.sizeOf243 rfl rfl rfl rfl (by simp [Value.oneCell']) hB_d (by simp)) ?_
  rintro w_d ⟨_, hB_d, hkk_d⟩
  replace hk_d := hk_d.trans hkk_d (fun q hq h => by have h : q = d := h; omega)
  have hn_b_d : b ≠ d := by have := hB_b.lt; omega
  have hn_r_d : r ≠ d := by have := hB_r.lt; omega
  have hn_c_d : c ≠ d := by have := hB_c.lt; omega
  have hge_d : _ ≤ d := Nat.le_trans hE.size (Nat.le_of_eq hg_d.symm)
  replace hE := hE.ext hk_d
  replace hvs := hvs.ext stable_vr hk_d
  replace hk := hk.ext stable_tm hk_d
  replace hB_b := hk_d.blk hB_b (fun h => h)
  replace hB_r := hk_d.blk hB_r (fun h => h)
  replace hL1 := hL1.ext hk_d
  replace hown := own_keep hown hk_d (fun _ _ h => h)
  replace hc_k := hk_d.cells hc_k (fun h => h)
  replace hk_k := hk_k.ext stable_tm hk_d
  replace hB_c := hk_d.blk hB_c (fun h => h)
  refine WO.a rfl rfl (WO.nil (WX.next (WC.seq (WC.seq (WC.region ?_)))))
  refine WO.mv rfl rfl (WO.o rfl (R.notU rfl (by first | exact not_decide_eq | rfl)) (WO.nil (WX.next ?_)))
  refine WC.bool rfl (fun hb => ?_) (fun hb => ?_)
  ·
   have hb' : rng vs k = none := by cases h : rng vs k <;> simp [h] at hb ⊢
   have hnone : rng vs t = none := by rw [rng_eq, rngL_none he_k hb']; rfl
   refine WC.sr (WO.o rfl (R.build (v := .agg #[.int .i64 0, .int .i64 0]) [] rfl (fun _ => by kernel_rfl)) (WO.mem0 rfl rfl (M.storeK Tryz.sizeOf243 rfl rfl rfl rfl (by simp [Value.oneCell']) hB_r (by simp)) ?_))
   rintro wf ⟨_, hBf, hkf⟩
   refine WO.a rfl rfl (WO.nil (WX.next (WC.ret (WX.thenR (WX.blockR (WX.thenR (WX.thenR (WX.blockR (WX.thenR ?_)))))))))
   refine WX.retCT Tryz.results197 rfl (run_loadK Tryz.isAgg243 Tryz.sizeOf243 rfl hBf.cells) rfl ?_
   exact ⟨_, rfl, ⟨0, 0, by rw [hnone]; rfl, fun x hx => by rw [hnone] at hx; cases hx⟩, hE.trans hkf (fun q hq h => by have h : q = r := h; omega)⟩
  ·
   obtain ⟨x, hx⟩ : ∃ x, rng vs k = some x := by cases h : rng vs k with
    | none => simp [h] at hb
    | some x => exact ⟨x, rfl⟩
   have hxv := hval x hx
   subst hxv
   refine WC.skip (WX.next (WC.region (WO.mv rfl rfl (WO.o rfl (R.loadK Tryz.isAgg243 Tryz.sizeOf243 rfl (by rfl) hB_d.cells) (WO.mem rfl rfl rfl (M.buildSlice (cs := encP (ka, kb)) [(0, _)] Tryz.runUnderlying261 Tryz.sizeOf243 Tryz.zeroValue243 (by decide) rfl (by kernel_rfl)) ?_)))))
   rintro _ w5 ⟨b5, rfl, hg_b5, hs_b5, hB_b5, hk_b5⟩
   replace hE := hE.ext hk_b5
   replace hvs := hvs.ext stable_vr hk_b5
   replace hk := hk.ext stable_tm hk_b5
   replace hB_b := hk_b5.blk hB_b (fun h => h)
   replace hB_r := hk_b5.blk hB_r (fun h => h)
   replace hL1 := hL1.ext hk_b5
   replace hown := own_keep hown hk_b5 (fun _ _ h => h)
   replace hc_k := hk_b5.cells hc_k (fun h => h)
   replace hk_k := hk_k.ext stable_tm hk_b5
   replace hB_c := hk_b5.blk hB_c (fun h => h)
   replace hB_d := hk_b5.blk hB_d (fun h => h)
   refine WO.mem rfl rfl rfl (M.append Tryz.underlying261 Tryz.el243 rfl (by decide) rfl rfl hown rfl (Cells.add hB_b5.cells) (encP_one _) (by omega) (by omega)) ?_
   rintro vk' w6 ⟨hown6, hfr6, hk6, _⟩
   have hszL := hL1.size
   have hE6 : Ext w_r w6 := hL1.trans hk6 (fun q hq h => by have := hfr q h; omega)
   refine WO.a rfl rfl (WO.nil (WX.blockN (WX.next (WC.region ?_))))
   refine WO.o rfl (R.add rfl rfl (wrap_i64_in (by omega))) (WO.mv rfl rfl (WO.nil (WX.back ((i + 1, l ++ [(ka, kb)], vk')) (Sub.of rfl) (⟨by omega, rngL_take he_k hl hx, ?_, ?_, hE6⟩) (by first | omega | (dsimp only; omega)))))
   ·
    rw [List.length_append, List.flatMap_append]
    exact hown6
   ·
    intro q hq
    rcases hfr6 with h | ⟨q', h, h'⟩
    · exact hfr q (by rw [← h]; exact hq)
    · rw [h] at hq; cases hq; omega
 ·
  have hii : i = t.kids.length := by omega
  subst hii
  rw [List.take_length] at hl
  have hll := rngL_len _ _ hl
  have hsl : SlR 2 RPair (fun _ => True) w1 vk l := SlR.ofRowK (by omega) encP encP_len (fun x _ => rfl) hown (fun _ _ => trivial)
  have hn : NodeOk vs t.op t.n l := nodeOk_of hll hf.1.1 hf.1.2 (fun x hx => by
   obtain ⟨k, hk, hkx⟩ := rngL_mem _ _ hl x hx
   exact rng_good hvb k (formedL_mem hf.2 hk) x hkx) hvb
  have hrg : rng vs t = if okR (spanOf vs t.op t.n l) then some (spanOf vs t.op t.n l) else none := by rw [rng_eq, hl]; rfl
  refine WC.exit (WX.thenE (WX.thenE (WX.hit (WX.next (WC.seq (WC.region (WO.mv rfl rfl (WO.o rfl (R.loadK Tryz.isAgg84 Tryz.sizeOf84 rfl (by rfl) hB_b.cells) (WO.mv rfl rfl (WO.call rfl rfl rfl (F.call (vs := [_, _, _]) Tryz.call219 rfl) (rule_ok vs t l _ vk _ Dv D (fun _ => True) _ hvs (RTm.put hk) hsl hn) ?_))))))))))
  rintro _ wz4 ⟨rfl, hz4⟩
  replace hE := hE.ext hz4
  replace hvs := hvs.ext stable_vr hz4
  replace hk := hk.ext stable_tm hz4
  replace hB_b := hz4.blk hB_b (fun h => h)
  replace hB_r := hz4.blk hB_r (fun h => h)
  replace hL1 := hL1.ext hz4
  replace hown := own_keep hown hz4 (fun _ _ h => h)
  refine WO.mem rfl rfl rfl (M.alloc (cs := _) Tryz.zeroValue243 rfl) ?_
  rintro _ wa5 ⟨o, rfl, hg_o, hs_o, hB_o, hk_o⟩
  refine WO.mem0 rfl rfl (M.storeK Tryz.sizeOf243 rfl rfl rfl rfl (by simp [Value.oneCell']) hB_o (by simp)) ?_
  rintro w_o ⟨_, hB_o, hkk_o⟩
  replace hk_o := hk_o.trans hkk_o (fun q hq h => by have h : q = o := h; omega)
  have hn_b_o : b ≠ o := by have := hB_b.lt; omega
  have hn_r_o : r ≠ o := by have := hB_r.lt; omega
  have hge_o : _ ≤ o := Nat.le_trans hE.size (Nat.le_of_eq hg_o.symm)
  replace hE := hE.ext hk_o
  replace hvs := hvs.ext stable_vr hk_o
  replace hk := hk.ext stable_tm hk_o
  replace hB_b := hk_o.blk hB_b (fun h => h)
  replace hB_r := hk_o.blk hB_r (fun h => h)
  replace hL1 := hL1.ext hk_o
  replace hown := own_keep hown hk_o (fun _ _ h => h)
  obtain ⟨p, hp⟩ : ∃ p, p = spanOf vs t.op t.n l := ⟨_, rfl⟩
  rw [← hp] at hrg hB_o ⊢
  have hso : (rng vs t).isSome = okR p := by rw [hrg]; cases okR p <;> rfl
  have hval : ∀ x, rng vs t = some x → (p.1, p.2) = x := by
   intro x hx
   rw [hrg] at hx
   split at hx
   · exact Option.some.inj hx
   · cases hx
  refine WO.nil (WX.next (WC.seq (WC.draw (fun q => Keep (fun k => k = r) w_o q) [] (by kernel_rfl) (fun wd6 hD0 _ => ?_))))
  have hD : Keep (fun k => k = r) _ _ := hD0.mono (fun _ _ h => h.elim)
  refine WD.take 0 rfl (by kernel_rfl) rfl rfl rfl hD (fun w1 hw1 => R.loadK Tryz.isAgg243 Tryz.sizeOf243 rfl (by rfl) (hw1.blk hB_o (fun h => hn_r_o h.symm)).cells) (WD.takeW 1 rfl (by kernel_rfl) rfl rfl rfl (fun w1 => R.fieldAddr Tryz.runUnderlying243 rfl Tryz.sizeOf3 rfl) (WD.take 2 rfl (by kernel_rfl) rfl rfl rfl hD (fun w1 hw1 => R.load Tryz.isAgg3 rfl ((hw1.blk hB_o (fun h => hn_r_o h.symm)).cells 0 _ rfl)) (WD.takeW 3 rfl (by kernel_rfl) rfl rfl rfl (fun w1 => R.geq rfl rfl) (WD.takeW 4 rfl (by kernel_rfl) rfl rfl rfl (fun w1 => R.move rfl) (WD.splitP (d := 41) rfl (fun g1 => ?_) (fun g1 => ?_))))))
  ·
   have ho : okR p = decide (p.2 ≤ 1048576) := by unfold okR; congr 1; simp; omega
   refine WD.takeG 5 rfl (by kernel_rfl) rfl rfl hD (.inl ⟨fun a ha => wanted_yes ha rfl rfl rfl (dT g1), fun w1 hw1 => R.fieldAddr Tryz.runUnderlying243 rfl Tryz.sizeOf3 rfl⟩) (WD.takeG 6 rfl (by kernel_rfl) rfl rfl hD (.inl ⟨fun a ha => wanted_yes ha rfl rfl rfl (dT g1), fun w1 hw1 => R.load Tryz.isAgg3 rfl ((hw1.blk hB_o (fun h => hn_r_o h.symm)).cells 1 _ rfl)⟩) (WD.takeG 7 rfl (by kernel_rfl) rfl rfl hD (.inl ⟨fun a ha => wanted_yes ha rfl rfl rfl (dT g1), fun w1 hw1 => R.leq rfl rfl⟩) (WD.takeW 8 rfl (by kernel_rfl) rfl rfl rfl (fun w1 => R.pickT rfl (dT g1) rfl) (WD.mem0 9 rfl (by kernel_rfl) rfl rfl (M.storeK Tryz.sizeOf243 rfl rfl rfl rfl (by simp [Value.oneCell']) (hD0.blk hB_r (fun h => h)) (by simp)) ?_))))
   rintro wf ⟨_, hBf, hkf⟩
   refine ⟨fun _ => hD.trans hkf (fun _ _ h => h), ?_⟩
   refine WD.takeW 10 rfl (by kernel_rfl) rfl rfl rfl (fun w1 => R.assign rfl) (WD.done (by kernel_rfl) ?_ _)
   refine WX.next (WC.ret (WX.retCT Tryz.results197 rfl (run_loadK Tryz.isAgg243 Tryz.sizeOf243 rfl hBf.cells) rfl ?_))
   exact ⟨_, rfl, ⟨p.1, p.2, by rw [hso, ho]; rfl, hval⟩, (hE.ext hD0).trans hkf (fun q hq h => by have h : q = r := h; omega)⟩
  ·
   have ho : okR p = false := by unfold okR; exact decide_eq_false (by omega)
   refine WD.takeG (v := undef) 5 rfl (by kernel_rfl) rfl rfl hD (.inr ⟨fun a ha => wanted_no ha rfl rfl rfl (dF g1), rfl⟩) (WD.takeG (v := undef) 6 rfl (by kernel_rfl) rfl rfl hD (.inr ⟨fun a ha => wanted_no ha rfl rfl rfl (dF g1), rfl⟩) (WD.takeG (v := undef) 7 rfl (by kernel_rfl) rfl rfl hD (.inr ⟨fun a ha => wanted_no ha rfl rfl rfl (dF g1), rfl⟩) (WD.takeW 8 rfl (by kernel_rfl) rfl rfl rfl (fun w1 => R.pickF rfl (dF g1) rfl) (WD.mem0 9 rfl (by kernel_rfl) rfl rfl (M.storeK Tryz.sizeOf243 rfl rfl rfl rfl (by simp [Value.oneCell']) (hD0.blk hB_r (fun h => h)) (by simp)) ?_))))
   rintro wf ⟨_, hBf, hkf⟩
   refine ⟨fun _ => hD.trans hkf (fun _ _ h => h), ?_⟩
   refine WD.takeW 10 rfl (by kernel_rfl) rfl rfl rfl (fun w1 => R.assign rfl) (WD.done (by kernel_rfl) ?_ _)
   refine WX.next (WC.ret (WX.retCT Tryz.results197 rfl (run_loadK Tryz.isAgg243 Tryz.sizeOf243 rfl hBf.cells) rfl ?_))
   exact ⟨_, rfl, ⟨p.1, p.2, by rw [hso, ho]; rfl, hval⟩, (hE.ext hD0).trans hkf (fun q hq h => by have h : q = r := h; omega)⟩
theorem refModSpan_ok (a b : Int) (w : World) (ha : -1048576 ≤ a ∧ a ≤ 1048576) (hb : -1048576 ≤ b ∧ b ≤ 1048576) : Calls Tryz.prog 206 #[.int .i64 a, .int .i64 b] w (Ret fun r w' => r = .tuple #[.int .i64 (if a < 0 then min (a + 1) 0 else 0), .int .i64 (if 0 < b then max (b - 1) 0 else 0)] ∧ Ext w w') := by
 have hE := Keep.refl (fun _ => False) w
 refine calls Tryz.func206 rfl [(0, .int .i64 a), (1, .int .i64 b)] 20 ⟨Nat.le_of_ble_eq_true rfl, Tryz.ntmps206⟩ (argsOk (Sub.of rfl)) ?_
 refine WC.sr (WO.a rfl rfl (WO.a rfl rfl (WO.nr (WO.a rfl rfl (WO.a rfl rfl (WO.nil (WX.next (WC.seq (WC.seq (WC.region ?_))))))))))
 refine WO.mv rfl rfl (WO.o rfl (R.lss rfl rfl) (WO.nil (WX.next ?_)))
 refine WC.ite rfl (fun p0 => ?_) (fun p0 => ?_)
 ·
  refine WC.region (WO.mv rfl rfl (WO.o rfl (R.add rfl rfl (wrap_i64_in (by omega))) (WO.call rfl rfl rfl (F.call (vs := [_, _]) Tryz.call118 rfl) (refLeast_ok 0 (a + 1) _) ?_)))
  rintro _ wz1 ⟨rfl, hz1⟩
  replace hE := hE.ext hz1
  refine WO.a rfl rfl (WO.nil (WX.next (WC.seq (WC.seq (WC.region ?_)))))
  refine WO.mv rfl rfl (WO.o rfl (R.gtr rfl rfl) (WO.nil (WX.next ?_)))
  refine WC.ite rfl (fun p1 => ?_) (fun p1 => ?_)
  ·
   refine WC.region (WO.mv rfl rfl (WO.o rfl (R.sub rfl rfl (wrap_i64_in (by omega))) (WO.call rfl rfl rfl (F.call (vs := [_, _]) Tryz.call117 rfl) (refMost_ok 0 (b - 1) _) ?_)))
   rintro _ wz2 ⟨rfl, hz2⟩
   replace hE := hE.ext hz2
   refine WO.a rfl rfl (WO.nr (WO.mv rfl rfl (WO.mv rfl rfl (WO.a rfl rfl (WO.a rfl rfl (WO.nil (WX.next (WC.ret ?_))))))))
   refine WX.ret2 Tryz.results206 rfl rfl ⟨_, rfl, by rw [if_pos p0, if_pos p1, Int.min_comm, Int.max_comm], hE⟩
  ·
   refine WC.ks (WO.mv rfl rfl (WO.mv rfl rfl (WO.a rfl rfl (WO.a rfl rfl (WO.nil (WX.next (WC.ret ?_)))))))
   refine WX.ret2 Tryz.results206 rfl rfl ⟨_, rfl, by rw [if_pos p0, if_neg p1, Int.min_comm], hE⟩
 ·
  refine WC.skip (WX.next (WC.seq (WC.seq (WC.region (WO.mv rfl rfl (WO.o rfl (R.gtr rfl rfl) (WO.nil (WX.next ?_))))))))
  refine WC.ite rfl (fun p1 => ?_) (fun p1 => ?_)
  ·
   refine WC.region (WO.mv rfl rfl (WO.o rfl (R.sub rfl rfl (wrap_i64_in (by omega))) (WO.call rfl rfl rfl (F.call (vs := [_, _]) Tryz.call117 rfl) (refMost_ok 0 (b - 1) _) ?_)))
   rintro _ wz3 ⟨rfl, hz3⟩
   replace hE := hE.ext hz3
   refine WO.a rfl rfl (WO.nr (WO.mv rfl rfl (WO.mv rfl rfl (WO.a rfl rfl (WO.a rfl rfl (WO.nil (WX.next (WC.ret ?_))))))))
   refine WX.ret2 Tryz.results206 rfl rfl ⟨_, rfl, by rw [if_neg p0, if_pos p1, Int.max_comm], hE⟩
  ·
   refine WC.ks (WO.mv rfl rfl (WO.mv rfl rfl (WO.a rfl rfl (WO.a rfl rfl (WO.nil (WX.next (WC.ret ?_)))))))
   refine WX.ret2 Tryz.results206 rfl rfl ⟨_, rfl, by rw [if_neg p0, if_neg p1], hE⟩
theorem mapfst {l : List Rg} {i : Nat} {x : Rg} (h : l[i]? = some x) : (l.map Prod.fst)[i]? = some x.1 := by simp [h]
theorem mapsnd {l : List Rg} {i : Nat} {x : Rg} (h : l[i]? = some x) : (l.map Prod.snd)[i]? = some x.2 := by simp [h]
theorem refSpan_ok (vs : List Vr) (t : Tm) (ks : List Rg) (vv lv hv : Value) (cs : List Value) (Dv D Dl Dh : Nat → Prop) (w : World) (hvs : SlR 5 RVr Dv w vv vs) (ht : RTm D w t cs) (hlo : SlR 1 RInt Dl w lv (ks.map Prod.fst)) (hhi : SlR 1 RInt Dh w hv (ks.map Prod.snd)) (hn : NodeOk vs t.op t.n ks) :
  Calls Tryz.prog 162 #[vv, .agg cs.toArray, lv, hv] w (Ret fun r w' => (∃ a b : Int, r = .tuple #[.int .i64 a, .int .i64 b] ∧ okR (a, b) = okR (spanOf vs t.op t.n ks) ∧ (okR (a, b) = true → (a, b) = spanOf vs t.op t.n ks)) ∧ Ext w w') := by
 obtain ⟨v, rfl, hk⟩ := ht.get
 obtain ⟨av, nv, rfl⟩ := hvs.form
 obtain ⟨al, nl, rfl⟩ := hlo.form
 obtain ⟨ah, nh, rfl⟩ := hhi.form
 rw [List.length_map, List.length_map] at *
 have hmx := hlo.max
 rw [List.length_map] at hmx
 have same : ∀ {a b : Int} {w' : World}, Ext w w' → (a, b) = spanOf vs t.op t.n ks → ∃ v, Ending.returned (.tuple #[.int .i64 a, .int .i64 b]) = .returned v ∧ (∃ a b : Int, v = .tuple #[.int .i64 a, .int .i64 b] ∧ okR (a, b) = okR (spanOf vs t.op t.n ks) ∧ (okR (a, b) = true → (a, b) = spanOf vs t.op t.n ks)) ∧ Ext w w' :=
  fun hk he => ⟨_, rfl, ⟨_, _, rfl, by rw [he], fun _ => he⟩, hk⟩
 have hE := Keep.refl (fun _ => False) w
 refine calls Tryz.func162 rfl [(0, .slice av vs.length nv), (1, .agg #[.int .i64 t.op, .int .i64 t.n, v]), (2, .slice al ks.length nl), (3, .slice ah ks.length nh)] 231 ⟨Nat.le_of_ble_eq_true rfl, Tryz.ntmps162⟩ (argsOk (Sub.of rfl)) ?_
 refine WC.sr (WO.mem rfl rfl rfl (M.box rfl rfl) ?_)
 rintro _ w_b ⟨b, rfl, hg_b, hs_b, hB_b, hk_b⟩
 have hge_b : _ ≤ b := Nat.le_trans hE.size (Nat.le_of_eq hg_b.symm)
 replace hE := hE.ext hk_b
 replace hvs := hvs.ext stable_vr hk_b
 replace hlo := hlo.ext stable_int hk_b
 replace hhi := hhi.ext stable_int hk_b
 refine WO.a rfl rfl (WO.a rfl rfl (WO.nil (WX.next (WC.seq (WC.seq (WC.region ?_))))))
 refine WO.o rfl (R.fieldAddr Tryz.runUnderlying84 rfl Tryz.sizeOf81 rfl) (WO.o rfl (R.load Tryz.isAgg81 rfl (hB_b.cells 0 _ rfl)) (WO.nil (WX.next (WC.block (WC.seq (WC.region ?_))))))
 refine WO.o rfl (R.eql rfl rfl) (WO.a rfl rfl (WO.nil (WX.next ?_)))
 refine WC.ite rfl (fun h0 => ?_) (fun h0 => ?_)
 ·
  have e : spanOf vs t.op t.n ks = (t.n, t.n) := by rw [spanOf, if_pos h0]
  refine WC.seq (WC.seq (WC.region (WO.o rfl (R.fieldAddr Tryz.runUnderlying84 rfl Tryz.sizeOf3 rfl) (WO.o rfl (R.load Tryz.isAgg3 rfl (hB_b.cells 1 _ rfl)) (WO.o rfl (R.lss rfl rfl) (WO.mv rfl rfl (WO.splitP (d := 25) rfl (fun n0 => ?_) (fun n0 => ?_))))))))
  ·
   refine WO.no rfl rfl (dT n0) rfl (WO.no rfl rfl (dT n0) rfl (WO.no rfl rfl (dT n0) rfl (WO.o rfl (R.pickT rfl (dT n0) rfl) (WO.nil (WX.next ?_)))))
   refine WC.tt rfl (rfl) (WC.sr (WO.a rfl rfl (WO.a rfl rfl (WO.nil (WX.next (WC.ret (WX.thenR (WX.blockR (WX.thenR ?_)))))))))
   refine WX.ret2 Tryz.results162 rfl rfl ⟨_, rfl, ⟨_, _, rfl, ?_, fun h => by cases h⟩, hE⟩
   rw [e]; unfold okR; rw [decide_eq_false (by dsimp only; omega), decide_eq_false (by dsimp only; omega)]
  ·
   refine WO.yes rfl rfl (dF n0) (WO.o rfl (R.fieldAddr Tryz.runUnderlying84 rfl Tryz.sizeOf3 rfl) (WO.yes rfl rfl (dF n0) (WO.o rfl (R.load Tryz.isAgg3 rfl (hB_b.cells 1 _ rfl)) (WO.yes rfl rfl (dF n0) (WO.o rfl (R.gtr rfl rfl) (WO.o rfl (R.pickF rfl (dF n0) rfl) (WO.nil (WX.next ?_))))))))
   refine WC.ite rfl (fun n1 => ?_) (fun n1 => ?_)
   ·
    refine WC.sr (WO.a rfl rfl (WO.a rfl rfl (WO.nil (WX.next (WC.ret (WX.thenR (WX.blockR (WX.thenR ?_))))))))
    refine WX.ret2 Tryz.results162 rfl rfl ⟨_, rfl, ⟨_, _, rfl, ?_, fun h => by cases h⟩, hE⟩
    rw [e]; unfold okR; rw [decide_eq_false (by dsimp only; omega), decide_eq_false (by dsimp only; omega)]
   ·
    refine WC.skip (WX.next (WC.seq (WC.quiet (by kernel_rfl) (by kernel_rfl) (WQ.op rfl rfl rfl (fun w1 hw1 => R.fieldAddr Tryz.runUnderlying84 rfl Tryz.sizeOf3 rfl) (WQ.op rfl rfl rfl (fun w1 hw1 => R.load Tryz.isAgg3 rfl ((hw1.blk hB_b (fun h => h)).cells 1 _ rfl)) (WQ.op rfl rfl rfl (fun w1 hw1 => R.fieldAddr Tryz.runUnderlying84 rfl Tryz.sizeOf3 rfl) (WQ.op rfl rfl rfl (fun w1 hw1 => R.load Tryz.isAgg3 rfl ((hw1.blk hB_b (fun h => h)).cells 1 _ rfl)) (WQ.op rfl rfl rfl (fun w1 hw1 => R.assign rfl) (WQ.op rfl rfl rfl (fun w1 hw1 => R.assign rfl) (WQ.nil (fun wz1 hz1 => ?_)))))))))))
    replace hE := hE.ext hz1
    replace hvs := hvs.ext stable_vr hz1
    replace hlo := hlo.ext stable_int hz1
    replace hhi := hhi.ext stable_int hz1
    replace hB_b := hz1.blk hB_b (fun h => h)
    refine WX.next (WC.ret (WX.blockR (WX.thenR (WX.ret2 Tryz.results162 rfl rfl (same hE e.symm)))))
 ·
  refine WC.sr (WO.o rfl (R.eql rfl rfl) (WO.a rfl rfl (WO.nil (WX.next ?_))))
  refine WC.ite rfl (fun h24 => ?_) (fun h24 => ?_)
  ·
   have hv := hn.var h24
   obtain ⟨x, he_x⟩ : ∃ x, vs[t.n.toNat]? = some x := ⟨_, List.getElem?_eq_getElem (by omega)⟩
   have hm_x := List.mem_of_getElem? he_x
   obtain ⟨b_x, o_x, c_x, ha_x, _, hc_x, hR_x⟩ := hvs.at he_x
   have h1_x := RVr.one hR_x
   obtain rfl := hR_x
   have hlt_x : b_x < _ := World.block_lt_of_cell? _ _ (hc_x 0 _ rfl)
   have e : spanOf vs t.op t.n ks = (x.low, x.high) := by rw [spanOf, if_neg h0, if_pos h24, vat_eq he_x]
   refine WC.seq (WC.quiet (by kernel_rfl) (by kernel_rfl) (WQ.op rfl rfl rfl (fun w1 hw1 => R.move rfl) (WQ.op rfl rfl rfl (fun w1 hw1 => R.fieldAddr Tryz.runUnderlying84 rfl Tryz.sizeOf3 rfl) (WQ.op rfl rfl rfl (fun w1 hw1 => R.load Tryz.isAgg3 rfl ((hw1.blk hB_b (fun h => h)).cells 1 _ rfl)) (WQ.op rfl rfl rfl (fun w1 hw1 => R.indexS Tryz.runUnderlying22 Tryz.sizeOf125 rfl rfl ha_x (by omega)) (WQ.op rfl rfl rfl (fun w1 hw1 => R.fieldAddr Tryz.runUnderlying125 rfl Tryz.sizeOf3 rfl) (WQ.op rfl rfl rfl (fun w1 hw1 => R.load Tryz.isAgg3 rfl ((hw1.cells hc_x (fun h => h)) 2 _ rfl)) (WQ.op rfl rfl rfl (fun w1 hw1 => R.move rfl) ?_))))))))
   refine WQ.op rfl rfl rfl (fun w1 hw1 => R.fieldAddr Tryz.runUnderlying84 rfl Tryz.sizeOf3 rfl) (WQ.op rfl rfl rfl (fun w1 hw1 => R.load Tryz.isAgg3 rfl ((hw1.blk hB_b (fun h => h)).cells 1 _ rfl)) (WQ.op rfl rfl rfl (fun w1 hw1 => R.indexS Tryz.runUnderlying22 Tryz.sizeOf125 rfl rfl ha_x (by omega)) (WQ.op rfl rfl rfl (fun w1 hw1 => R.fieldAddr Tryz.runUnderlying125 rfl Tryz.sizeOf3 rfl) (WQ.op rfl rfl rfl (fun w1 hw1 => R.load Tryz.isAgg3 rfl ((hw1.cells hc_x (fun h => h)) 3 _ rfl)) (WQ.op rfl rfl rfl (fun w1 hw1 => R.assign rfl) (WQ.op rfl rfl rfl (fun w1 hw1 => R.assign rfl) (WQ.nil (fun wz2 hz2 => ?_))))))))
   replace hE := hE.ext hz2
   replace hvs := hvs.ext stable_vr hz2
   replace hlo := hlo.ext stable_int hz2
   replace hhi := hhi.ext stable_int hz2
   replace hB_b := hz2.blk hB_b (fun h => h)
   replace hc_x := hz2.cells hc_x (fun h => h)
   refine WX.next (WC.ret (WX.blockR (WX.thenR (WX.ret2 Tryz.results162 rfl rfl (same hE e.symm)))))
  ·
   refine WC.sr (WO.o rfl (R.eql rfl rfl) (WO.a rfl rfl (WO.nil (WX.next ?_))))
   refine WC.ite rfl (fun h6 => ?_) (fun h6 => ?_)
   ·
    have hl := hn.k1 (.inl h6)
    obtain ⟨x, he_x⟩ : ∃ x, ks[0]? = some x := ⟨_, List.getElem?_eq_getElem (by omega)⟩
    have hgx := hn.good x (List.mem_of_getElem? he_x)
    unfold Good at hgx
    obtain ⟨b_xl, o_xl, c_xl, ha_xl, _, hc_xl, hR_xl⟩ := hlo.at (mapfst he_x)
    obtain rfl := hR_xl
    have hlt_xl : b_xl < _ := World.block_lt_of_cell? _ _ (hc_xl 0 _ rfl)
    obtain ⟨b_xh, o_xh, c_xh, ha_xh, _, hc_xh, hR_xh⟩ := hhi.at (mapsnd he_x)
    obtain rfl := hR_xh
    have hlt_xh : b_xh < _ := World.block_lt_of_cell? _ _ (hc_xh 0 _ rfl)
    have e : spanOf vs t.op t.n ks = (-x.2, -x.1) := by rw [spanOf, if_neg h0, if_neg h24, if_pos h6, at2_eq he_x]
    refine WC.seq (WC.quiet (by kernel_rfl) (by kernel_rfl) (WQ.op rfl rfl rfl (fun w1 hw1 => R.move rfl) (WQ.op rfl rfl rfl (fun w1 hw1 => R.indexS Tryz.runUnderlying50 Tryz.sizeOf3 rfl rfl ha_xh (by omega)) (WQ.op rfl rfl rfl (fun w1 hw1 => R.load Tryz.isAgg3 rfl ((hw1.cells hc_xh (fun h => h)) 0 _ rfl)) (WQ.op rfl rfl rfl (fun w1 hw1 => R.neg rfl (wrap_i64_in (by omega))) (WQ.op rfl rfl rfl (fun w1 hw1 => R.move rfl) (WQ.op rfl rfl rfl (fun w1 hw1 => R.indexS Tryz.runUnderlying50 Tryz.sizeOf3 rfl rfl ha_xl (by omega)) (WQ.op rfl rfl rfl (fun w1 hw1 => R.load Tryz.isAgg3 rfl ((hw1.cells hc_xl (fun h => h)) 0 _ rfl)) ?_))))))))
    refine WQ.op rfl rfl rfl (fun w1 hw1 => R.neg rfl (wrap_i64_in (by omega))) (WQ.op rfl rfl rfl (fun w1 hw1 => R.assign rfl) (WQ.op rfl rfl rfl (fun w1 hw1 => R.assign rfl) (WQ.nil (fun wz3 hz3 => ?_))))
    replace hE := hE.ext hz3
    replace hvs := hvs.ext stable_vr hz3
    replace hlo := hlo.ext stable_int hz3
    replace hhi := hhi.ext stable_int hz3
    replace hB_b := hz3.blk hB_b (fun h => h)
    replace hc_xl := hz3.cells hc_xl (fun h => h)
    replace hc_xh := hz3.cells hc_xh (fun h => h)
    refine WX.next (WC.ret (WX.blockR (WX.thenR (WX.ret2 Tryz.results162 rfl rfl (same hE e.symm)))))
   ·
    refine WC.sr (WO.o rfl (R.eql rfl rfl) (WO.a rfl rfl (WO.nil (WX.next ?_))))
    refine WC.ite rfl (fun h8 => ?_) (fun h8 => ?_)
    ·
     have hl := hn.k2 (by omega)
     obtain ⟨x, he_x⟩ : ∃ x, ks[0]? = some x := ⟨_, List.getElem?_eq_getElem (by omega)⟩
     obtain ⟨y, he_y⟩ : ∃ y, ks[1]? = some y := ⟨_, List.getElem?_eq_getElem (by omega)⟩
     have hgx := hn.good x (List.mem_of_getElem? he_x)
     have hgy := hn.good y (List.mem_of_getElem? he_y)
     unfold Good at hgx hgy
     obtain ⟨b_xl, o_xl, c_xl, ha_xl, _, hc_xl, hR_xl⟩ := hlo.at (mapfst he_x)
     obtain rfl := hR_xl
     have hlt_xl : b_xl < _ := World.block_lt_of_cell? _ _ (hc_xl 0 _ rfl)
     obtain ⟨b_xh, o_xh, c_xh, ha_xh, _, hc_xh, hR_xh⟩ := hhi.at (mapsnd he_x)
     obtain rfl := hR_xh
     have hlt_xh : b_xh < _ := World.block_lt_of_cell? _ _ (hc_xh 0 _ rfl)
     obtain ⟨b_yl, o_yl, c_yl, ha_yl, _, hc_yl, hR_yl⟩ := hlo.at (mapfst he_y)
     obtain rfl := hR_yl
     have hlt_yl : b_yl < _ := World.block_lt_of_cell? _ _ (hc_yl 0 _ rfl)
     obtain ⟨b_yh, o_yh, c_yh, ha_yh, _, hc_yh, hR_yh⟩ := hhi.at (mapsnd he_y)
     obtain rfl := hR_yh
     have hlt_yh : b_yh < _ := World.block_lt_of_cell? _ _ (hc_yh 0 _ rfl)
     have e : spanOf vs t.op t.n ks = (x.1 + y.1, x.2 + y.2) := by rw [spanOf, if_neg h0, if_neg h24, if_neg h6, if_pos h8, at2_eq he_x, at2_eq he_y]
     refine WC.seq (WC.quiet (by kernel_rfl) (by kernel_rfl) (WQ.op rfl rfl rfl (fun w1 hw1 => R.move rfl) (WQ.op rfl rfl rfl (fun w1 hw1 => R.indexS Tryz.runUnderlying50 Tryz.sizeOf3 rfl rfl ha_xl (by omega)) (WQ.op rfl rfl rfl (fun w1 hw1 => R.load Tryz.isAgg3 rfl ((hw1.cells hc_xl (fun h => h)) 0 _ rfl)) (WQ.op rfl rfl rfl (fun w1 hw1 => R.move rfl) (WQ.op rfl rfl rfl (fun w1 hw1 => R.indexS Tryz.runUnderlying50 Tryz.sizeOf3 rfl rfl ha_yl (by omega)) (WQ.op rfl rfl rfl (fun w1 hw1 => R.load Tryz.isAgg3 rfl ((hw1.cells hc_yl (fun h => h)) 0 _ rfl)) (WQ.op rfl rfl rfl (fun w1 hw1 => R.add rfl rfl (wrap_i64_in (by omega))) ?_))))))))
     refine WQ.op rfl rfl rfl (fun w1 hw1 => R.move rfl) (WQ.op rfl rfl rfl (fun w1 hw1 => R.indexS Tryz.runUnderlying50 Tryz.sizeOf3 rfl rfl ha_xh (by omega)) (WQ.op rfl rfl rfl (fun w1 hw1 => R.load Tryz.isAgg3 rfl ((hw1.cells hc_xh (fun h => h)) 0 _ rfl)) (WQ.op rfl rfl rfl (fun w1 hw1 => R.move rfl) (WQ.op rfl rfl rfl (fun w1 hw1 => R.indexS Tryz.runUnderlying50 Tryz.sizeOf3 rfl rfl ha_yh (by omega)) (WQ.op rfl rfl rfl (fun w1 hw1 => R.load Tryz.isAgg3 rfl ((hw1.cells hc_yh (fun h => h)) 0 _ rfl)) (WQ.op rfl rfl rfl (fun w1 hw1 => R.add rfl rfl (wrap_i64_in (by omega))) (WQ.op rfl rfl rfl (fun w1 hw1 => R.assign rfl) ?_)))))))
     refine WQ.op rfl rfl rfl (fun w1 hw1 => R.assign rfl) (WQ.nil (fun wz4 hz4 => ?_))
     replace hE := hE.ext hz4
     replace hvs := hvs.ext stable_vr hz4
     replace hlo := hlo.ext stable_int hz4
     replace hhi := hhi.ext stable_int hz4
     replace hB_b := hz4.blk hB_b (fun h => h)
     replace hc_xl := hz4.cells hc_xl (fun h => h)
     replace hc_xh := hz4.cells hc_xh (fun h => h)
     replace hc_yl := hz4.cells hc_yl (fun h => h)
     replace hc_yh := hz4.cells hc_yh (fun h => h)
     refine WX.next (WC.ret (WX.blockR (WX.thenR (WX.ret2 Tryz.results162 rfl rfl (same hE e.symm)))))
    ·
     refine WC.sr (WO.o rfl (R.eql rfl rfl) (WO.a rfl rfl (WO.nil (WX.next ?_))))
     refine WC.ite rfl (fun h9 => ?_) (fun h9 => ?_)
     ·
      have hl := hn.k2 (by omega)
      obtain ⟨x, he_x⟩ : ∃ x, ks[0]? = some x := ⟨_, List.getElem?_eq_getElem (by omega)⟩
      obtain ⟨y, he_y⟩ : ∃ y, ks[1]? = some y := ⟨_, List.getElem?_eq_getElem (by omega)⟩
      have hgx := hn.good x (List.mem_of_getElem? he_x)
      have hgy := hn.good y (List.mem_of_getElem? he_y)
      unfold Good at hgx hgy
      obtain ⟨b_xl, o_xl, c_xl, ha_xl, _, hc_xl, hR_xl⟩ := hlo.at (mapfst he_x)
      obtain rfl := hR_xl
      have hlt_xl : b_xl < _ := World.block_lt_of_cell? _ _ (hc_xl 0 _ rfl)
      obtain ⟨b_xh, o_xh, c_xh, ha_xh, _, hc_xh, hR_xh⟩ := hhi.at (mapsnd he_x)
      obtain rfl := hR_xh
      have hlt_xh : b_xh < _ := World.block_lt_of_cell? _ _ (hc_xh 0 _ rfl)
      obtain ⟨b_yl, o_yl, c_yl, ha_yl, _, hc_yl, hR_yl⟩ := hlo.at (mapfst he_y)
      obtain rfl := hR_yl
      have hlt_yl : b_yl < _ := World.block_lt_of_cell? _ _ (hc_yl 0 _ rfl)
      obtain ⟨b_yh, o_yh, c_yh, ha_yh, _, hc_yh, hR_yh⟩ := hhi.at (mapsnd he_y)
      obtain rfl := hR_yh
      have hlt_yh : b_yh < _ := World.block_lt_of_cell? _ _ (hc_yh 0 _ rfl)
      have e : spanOf vs t.op t.n ks = (x.1 - y.2, x.2 - y.1) := by rw [spanOf, if_neg h0, if_neg h24, if_neg h6, if_neg h8, if_pos h9, at2_eq he_x, at2_eq he_y]
      refine WC.seq (WC.quiet (by kernel_rfl) (by kernel_rfl) (WQ.op rfl rfl rfl (fun w1 hw1 => R.move rfl) (WQ.op rfl rfl rfl (fun w1 hw1 => R.indexS Tryz.runUnderlying50 Tryz.sizeOf3 rfl rfl ha_xl (by omega)) (WQ.op rfl rfl rfl (fun w1 hw1 => R.load Tryz.isAgg3 rfl ((hw1.cells hc_xl (fun h => h)) 0 _ rfl)) (WQ.op rfl rfl rfl (fun w1 hw1 => R.move rfl) (WQ.op rfl rfl rfl (fun w1 hw1 => R.indexS Tryz.runUnderlying50 Tryz.sizeOf3 rfl rfl ha_yh (by omega)) (WQ.op rfl rfl rfl (fun w1 hw1 => R.load Tryz.isAgg3 rfl ((hw1.cells hc_yh (fun h => h)) 0 _ rfl)) (WQ.op rfl rfl rfl (fun w1 hw1 => R.sub rfl rfl (wrap_i64_in (by omega))) ?_))))))))
      refine WQ.op rfl rfl rfl (fun w1 hw1 => R.move rfl) (WQ.op rfl rfl rfl (fun w1 hw1 => R.indexS Tryz.runUnderlying50 Tryz.sizeOf3 rfl rfl ha_xh (by omega)) (WQ.op rfl rfl rfl (fun w1 hw1 => R.load Tryz.isAgg3 rfl ((hw1.cells hc_xh (fun h => h)) 0 _ rfl)) (WQ.op rfl rfl rfl (fun w1 hw1 => R.move rfl) (WQ.op rfl rfl rfl (fun w1 hw1 => R.indexS Tryz.runUnderlying50 Tryz.sizeOf3 rfl rfl ha_yl (by omega)) (WQ.op rfl rfl rfl (fun w1 hw1 => R.load Tryz.isAgg3 rfl ((hw1.cells hc_yl (fun h => h)) 0 _ rfl)) (WQ.op rfl rfl rfl (fun w1 hw1 => R.sub rfl rfl (wrap_i64_in (by omega))) (WQ.op rfl rfl rfl (fun w1 hw1 => R.assign rfl) ?_)))))))
      refine WQ.op rfl rfl rfl (fun w1 hw1 => R.assign rfl) (WQ.nil (fun wz5 hz5 => ?_))
      replace hE := hE.ext hz5
      replace hvs := hvs.ext stable_vr hz5
      replace hlo := hlo.ext stable_int hz5
      replace hhi := hhi.ext stable_int hz5
      replace hB_b := hz5.blk hB_b (fun h => h)
      replace hc_xl := hz5.cells hc_xl (fun h => h)
      replace hc_xh := hz5.cells hc_xh (fun h => h)
      replace hc_yl := hz5.cells hc_yl (fun h => h)
      replace hc_yh := hz5.cells hc_yh (fun h => h)
      refine WX.next (WC.ret (WX.blockR (WX.thenR (WX.ret2 Tryz.results162 rfl rfl (same hE e.symm)))))
     ·
      refine WC.sr (WO.o rfl (R.eql rfl rfl) (WO.a rfl rfl (WO.nil (WX.next ?_))))
      refine WC.ite rfl (fun h10 => ?_) (fun h10 => ?_)
      ·
       have hl := hn.k2 (by omega)
       obtain ⟨x, he_x⟩ : ∃ x, ks[0]? = some x := ⟨_, List.getElem?_eq_getElem (by omega)⟩
       obtain ⟨y, he_y⟩ : ∃ y, ks[1]? = some y := ⟨_, List.getElem?_eq_getElem (by omega)⟩
       have hgx := hn.good x (List.mem_of_getElem? he_x)
       have hgy := hn.good y (List.mem_of_getElem? he_y)
       unfold Good at hgx hgy
       obtain ⟨b_xl, o_xl, c_xl, ha_xl, _, hc_xl, hR_xl⟩ := hlo.at (mapfst he_x)
       obtain rfl := hR_xl
       have hlt_xl : b_xl < _ := World.block_lt_of_cell? _ _ (hc_xl 0 _ rfl)
       obtain ⟨b_xh, o_xh, c_xh, ha_xh, _, hc_xh, hR_xh⟩ := hhi.at (mapsnd he_x)
       obtain rfl := hR_xh
       have hlt_xh : b_xh < _ := World.block_lt_of_cell? _ _ (hc_xh 0 _ rfl)
       obtain ⟨b_yl, o_yl, c_yl, ha_yl, _, hc_yl, hR_yl⟩ := hlo.at (mapfst he_y)
       obtain rfl := hR_yl
       have hlt_yl : b_yl < _ := World.block_lt_of_cell? _ _ (hc_yl 0 _ rfl)
       obtain ⟨b_yh, o_yh, c_yh, ha_yh, _, hc_yh, hR_yh⟩ := hhi.at (mapsnd he_y)
       obtain rfl := hR_yh
       have hlt_yh : b_yh < _ := World.block_lt_of_cell? _ _ (hc_yh 0 _ rfl)
       have e : spanOf vs t.op t.n ks = cornersI x y := by rw [spanOf, if_neg h0, if_neg h24, if_neg h6, if_neg h8, if_neg h9, if_pos h10, at2_eq he_x, at2_eq he_y]
       have m1 := mul_le (x := x.1) (y := y.1) (by omega) (by omega)
       have m2 := mul_le (x := x.1) (y := y.2) (by omega) (by omega)
       have m3 := mul_le (x := x.2) (y := y.1) (by omega) (by omega)
       have m4 := mul_le (x := x.2) (y := y.2) (by omega) (by omega)
       refine WC.seq (WC.quiet (by kernel_rfl) (by kernel_rfl) (WQ.op rfl rfl rfl (fun w1 hw1 => R.move rfl) (WQ.op rfl rfl rfl (fun w1 hw1 => R.indexS Tryz.runUnderlying50 Tryz.sizeOf3 rfl rfl ha_xl (by omega)) (WQ.op rfl rfl rfl (fun w1 hw1 => R.load Tryz.isAgg3 rfl ((hw1.cells hc_xl (fun h => h)) 0 _ rfl)) (WQ.op rfl rfl rfl (fun w1 hw1 => R.move rfl) (WQ.op rfl rfl rfl (fun w1 hw1 => R.indexS Tryz.runUnderlying50 Tryz.sizeOf3 rfl rfl ha_yl (by omega)) (WQ.op rfl rfl rfl (fun w1 hw1 => R.load Tryz.isAgg3 rfl ((hw1.cells hc_yl (fun h => h)) 0 _ rfl)) (WQ.op rfl rfl rfl (fun w1 hw1 => R.mul rfl rfl (wrap_i64_in (by omega))) ?_))))))))
       refine WQ.op rfl rfl rfl (fun w1 hw1 => R.move rfl) (WQ.op rfl rfl rfl (fun w1 hw1 => R.indexS Tryz.runUnderlying50 Tryz.sizeOf3 rfl rfl ha_xl (by omega)) (WQ.op rfl rfl rfl (fun w1 hw1 => R.load Tryz.isAgg3 rfl ((hw1.cells hc_xl (fun h => h)) 0 _ rfl)) (WQ.op rfl rfl rfl (fun w1 hw1 => R.move rfl) (WQ.op rfl rfl rfl (fun w1 hw1 => R.indexS Tryz.runUnderlying50 Tryz.sizeOf3 rfl rfl ha_yh (by omega)) (WQ.op rfl rfl rfl (fun w1 hw1 => R.load Tryz.isAgg3 rfl ((hw1.cells hc_yh (fun h => h)) 0 _ rfl)) (WQ.op rfl rfl rfl (fun w1 hw1 => R.mul rfl rfl (wrap_i64_in (by omega))) (WQ.op rfl rfl rfl (fun w1 hw1 => R.move rfl) ?_)))))))
       refine WQ.op rfl rfl rfl (fun w1 hw1 => R.indexS Tryz.runUnderlying50 Tryz.sizeOf3 rfl rfl ha_xh (by omega)) (WQ.op rfl rfl rfl (fun w1 hw1 => R.load Tryz.isAgg3 rfl ((hw1.cells hc_xh (fun h => h)) 0 _ rfl)) (WQ.op rfl rfl rfl (fun w1 hw1 => R.move rfl) (WQ.op rfl rfl rfl (fun w1 hw1 => R.indexS Tryz.runUnderlying50 Tryz.sizeOf3 rfl rfl ha_yl (by omega)) (WQ.op rfl rfl rfl (fun w1 hw1 => R.load Tryz.isAgg3 rfl ((hw1.cells hc_yl (fun h => h)) 0 _ rfl)) (WQ.op rfl rfl rfl (fun w1 hw1 => R.mul rfl rfl (wrap_i64_in (by omega))) (WQ.op rfl rfl rfl (fun w1 hw1 => R.move rfl) (WQ.op rfl rfl rfl (fun w1 hw1 => R.indexS Tryz.runUnderlying50 Tryz.sizeOf3 rfl rfl ha_xh (by omega)) ?_)))))))
       refine WQ.op rfl rfl rfl (fun w1 hw1 => R.load Tryz.isAgg3 rfl ((hw1.cells hc_xh (fun h => h)) 0 _ rfl)) (WQ.op rfl rfl rfl (fun w1 hw1 => R.move rfl) (WQ.op rfl rfl rfl (fun w1 hw1 => R.indexS Tryz.runUnderlying50 Tryz.sizeOf3 rfl rfl ha_yh (by omega)) (WQ.op rfl rfl rfl (fun w1 hw1 => R.load Tryz.isAgg3 rfl ((hw1.cells hc_yh (fun h => h)) 0 _ rfl)) (WQ.op rfl rfl rfl (fun w1 hw1 => R.mul rfl rfl (wrap_i64_in (by omega))) (WQ.op rfl rfl rfl (fun w1 hw1 => R.assign rfl) (WQ.op rfl rfl rfl (fun w1 hw1 => R.assign rfl) (WQ.op rfl rfl rfl (fun w1 hw1 => R.assign rfl) (WQ.op rfl rfl rfl (fun w1 hw1 => R.assign rfl) ?_))))))))
       refine WQ.nil (fun wz6 hz6 => ?_)
       replace hE := hE.ext hz6
       replace hvs := hvs.ext stable_vr hz6
       replace hlo := hlo.ext stable_int hz6
       replace hhi := hhi.ext stable_int hz6
       replace hB_b := hz6.blk hB_b (fun h => h)
       replace hc_xl := hz6.cells hc_xl (fun h => h)
       replace hc_xh := hz6.cells hc_xh (fun h => h)
       replace hc_yl := hz6.cells hc_yl (fun h => h)
       replace hc_yh := hz6.cells hc_yh (fun h => h)
       refine WX.next (WC.seq (WC.region (WO.mv rfl rfl (WO.mv rfl rfl (WO.call rfl rfl rfl (F.call (vs := [_, _]) Tryz.call118 rfl) (refLeast_ok _ _ _) ?_)))))
       rintro _ wz7 ⟨rfl, hz7⟩
       replace hE := hE.ext hz7
       replace hvs := hvs.ext stable_vr hz7
       replace hlo := hlo.ext stable_int hz7
       replace hhi := hhi.ext stable_int hz7
       replace hB_b := hz7.blk hB_b (fun h => h)
       replace hc_xl := hz7.cells hc_xl (fun h => h)
       replace hc_xh := hz7.cells hc_xh (fun h => h)
       replace hc_yl := hz7.cells hc_yl (fun h => h)
       replace hc_yh := hz7.cells hc_yh (fun h => h)
       refine WO.mv rfl rfl (WO.mv rfl rfl (WO.call rfl rfl rfl (F.call (vs := [_, _]) Tryz.call118 rfl) (refLeast_ok _ _ _) ?_))
       rintro _ wz8 ⟨rfl, hz8⟩
       replace hE := hE.ext hz8
       replace hvs := hvs.ext stable_vr hz8
       replace hlo := hlo.ext stable_int hz8
       replace hhi := hhi.ext stable_int hz8
       replace hB_b := hz8.blk hB_b (fun h => h)
       replace hc_xl := hz8.cells hc_xl (fun h => h)
       replace hc_xh := hz8.cells hc_xh (fun h => h)
       replace hc_yl := hz8.cells hc_yl (fun h => h)
       replace hc_yh := hz8.cells hc_yh (fun h => h)
       refine WO.call rfl rfl rfl (F.call (vs := [_, _]) Tryz.call118 rfl) (refLeast_ok _ _ _) ?_
       rintro _ wz9 ⟨rfl, hz9⟩
       replace hE := hE.ext hz9
       replace hvs := hvs.ext stable_vr hz9
       replace hlo := hlo.ext stable_int hz9
       replace hhi := hhi.ext stable_int hz9
       replace hB_b := hz9.blk hB_b (fun h => h)
       replace hc_xl := hz9.cells hc_xl (fun h => h)
       replace hc_xh := hz9.cells hc_xh (fun h => h)
       replace hc_yl := hz9.cells hc_yl (fun h => h)
       replace hc_yh := hz9.cells hc_yh (fun h => h)
       refine WO.mv rfl rfl (WO.mv rfl rfl (WO.call rfl rfl rfl (F.call (vs := [_, _]) Tryz.call117 rfl) (refMost_ok _ _ _) ?_))
       rintro _ wz10 ⟨rfl, hz10⟩
       replace hE := hE.ext hz10
       replace hvs := hvs.ext stable_vr hz10
       replace hlo := hlo.ext stable_int hz10
       replace hhi := hhi.ext stable_int hz10
       replace hB_b := hz10.blk hB_b (fun h => h)
       replace hc_xl := hz10.cells hc_xl (fun h => h)
       replace hc_xh := hz10.cells hc_xh (fun h => h)
       replace hc_yl := hz10.cells hc_yl (fun h => h)
       replace hc_yh := hz10.cells hc_yh (fun h => h)
       refine WO.mv rfl rfl (WO.mv rfl rfl (WO.call rfl rfl rfl (F.call (vs := [_, _]) Tryz.call117 rfl) (refMost_ok _ _ _) ?_))
       rintro _ wz11 ⟨rfl, hz11⟩
       replace hE := hE.ext hz11
       replace hvs := hvs.ext stable_vr hz11
       replace hlo := hlo.ext stable_int hz11
       replace hhi := hhi.ext stable_int hz11
       replace hB_b := hz11.blk hB_b (fun h => h)
       replace hc_xl := hz11.cells hc_xl (fun h => h)
       replace hc_xh := hz11.cells hc_xh (fun h => h)
       replace hc_yl := hz11.cells hc_yl (fun h => h)
       replace hc_yh := hz11.cells hc_yh (fun h => h)
       refine WO.call rfl rfl rfl (F.call (vs := [_, _]) Tryz.call117 rfl) (refMost_ok _ _ _) ?_
       rintro _ wz12 ⟨rfl, hz12⟩
       replace hE := hE.ext hz12
       replace hvs := hvs.ext stable_vr hz12
       replace hlo := hlo.ext stable_int hz12
       replace hhi := hhi.ext stable_int hz12
       replace hB_b := hz12.blk hB_b (fun h => h)
       replace hc_xl := hz12.cells hc_xl (fun h => h)
       replace hc_xh := hz12.cells hc_xh (fun h => h)
       replace hc_yl := hz12.cells hc_yl (fun h => h)
       replace hc_yh := hz12.cells hc_yh (fun h => h)
       refine WO.a rfl rfl (WO.a rfl rfl (WO.nil (WX.next (WC.ret (WX.blockR (WX.thenR ?_))))))
       refine WX.ret2 Tryz.results162 rfl rfl (same hE ?_)
       rw [e]
       unfold cornersI hullL
       simp only [List.foldl_cons, List.foldl_nil]
       congr 1 <;> omega
      ·
       refine WC.sr (WO.o rfl (R.eql rfl rfl) (WO.a rfl rfl (WO.nil (WX.next ?_))))
       refine WC.ite rfl (fun h11 => ?_) (fun h11 => ?_)
       ·
        have hl := hn.k2 (by omega)
        obtain ⟨x, he_x⟩ : ∃ x, ks[0]? = some x := ⟨_, List.getElem?_eq_getElem (by omega)⟩
        obtain ⟨y, he_y⟩ : ∃ y, ks[1]? = some y := ⟨_, List.getElem?_eq_getElem (by omega)⟩
        have hgx := hn.good x (List.mem_of_getElem? he_x)
        have hgy := hn.good y (List.mem_of_getElem? he_y)
        unfold Good at hgx hgy
        obtain ⟨b_xl, o_xl, c_xl, ha_xl, _, hc_xl, hR_xl⟩ := hlo.at (mapfst he_x)
        obtain rfl := hR_xl
        have hlt_xl : b_xl < _ := World.block_lt_of_cell? _ _ (hc_xl 0 _ rfl)
        obtain ⟨b_xh, o_xh, c_xh, ha_xh, _, hc_xh, hR_xh⟩ := hhi.at (mapsnd he_x)
        obtain rfl := hR_xh
        have hlt_xh : b_xh < _ := World.block_lt_of_cell? _ _ (hc_xh 0 _ rfl)
        obtain ⟨b_yl, o_yl, c_yl, ha_yl, _, hc_yl, hR_yl⟩ := hlo.at (mapfst he_y)
        obtain rfl := hR_yl
        have hlt_yl : b_yl < _ := World.block_lt_of_cell? _ _ (hc_yl 0 _ rfl)
        obtain ⟨b_yh, o_yh, c_yh, ha_yh, _, hc_yh, hR_yh⟩ := hhi.at (mapsnd he_y)
        obtain rfl := hR_yh
        have hlt_yh : b_yh < _ := World.block_lt_of_cell? _ _ (hc_yh 0 _ rfl)
        have e : spanOf vs t.op t.n ks = (if 0 ≤ x.1 ∧ 0 ≤ y.1 then 0 else -(max x.2 (-x.1)), max x.2 (-x.1)) := by rw [spanOf, if_neg h0, if_neg h24, if_neg h6, if_neg h8, if_neg h9, if_neg h10, if_pos h11, at2_eq he_x, at2_eq he_y]
        have hmx2 : 0 ≤ max x.2 (-x.1) ∧ max x.2 (-x.1) ≤ 1048576 := by omega
        have hm : max (if x.1 < 0 then -x.1 else x.1) (if x.2 < 0 then -x.2 else x.2) = max x.2 (-x.1) := by split <;> split <;> omega
        refine WC.seq (WC.draw (fun q => Ext w_b q) [] (by kernel_rfl) (fun wd13 hD _ => ?_))
        refine WD.takeW 0 rfl (by kernel_rfl) rfl rfl rfl (fun w1 => R.move rfl) (WD.takeW 1 rfl (by kernel_rfl) rfl rfl rfl (fun w1 => R.indexS Tryz.runUnderlying50 Tryz.sizeOf3 rfl rfl ha_xl (by omega)) (WD.take 2 rfl (by kernel_rfl) rfl rfl rfl hD (fun w1 hw1 => R.load Tryz.isAgg3 rfl ((hw1.cells hc_xl (fun h => h)) 0 _ rfl)) (WD.takeW 4 rfl (by kernel_rfl) rfl rfl rfl (fun w1 => R.move rfl) (WD.takeW 5 rfl (by kernel_rfl) rfl rfl rfl (fun w1 => R.indexS Tryz.runUnderlying50 Tryz.sizeOf3 rfl rfl ha_xh (by omega)) (WD.take 6 rfl (by kernel_rfl) rfl rfl rfl hD (fun w1 hw1 => R.load Tryz.isAgg3 rfl ((hw1.cells hc_xh (fun h => h)) 0 _ rfl)) ?_)))))
        refine WD.call 3 rfl (by kernel_rfl) rfl rfl rfl (F.call (vs := [_]) Tryz.call205 rfl) (refSize1_ok x.1 _ (by omega)) ?_
        rintro _ wz14 ⟨rfl, hz14⟩
        replace hD := hD.ext hz14
        refine ⟨fun _ => hD, ?_⟩
        refine WD.call 7 rfl (by kernel_rfl) rfl rfl rfl (F.call (vs := [_]) Tryz.call205 rfl) (refSize1_ok x.2 _ (by omega)) ?_
        rintro _ wz15 ⟨rfl, hz15⟩
        replace hD := hD.ext hz15
        refine ⟨fun _ => hD, ?_⟩
        refine WD.call 8 rfl (by kernel_rfl) rfl rfl rfl (F.call (vs := [_, _]) Tryz.call117 rfl) (refMost_ok _ _ _) ?_
        rintro _ wz16 ⟨rfl, hz16⟩
        replace hD := hD.ext hz16
        refine ⟨fun _ => hD, ?_⟩
        rw [hm]
        refine WD.takeW 9 rfl (by kernel_rfl) rfl rfl rfl (fun w1 => R.assign rfl) (WD.done (by kernel_rfl) ?_ _)
        replace hE := hE.ext hD
        replace hvs := hvs.ext stable_vr hD
        replace hlo := hlo.ext stable_int hD
        replace hhi := hhi.ext stable_int hD
        replace hB_b := hD.blk hB_b (fun h => h)
        replace hc_xl := hD.cells hc_xl (fun h => h)
        replace hc_xh := hD.cells hc_xh (fun h => h)
        replace hc_yl := hD.cells hc_yl (fun h => h)
        replace hc_yh := hD.cells hc_yh (fun h => h)
        refine WX.next (WC.seq (WC.seq (WC.region (WO.mv rfl rfl (WO.o rfl (R.indexS Tryz.runUnderlying50 Tryz.sizeOf3 rfl rfl ha_xl (by omega)) (WO.o rfl (R.load Tryz.isAgg3 rfl (hc_xl 0 _ rfl)) (WO.o rfl (R.geq rfl rfl) (WO.mv rfl rfl (WO.splitP (d := 149) rfl (fun p0 => ?_) (fun p0 => ?_))))))))))
        ·
         refine WO.yes rfl rfl (dT p0) (WO.mv rfl rfl (WO.yes rfl rfl (dT p0) (WO.o rfl (R.indexS Tryz.runUnderlying50 Tryz.sizeOf3 rfl rfl ha_yl (by omega)) (WO.yes rfl rfl (dT p0) (WO.o rfl (R.load Tryz.isAgg3 rfl (hc_yl 0 _ rfl)) (WO.yes rfl rfl (dT p0) (WO.o rfl (R.geq rfl rfl) (WO.o rfl (R.pickT rfl (dT p0) rfl) (WO.nil (WX.next ?_))))))))))
         refine WC.ite rfl (fun p1 => ?_) (fun p1 => ?_)
         ·
          refine WC.sr (WO.mv rfl rfl (WO.a rfl rfl (WO.a rfl rfl (WO.nil (WX.next (WC.ret (WX.thenR (WX.blockR (WX.thenR ?_)))))))))
          refine WX.ret2 Tryz.results162 rfl rfl (same hE (by rw [e, if_pos ⟨p0, p1⟩]))
         ·
          refine WC.ks (WO.mv rfl rfl (WO.o rfl (R.neg rfl (wrap_i64_in (by omega))) (WO.mv rfl rfl (WO.a rfl rfl (WO.a rfl rfl (WO.nil (WX.next (WC.ret (WX.blockR (WX.thenR ?_))))))))))
          refine WX.ret2 Tryz.results162 rfl rfl (same hE (by rw [e, if_neg (fun h => p1 h.2)]))
        ·
         refine WO.no rfl rfl (dF p0) rfl (WO.no rfl rfl (dF p0) rfl (WO.no rfl rfl (dF p0) rfl (WO.no rfl rfl (dF p0) rfl (WO.o rfl (R.pickF rfl (dF p0) rfl) (WO.nil (WX.next ?_))))))
         refine WC.ff rfl (rfl) (WC.ks (WO.mv rfl rfl (WO.o rfl (R.neg rfl (wrap_i64_in (by omega))) (WO.mv rfl rfl (WO.a rfl rfl (WO.a rfl rfl (WO.nil (WX.next (WC.ret (WX.blockR (WX.thenR ?_)))))))))))
         refine WX.ret2 Tryz.results162 rfl rfl (same hE (by rw [e, if_neg (fun h => p0 h.1)]))
       ·
        refine WC.sr (WO.o rfl (R.eql rfl rfl) (WO.a rfl rfl (WO.nil (WX.next ?_))))
        refine WC.ite rfl (fun h12 => ?_) (fun h12 => ?_)
        ·
         have hl := hn.k2 (by omega)
         obtain ⟨x, he_x⟩ : ∃ x, ks[0]? = some x := ⟨_, List.getElem?_eq_getElem (by omega)⟩
         obtain ⟨y, he_y⟩ : ∃ y, ks[1]? = some y := ⟨_, List.getElem?_eq_getElem (by omega)⟩
         have hgx := hn.good x (List.mem_of_getElem? he_x)
         have hgy := hn.good y (List.mem_of_getElem? he_y)
         unfold Good at hgx hgy
         obtain ⟨b_xl, o_xl, c_xl, ha_xl, _, hc_xl, hR_xl⟩ := hlo.at (mapfst he_x)
         obtain rfl := hR_xl
         have hlt_xl : b_xl < _ := World.block_lt_of_cell? _ _ (hc_xl 0 _ rfl)
         obtain ⟨b_xh, o_xh, c_xh, ha_xh, _, hc_xh, hR_xh⟩ := hhi.at (mapsnd he_x)
         obtain rfl := hR_xh
         have hlt_xh : b_xh < _ := World.block_lt_of_cell? _ _ (hc_xh 0 _ rfl)
         obtain ⟨b_yl, o_yl, c_yl, ha_yl, _, hc_yl, hR_yl⟩ := hlo.at (mapfst he_y)
         obtain rfl := hR_yl
         have hlt_yl : b_yl < _ := World.block_lt_of_cell? _ _ (hc_yl 0 _ rfl)
         obtain ⟨b_yh, o_yh, c_yh, ha_yh, _, hc_yh, hR_yh⟩ := hhi.at (mapsnd he_y)
         obtain rfl := hR_yh
         have hlt_yh : b_yh < _ := World.block_lt_of_cell? _ _ (hc_yh 0 _ rfl)
         have e : spanOf vs t.op t.n ks = (if y.1 < 0 then min (y.1 + 1) 0 else 0, if 0 < y.2 then max (y.2 - 1) 0 else 0) := by rw [spanOf, if_neg h0, if_neg h24, if_neg h6, if_neg h8, if_neg h9, if_neg h10, if_neg h11, if_pos h12, at2_eq he_y]
         refine WC.seq (WC.draw (fun q => Ext w_b q) [] (by kernel_rfl) (fun wd17 hD _ => ?_))
         refine WD.takeW 0 rfl (by kernel_rfl) rfl rfl rfl (fun w1 => R.move rfl) (WD.takeW 1 rfl (by kernel_rfl) rfl rfl rfl (fun w1 => R.indexS Tryz.runUnderlying50 Tryz.sizeOf3 rfl rfl ha_yl (by omega)) (WD.take 2 rfl (by kernel_rfl) rfl rfl rfl hD (fun w1 hw1 => R.load Tryz.isAgg3 rfl ((hw1.cells hc_yl (fun h => h)) 0 _ rfl)) (WD.takeW 3 rfl (by kernel_rfl) rfl rfl rfl (fun w1 => R.move rfl) (WD.takeW 4 rfl (by kernel_rfl) rfl rfl rfl (fun w1 => R.indexS Tryz.runUnderlying50 Tryz.sizeOf3 rfl rfl ha_yh (by omega)) (WD.take 5 rfl (by kernel_rfl) rfl rfl rfl hD (fun w1 hw1 => R.load Tryz.isAgg3 rfl ((hw1.cells hc_yh (fun h => h)) 0 _ rfl)) ?_)))))
         refine WD.call 6 rfl (by kernel_rfl) rfl rfl rfl (F.call (vs := [_, _]) Tryz.call206 rfl) (refModSpan_ok y.1 y.2 _ (by omega) (by omega)) ?_
         rintro _ wz18 ⟨rfl, hz18⟩
         replace hD := hD.ext hz18
         refine ⟨fun _ => hD, ?_⟩
         refine WD.takeW 7 rfl (by kernel_rfl) rfl rfl rfl (fun w1 => R.extract rfl rfl) (WD.takeW 8 rfl (by kernel_rfl) rfl rfl rfl (fun w1 => R.extract rfl rfl) (WD.takeW 9 rfl (by kernel_rfl) rfl rfl rfl (fun w1 => R.assign rfl) (WD.takeW 10 rfl (by kernel_rfl) rfl rfl rfl (fun w1 => R.assign rfl) (WD.done (by kernel_rfl) ?_ _))))
         replace hE := hE.ext hD
         replace hvs := hvs.ext stable_vr hD
         replace hlo := hlo.ext stable_int hD
         replace hhi := hhi.ext stable_int hD
         replace hB_b := hD.blk hB_b (fun h => h)
         replace hc_xl := hD.cells hc_xl (fun h => h)
         replace hc_xh := hD.cells hc_xh (fun h => h)
         replace hc_yl := hD.cells hc_yl (fun h => h)
         replace hc_yh := hD.cells hc_yh (fun h => h)
         refine WX.next (WC.ret (WX.blockR (WX.thenR (WX.ret2 Tryz.results162 rfl rfl (same hE e.symm)))))
        ·
         refine WC.sr (WO.o rfl (R.eql rfl rfl) (WO.a rfl rfl (WO.nil (WX.next ?_))))
         refine WC.ite rfl (fun h21 => ?_) (fun h21 => ?_)
         ·
          have hl := hn.k2 (by omega)
          obtain ⟨x, he_x⟩ : ∃ x, ks[0]? = some x := ⟨_, List.getElem?_eq_getElem (by omega)⟩
          obtain ⟨y, he_y⟩ : ∃ y, ks[1]? = some y := ⟨_, List.getElem?_eq_getElem (by omega)⟩
          have hgx := hn.good x (List.mem_of_getElem? he_x)
          have hgy := hn.good y (List.mem_of_getElem? he_y)
          unfold Good at hgx hgy
          obtain ⟨b_xl, o_xl, c_xl, ha_xl, _, hc_xl, hR_xl⟩ := hlo.at (mapfst he_x)
          obtain rfl := hR_xl
          have hlt_xl : b_xl < _ := World.block_lt_of_cell? _ _ (hc_xl 0 _ rfl)
          obtain ⟨b_xh, o_xh, c_xh, ha_xh, _, hc_xh, hR_xh⟩ := hhi.at (mapsnd he_x)
          obtain rfl := hR_xh
          have hlt_xh : b_xh < _ := World.block_lt_of_cell? _ _ (hc_xh 0 _ rfl)
          obtain ⟨b_yl, o_yl, c_yl, ha_yl, _, hc_yl, hR_yl⟩ := hlo.at (mapfst he_y)
          obtain rfl := hR_yl
          have hlt_yl : b_yl < _ := World.block_lt_of_cell? _ _ (hc_yl 0 _ rfl)
          obtain ⟨b_yh, o_yh, c_yh, ha_yh, _, hc_yh, hR_yh⟩ := hhi.at (mapsnd he_y)
          obtain rfl := hR_yh
          have hlt_yh : b_yh < _ := World.block_lt_of_cell? _ _ (hc_yh 0 _ rfl)
          have e : spanOf vs t.op t.n ks = (min x.1 y.1, min x.2 y.2) := by rw [spanOf, if_neg h0, if_neg h24, if_neg h6, if_neg h8, if_neg h9, if_neg h10, if_neg h11, if_neg h12, if_pos h21, at2_eq he_x, at2_eq he_y]
          refine WC.seq (WC.draw (fun q => Ext w_b q) [] (by kernel_rfl) (fun wd19 hD _ => ?_))
          refine WD.takeW 0 rfl (by kernel_rfl) rfl rfl rfl (fun w1 => R.move rfl) (WD.takeW 1 rfl (by kernel_rfl) rfl rfl rfl (fun w1 => R.indexS Tryz.runUnderlying50 Tryz.sizeOf3 rfl rfl ha_xl (by omega)) (WD.take 2 rfl (by kernel_rfl) rfl rfl rfl hD (fun w1 hw1 => R.load Tryz.isAgg3 rfl ((hw1.cells hc_xl (fun h => h)) 0 _ rfl)) (WD.takeW 3 rfl (by kernel_rfl) rfl rfl rfl (fun w1 => R.move rfl) (WD.takeW 4 rfl (by kernel_rfl) rfl rfl rfl (fun w1 => R.indexS Tryz.runUnderlying50 Tryz.sizeOf3 rfl rfl ha_yl (by omega)) (WD.take 5 rfl (by kernel_rfl) rfl rfl rfl hD (fun w1 hw1 => R.load Tryz.isAgg3 rfl ((hw1.cells hc_yl (fun h => h)) 0 _ rfl)) ?_)))))
          refine WD.takeW 7 rfl (by kernel_rfl) rfl rfl rfl (fun w1 => R.move rfl) (WD.takeW 8 rfl (by kernel_rfl) rfl rfl rfl (fun w1 => R.indexS Tryz.runUnderlying50 Tryz.sizeOf3 rfl rfl ha_xh (by omega)) (WD.take 9 rfl (by kernel_rfl) rfl rfl rfl hD (fun w1 hw1 => R.load Tryz.isAgg3 rfl ((hw1.cells hc_xh (fun h => h)) 0 _ rfl)) (WD.takeW 10 rfl (by kernel_rfl) rfl rfl rfl (fun w1 => R.move rfl) (WD.takeW 11 rfl (by kernel_rfl) rfl rfl rfl (fun w1 => R.indexS Tryz.runUnderlying50 Tryz.sizeOf3 rfl rfl ha_yh (by omega)) (WD.take 12 rfl (by kernel_rfl) rfl rfl rfl hD (fun w1 hw1 => R.load Tryz.isAgg3 rfl ((hw1.cells hc_yh (fun h => h)) 0 _ rfl)) ?_)))))
          refine WD.call 6 rfl (by kernel_rfl) rfl rfl rfl (F.call (vs := [_, _]) Tryz.call118 rfl) (refLeast_ok _ _ _) ?_
          rintro _ wz20 ⟨rfl, hz20⟩
          replace hD := hD.ext hz20
          refine ⟨fun _ => hD, ?_⟩
          refine WD.call 13 rfl (by kernel_rfl) rfl rfl rfl (F.call (vs := [_, _]) Tryz.call118 rfl) (refLeast_ok _ _ _) ?_
          rintro _ wz21 ⟨rfl, hz21⟩
          replace hD := hD.ext hz21
          refine ⟨fun _ => hD, ?_⟩
          refine WD.takeW 14 rfl (by kernel_rfl) rfl rfl rfl (fun w1 => R.assign rfl) (WD.takeW 15 rfl (by kernel_rfl) rfl rfl rfl (fun w1 => R.assign rfl) (WD.done (by kernel_rfl) ?_ _))
          replace hE := hE.ext hD
          replace hvs := hvs.ext stable_vr hD
          replace hlo := hlo.ext stable_int hD
          replace hhi := hhi.ext stable_int hD
          replace hB_b := hD.blk hB_b (fun h => h)
          replace hc_xl := hD.cells hc_xl (fun h => h)
          replace hc_xh := hD.cells hc_xh (fun h => h)
          replace hc_yl := hD.cells hc_yl (fun h => h)
          replace hc_yh := hD.cells hc_yh (fun h => h)
          refine WX.next (WC.ret (WX.blockR (WX.thenR (WX.ret2 Tryz.results162 rfl rfl (same hE e.symm)))))
         ·
          refine WC.sr (WO.o rfl (R.eql rfl rfl) (WO.a rfl rfl (WO.nil (WX.next ?_))))
          refine WC.ite rfl (fun h22 => ?_) (fun h22 => ?_)
          ·
           have hl := hn.k2 (by omega)
           obtain ⟨x, he_x⟩ : ∃ x, ks[0]? = some x := ⟨_, List.getElem?_eq_getElem (by omega)⟩
           obtain ⟨y, he_y⟩ : ∃ y, ks[1]? = some y := ⟨_, List.getElem?_eq_getElem (by omega)⟩
           have hgx := hn.good x (List.mem_of_getElem? he_x)
           have hgy := hn.good y (List.mem_of_getElem? he_y)
           unfold Good at hgx hgy
           obtain ⟨b_xl, o_xl, c_xl, ha_xl, _, hc_xl, hR_xl⟩ := hlo.at (mapfst he_x)
           obtain rfl := hR_xl
           have hlt_xl : b_xl < _ := World.block_lt_of_cell? _ _ (hc_xl 0 _ rfl)
           obtain ⟨b_xh, o_xh, c_xh, ha_xh, _, hc_xh, hR_xh⟩ := hhi.at (mapsnd he_x)
           obtain rfl := hR_xh
           have hlt_xh : b_xh < _ := World.block_lt_of_cell? _ _ (hc_xh 0 _ rfl)
           obtain ⟨b_yl, o_yl, c_yl, ha_yl, _, hc_yl, hR_yl⟩ := hlo.at (mapfst he_y)
           obtain rfl := hR_yl
           have hlt_yl : b_yl < _ := World.block_lt_of_cell? _ _ (hc_yl 0 _ rfl)
           obtain ⟨b_yh, o_yh, c_yh, ha_yh, _, hc_yh, hR_yh⟩ := hhi.at (mapsnd he_y)
           obtain rfl := hR_yh
           have hlt_yh : b_yh < _ := World.block_lt_of_cell? _ _ (hc_yh 0 _ rfl)
           have e : spanOf vs t.op t.n ks = (max x.1 y.1, max x.2 y.2) := by rw [spanOf, if_neg h0, if_neg h24, if_neg h6, if_neg h8, if_neg h9, if_neg h10, if_neg h11, if_neg h12, if_neg h21, if_pos h22, at2_eq he_x, at2_eq he_y]
           refine WC.seq (WC.draw (fun q => Ext w_b q) [] (by kernel_rfl) (fun wd22 hD _ => ?_))
           refine WD.takeW 0 rfl (by kernel_rfl) rfl rfl rfl (fun w1 => R.move rfl) (WD.takeW 1 rfl (by kernel_rfl) rfl rfl rfl (fun w1 => R.indexS Tryz.runUnderlying50 Tryz.sizeOf3 rfl rfl ha_xl (by omega)) (WD.take 2 rfl (by kernel_rfl) rfl rfl rfl hD (fun w1 hw1 => R.load Tryz.isAgg3 rfl ((hw1.cells hc_xl (fun h => h)) 0 _ rfl)) (WD.takeW 3 rfl (by kernel_rfl) rfl rfl rfl (fun w1 => R.move rfl) (WD.takeW 4 rfl (by kernel_rfl) rfl rfl rfl (fun w1 => R.indexS Tryz.runUnderlying50 Tryz.sizeOf3 rfl rfl ha_yl (by omega)) (WD.take 5 rfl (by kernel_rfl) rfl rfl rfl hD (fun w1 hw1 => R.load Tryz.isAgg3 rfl ((hw1.cells hc_yl (fun h => h)) 0 _ rfl)) ?_)))))
           refine WD.takeW 7 rfl (by kernel_rfl) rfl rfl rfl (fun w1 => R.move rfl) (WD.takeW 8 rfl (by kernel_rfl) rfl rfl rfl (fun w1 => R.indexS Tryz.runUnderlying50 Tryz.sizeOf3 rfl rfl ha_xh (by omega)) (WD.take 9 rfl (by kernel_rfl) rfl rfl rfl hD (fun w1 hw1 => R.load Tryz.isAgg3 rfl ((hw1.cells hc_xh (fun h => h)) 0 _ rfl)) (WD.takeW 10 rfl (by kernel_rfl) rfl rfl rfl (fun w1 => R.move rfl) (WD.takeW 11 rfl (by kernel_rfl) rfl rfl rfl (fun w1 => R.indexS Tryz.runUnderlying50 Tryz.sizeOf3 rfl rfl ha_yh (by omega)) (WD.take 12 rfl (by kernel_rfl) rfl rfl rfl hD (fun w1 hw1 => R.load Tryz.isAgg3 rfl ((hw1.cells hc_yh (fun h => h)) 0 _ rfl)) ?_)))))
           refine WD.call 6 rfl (by kernel_rfl) rfl rfl rfl (F.call (vs := [_, _]) Tryz.call117 rfl) (refMost_ok _ _ _) ?_
           rintro _ wz23 ⟨rfl, hz23⟩
           replace hD := hD.ext hz23
           refine ⟨fun _ => hD, ?_⟩
           refine WD.call 13 rfl (by kernel_rfl) rfl rfl rfl (F.call (vs := [_, _]) Tryz.call117 rfl) (refMost_ok _ _ _) ?_
           rintro _ wz24 ⟨rfl, hz24⟩
           replace hD := hD.ext hz24
           refine ⟨fun _ => hD, ?_⟩
           refine WD.takeW 14 rfl (by kernel_rfl) rfl rfl rfl (fun w1 => R.assign rfl) (WD.takeW 15 rfl (by kernel_rfl) rfl rfl rfl (fun w1 => R.assign rfl) (WD.done (by kernel_rfl) ?_ _))
           replace hE := hE.ext hD
           replace hvs := hvs.ext stable_vr hD
           replace hlo := hlo.ext stable_int hD
           replace hhi := hhi.ext stable_int hD
           replace hB_b := hD.blk hB_b (fun h => h)
           replace hc_xl := hD.cells hc_xl (fun h => h)
           replace hc_xh := hD.cells hc_xh (fun h => h)
           replace hc_yl := hD.cells hc_yl (fun h => h)
           replace hc_yh := hD.cells hc_yh (fun h => h)
           refine WX.next (WC.ret (WX.blockR (WX.thenR (WX.ret2 Tryz.results162 rfl rfl (same hE e.symm)))))
          ·
           have hbase : ¬ (t.op = 23 ∨ t.op = 25) → spanOf vs t.op t.n ks = (0, 1) := fun h => by rw [spanOf, if_neg h0, if_neg h24, if_neg h6, if_neg h8, if_neg h9, if_neg h10, if_neg h11, if_neg h12, if_neg h21, if_neg h22, if_neg h]
           refine WC.seq (WC.seq (WC.region (WO.o rfl (R.eql rfl rfl) (WO.a rfl rfl (WO.nil (WX.next ?_))))))
           refine WC.cut (σ := Bool) (fun p => [(2, .slice al ks.length nl), (3, .slice ah ks.length nh), (202, .bool p)]) (fun p => fun w' => (p = true ↔ t.op = 23 ∨ t.op = 25) ∧ w' = w_b) ?_ ?_
           ·
            refine WC.ite rfl (fun h23 => ?_) (fun h23 => ?_)
            · refine WC.skip (WX.meet (decide (t.op = 23)) (Sub.of rfl) (⟨by simp [h23], rfl⟩))
            · refine WC.region (WO.o rfl (R.eql rfl rfl) (WO.a rfl rfl (WO.nil (WX.meet (decide (t.op = 25)) (Sub.of rfl) (⟨by simp [h23], rfl⟩)))))
           rintro p w2 ⟨hp, hw2⟩
           show WX _ _ _ [(2, .slice al ks.length nl), (3, .slice ah ks.length nh), (202, .bool p)] _
           subst hw2
           refine WX.next (WC.bool rfl (fun p1 => ?_) (fun p1 => ?_))
           ·
            have hl := hn.k3 (hp.1 p1)
            obtain ⟨y, he_y⟩ : ∃ y, ks[1]? = some y := ⟨_, List.getElem?_eq_getElem (by omega)⟩
            have e : spanOf vs t.op t.n ks = hullL y (ks.drop 2) := by rw [spanOf, if_neg h0, if_neg h24, if_neg h6, if_neg h8, if_neg h9, if_neg h10, if_neg h11, if_neg h12, if_neg h21, if_neg h22, if_pos (hp.1 p1), at2_eq he_y]
            obtain ⟨b_yl, o_yl, c_yl, ha_yl, _, hc_yl, hR_yl⟩ := hlo.at (mapfst he_y)
            obtain rfl := hR_yl
            have hlt_yl : b_yl < _ := World.block_lt_of_cell? _ _ (hc_yl 0 _ rfl)
            obtain ⟨b_yh, o_yh, c_yh, ha_yh, _, hc_yh, hR_yh⟩ := hhi.at (mapsnd he_y)
            obtain rfl := hR_yh
            have hlt_yh : b_yh < _ := World.block_lt_of_cell? _ _ (hc_yh 0 _ rfl)
            refine WC.seq (WC.quiet (by kernel_rfl) (by kernel_rfl) (WQ.op rfl rfl rfl (fun w1 hw1 => R.move rfl) (WQ.op rfl rfl rfl (fun w1 hw1 => R.indexS Tryz.runUnderlying50 Tryz.sizeOf3 rfl rfl ha_yl (by omega)) (WQ.op rfl rfl rfl (fun w1 hw1 => R.load Tryz.isAgg3 rfl ((hw1.cells hc_yl (fun h => h)) 0 _ rfl)) (WQ.op rfl rfl rfl (fun w1 hw1 => R.move rfl) (WQ.op rfl rfl rfl (fun w1 hw1 => R.indexS Tryz.runUnderlying50 Tryz.sizeOf3 rfl rfl ha_yh (by omega)) (WQ.op rfl rfl rfl (fun w1 hw1 => R.load Tryz.isAgg3 rfl ((hw1.cells hc_yh (fun h => h)) 0 _ rfl)) (WQ.op rfl rfl rfl (fun w1 hw1 => R.assign rfl) ?_))))))))
            refine WQ.op rfl rfl rfl (fun w1 hw1 => R.assign rfl) (WQ.nil (fun wz25 hz25 => ?_))
            replace hE := hE.ext hz25
            replace hvs := hvs.ext stable_vr hz25
            replace hlo := hlo.ext stable_int hz25
            replace hhi := hhi.ext stable_int hz25
            replace hB_b := hz25.blk hB_b (fun h => h)
            replace hc_yl := hz25.cells hc_yl (fun h => h)
            replace hc_yh := hz25.cells hc_yh (fun h => h)
            refine WX.next (WC.seq (WC.seq (WC.region (WO.a rfl rfl (WO.nil (WX.next (WC.block ?_)))))))
            refine WC.loop (σ := Nat) (fun k => [(2, .slice al ks.length nl), (3, .slice ah ks.length nh), (15, .int .i64 (hullL y ((ks.drop 2).take k)).1), (16, .int .i64 (hullL y ((ks.drop 2).take k)).2), (17, .int .i64 ((k : Int) + 2))]) (fun k => fun w' => k + 2 ≤ ks.length ∧ Ext wz25 w') (fun k => ks.length - k) (0) (Sub.of rfl) (⟨by omega, Keep.refl _ _⟩) ?_
            rintro k w4 ⟨hk2, hL1⟩
            show WC _ _ _ _ [(2, .slice al ks.length nl), (3, .slice ah ks.length nh), (15, .int .i64 (hullL y ((ks.drop 2).take k)).1), (16, .int .i64 (hullL y ((ks.drop 2).take k)).2), (17, .int .i64 ((k : Int) + 2))] _
            replace hE := hE.ext hL1
            replace hvs := hvs.ext stable_vr hL1
            replace hlo := hlo.ext stable_int hL1
            replace hhi := hhi.ext stable_int hL1
            replace hB_b := hL1.blk hB_b (fun h => h)
            replace hc_yl := hL1.cells hc_yl (fun h => h)
            replace hc_yh := hL1.cells hc_yh (fun h => h)
            refine WC.seq (WC.seq (WC.region (WO.mv rfl rfl (WO.mv rfl rfl (WO.o rfl (R.lenS rfl Tryz.runUnderlying50 rfl) (WO.o rfl (R.lss rfl rfl) (WO.nil (WX.next ?_))))))))
            refine WC.ite rfl (fun hlt => ?_) (fun hlt => ?_)
            ·
             obtain ⟨z, he_z⟩ : ∃ z, ks[k + 2]? = some z := ⟨_, List.getElem?_eq_getElem (by omega)⟩
             have he_z2 : (ks.drop 2)[k]? = some z := by rw [List.getElem?_drop, Nat.add_comm]; exact he_z
             obtain ⟨b_zl, o_zl, c_zl, ha_zl, _, hc_zl, hR_zl⟩ := hlo.at (mapfst he_z)
             obtain rfl := hR_zl
             have hlt_zl : b_zl < _ := World.block_lt_of_cell? _ _ (hc_zl 0 _ rfl)
             obtain ⟨b_zh, o_zh, c_zh, ha_zh, _, hc_zh, hR_zh⟩ := hhi.at (mapsnd he_z)
             obtain rfl := hR_zh
             have hlt_zh : b_zh < _ := World.block_lt_of_cell? _ _ (hc_zh 0 _ rfl)
             have hto : ((k : Int) + 2).toNat = k + 2 := by omega
             refine WC.skip (WX.next (WC.seq (WC.block (WC.draw (fun q => Ext w4 q) [] (by kernel_rfl) (fun wd26 hD _ => ?_)))))
             refine WD.takeW 0 rfl (by kernel_rfl) rfl rfl rfl (fun w1 => R.move rfl) (WD.takeW 1 rfl (by kernel_rfl) rfl rfl rfl (fun w1 => R.move rfl) (WD.takeW 2 rfl (by kernel_rfl) rfl rfl rfl (fun w1 => R.move rfl) (WD.takeW 3 rfl (by kernel_rfl) rfl rfl rfl (fun w1 => R.indexS Tryz.runUnderlying50 Tryz.sizeOf3 rfl rfl ha_zl (by omega)) (WD.take 4 rfl (by kernel_rfl) rfl rfl rfl hD (fun w1 hw1 => R.load Tryz.isAgg3 rfl ((hw1.cells hc_zl (fun h => h)) 0 _ rfl)) (WD.takeW 6 rfl (by kernel_rfl) rfl rfl rfl (fun w1 => R.move rfl) (WD.takeW 7 rfl (by kernel_rfl) rfl rfl rfl (fun w1 => R.move rfl) (WD.takeW 8 rfl (by kernel_rfl) rfl rfl rfl (fun w1 => R.move rfl) ?_)))))))
             refine WD.takeW 9 rfl (by kernel_rfl) rfl rfl rfl (fun w1 => R.indexS Tryz.runUnderlying50 Tryz.sizeOf3 rfl rfl ha_zh (by omega)) (WD.take 10 rfl (by kernel_rfl) rfl rfl rfl hD (fun w1 hw1 => R.load Tryz.isAgg3 rfl ((hw1.cells hc_zh (fun h => h)) 0 _ rfl)) (WD.call 5 rfl (by kernel_rfl) rfl rfl rfl (F.call (vs := [_, _]) Tryz.call118 rfl) (refLeast_ok _ _ _) ?_))
             rintro _ wz27 ⟨rfl, hz27⟩
             replace hD := hD.ext hz27
             refine ⟨fun _ => hD, ?_⟩
             refine WD.call 11 rfl (by kernel_rfl) rfl rfl rfl (F.call (vs := [_, _]) Tryz.call117 rfl) (refMost_ok _ _ _) ?_
             rintro _ wz28 ⟨rfl, hz28⟩
             replace hD := hD.ext hz28
             refine ⟨fun _ => hD, ?_⟩
             refine WD.takeW 12 rfl (by kernel_rfl) rfl rfl rfl (fun w1 => R.assign rfl) (WD.takeW 13 rfl (by kernel_rfl) rfl rfl rfl (fun w1 => R.assign rfl) (WD.done (by kernel_rfl) ?_ _))
             replace hE := hE.ext hD
             replace hvs := hvs.ext stable_vr hD
             replace hlo := hlo.ext stable_int hD
             replace hhi := hhi.ext stable_int hD
             replace hB_b := hD.blk hB_b (fun h => h)
             replace hc_yl := hD.cells hc_yl (fun h => h)
             replace hc_yh := hD.cells hc_yh (fun h => h)
             replace hL1 := hL1.ext hD
             replace hc_zl := hD.cells hc_zl (fun h => h)
             replace hc_zh := hD.cells hc_zh (fun h => h)
             refine WX.blockN (WX.next (WC.region (WO.mv rfl rfl (WO.o rfl (R.add rfl rfl (wrap_i64_in (by omega))) (WO.a rfl rfl (WO.nil ?_))))))
             have htk := hullL_take (x := y) he_z2
             refine WX.back (k + 1) (Sub.cons rfl (Sub.cons rfl (Sub.cons (slotI rfl (by rw [htk])) (Sub.cons (slotI rfl (by rw [htk])) (Sub.cons (slotI rfl (by omega)) Sub.nil))))) (⟨by omega, hL1⟩) (by first | omega | (dsimp only; omega))
            ·
             have hkk : k = (ks.drop 2).length := by rw [List.length_drop]; omega
             rw [hkk, List.take_length]
             refine WC.exit (WX.thenE (WX.thenE (WX.hit (WX.next (WC.seq (WC.region (WO.mv rfl rfl (WO.mv rfl rfl (WO.a rfl rfl (WO.a rfl rfl (WO.nil (WX.next (WC.ret (WX.blockR (WX.thenR ?_)))))))))))))))
             refine WX.ret2 Tryz.results162 rfl rfl (same hE (by rw [e]))
           ·
            have e := hbase (fun h => by rw [hp.2 h] at p1; cases p1)
            refine WC.skip (WX.blockN (WX.next (WC.seq (WC.region (WO.a rfl rfl (WO.a rfl rfl (WO.nil (WX.next (WC.ret ?_)))))))))
            refine WX.ret2 Tryz.results162 rfl rfl (same hE e.symm)
open Go.GL
def encI (x : Int) : List Value := [.int .i64 x]
theorem encI_len (x : Int) : (encI x).length = 1 := rfl
theorem encI_one (x : Int) : ∀ u ∈ encI x, u.oneCell' = true := by simp [encI, Value.oneCell']
theorem mapI (l : List Int) : l.map (Value.int .i64) = l.flatMap encI := map_flat l
end Go.Proofs.YtldhllpogdikdaaGreat
