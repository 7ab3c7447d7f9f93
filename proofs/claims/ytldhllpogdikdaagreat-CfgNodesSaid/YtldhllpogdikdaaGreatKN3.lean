/-
  Contracts and the mathematics that the proof needs. Nothing here is a claim.
-/
import Derived.Test.YtldhllpogdikdaaGreatKN2
namespace Go.Proofs.YtldhllpogdikdaaGreat
open Go.GL
theorem refRange_ok (vs : List Vr) (inp : Bool) (vv : Value) (Dv : Nat → Prop) (hvb : ∀ v ∈ vs, Good (v.low, v.high)) (t : Tm) : ∀ (cs : List Value) (D : Nat → Prop) (w : World), SlR 5 RVr Dv w vv vs → RTm D w t cs → formedT vs inp t = true → t.nodes ≤ 1000000 →
  Calls Tryz.prog 115 #[vv, .agg cs.toArray] w (Ret fun r w' => (∃ a b : Int, r = .tuple #[.int .i64 a, .int .i64 b, .bool (rng vs t).isSome] ∧ ∀ x, rng vs t = some x → (a, b) = x) ∧ Ext w w') := by
 induction t using Tm.ind with
 | h t ih =>
 intro cs D w hvs ht hf hsz
 rw [formedT_eq, Bool.and_eq_true, Bool.and_eq_true] at hf
 have hlen := tlen_le t.kids
 have hse := t.nodes_eq
 obtain ⟨v, rfl, hk⟩ := ht.get
 obtain ⟨ao, cap, rfl⟩ := hk.form
 obtain ⟨av, nv, rfl⟩ := hvs.form
 have hE := Keep.refl (fun _ => False) w
 refine calls Tryz.func115 rfl [(0, .slice av vs.length nv), (1, .agg #[.int .i64 t.op, .int .i64 t.n, .slice ao t.kids.length cap])] 61 ⟨Nat.le_of_ble_eq_true rfl, Tryz.ntmps115⟩ (argsOk (Sub.of rfl)) ?_
 refine WC.sr (WO.mem rfl rfl rfl (M.box rfl rfl) ?_)
 rintro _ w_b ⟨b, rfl, hg_b, hs_b, hB_b, hk_b⟩
 have hge_b : _ ≤ b := Nat.le_trans hE.size (Nat.le_of_eq hg_b.symm)
 replace hE := hE.ext hk_b
 replace hvs := hvs.ext stable_vr hk_b
 replace hk := hk.ext stable_tm hk_b
 refine WO.a rfl rfl (WO.a rfl rfl (WO.a rfl rfl (WO.nr (WO.mem rfl rfl rfl (M.buildSlice0 Tryz.runUnderlying50 Tryz.sizeOf3) ?_))))
 rintro _ wl ⟨bl, rfl, hbl, hsl_, hBl, hkl⟩
 refine WO.a rfl rfl (WO.nr (WO.mem rfl rfl rfl (M.buildSlice0 Tryz.runUnderlying50 Tryz.sizeOf3) ?_))
 rintro _ wh ⟨bh, rfl, hbh, hsh, hBh, hkh⟩
 have hol : wh.ownsRow 0 3 1 (.slice (some ⟨bl, 0, none⟩) 0 0) 0 (([] : List Int).flatMap encI) := own_blk (hkh.blk hBl (fun h => h)) (Nat.le_refl _) (by omega) rfl
 have hoh : wh.ownsRow 0 3 1 (.slice (some ⟨bh, 0, none⟩) 0 0) 0 (([] : List Int).flatMap encI) := own_blk hBh (Nat.le_refl _) (by omega) rfl
 have hbllt := hBl.lt
 refine WO.a rfl rfl (WO.nil (WX.next (WC.seq (WC.seq (WC.region ?_)))))
 refine WO.a rfl rfl (WO.nil (WX.next (WC.block ?_)))
 refine WC.loop (σ := Nat × List Rg × Value × Value) (fun ⟨i, l, vl, vh⟩ => [(0, .slice av vs.length nv), (3, .pointer (some ⟨b, 0, none⟩)), (7, vl), (8, vh), (9, .int .i64 i)]) (fun ⟨i, l, vl, vh⟩ => fun w' => i ≤ t.kids.length ∧ rngL vs (t.kids.take i) = some l ∧ w'.ownsRow 0 3 1 vl l.length ((l.map Prod.fst).flatMap encI) ∧ w'.ownsRow 0 3 1 vh l.length ((l.map Prod.snd).flatMap encI) ∧ (∀ q, vl.ownBlock = some q → w_b.heap.size ≤ q) ∧ (∀ q, vh.ownBlock = some q → w_b.heap.size ≤ q ∧ vl.ownBlock ≠ some q) ∧ Ext w_b w') (fun ⟨i, l, vl, vh⟩ => t.kids.length - i) ((0, [], .slice (some ⟨bl, 0, none⟩) 0 0, .slice (some ⟨bh, 0, none⟩) 0 0)) (Sub.of rfl) (⟨Nat.zero_le _, rfl, hol, hoh, fun q hq => by simp [Value.ownBlock] at hq; omega, fun q hq => by simp [Value.ownBlock] at hq ⊢; omega, hkl.ext hkh⟩) ?_
 rintro ⟨i, l, vl, vh⟩ w1 ⟨hi, hl, hol, hoh, hfl, hfh, hL⟩
 show WC _ _ _ _ [(0, .slice av vs.length nv), (3, .pointer (some ⟨b, 0, none⟩)), (7, vl), (8, vh), (9, .int .i64 i)] _
 replace hE := hE.ext hL
 replace hvs := hvs.ext stable_vr hL
 replace hk := hk.ext stable_tm hL
 replace hB_b := hL.blk hB_b (fun h => h)
 refine WC.seq (WC.seq (WC.region (WO.mv rfl rfl (WO.o rfl (R.fieldAddr Tryz.runUnderlying84 rfl Tryz.sizeOf82 rfl) (WO.o rfl (R.load Tryz.isAgg82 rfl (hB_b.cells 2 _ rfl)) (WO.o rfl (R.lenS rfl Tryz.runUnderlying82 rfl) (WO.o rfl (R.lss rfl rfl) (WO.nil (WX.next ?_)))))))))
 refine WC.ite rfl (fun hlt => ?_) (fun hlt => ?_)
 ·
  obtain ⟨k, he_k⟩ : ∃ x, t.kids[i]? = some x := ⟨_, List.getElem?_eq_getElem (by omega)⟩
  have hm_k := List.mem_of_getElem? he_k
  obtain ⟨b_k, o_k, c_k, ha_k, _, hc_k, hR_k⟩ := hk.at he_k
  have h1_k := RTm.one hR_k
  obtain ⟨v1_k, rfl, hk_k⟩ := hR_k.get
  obtain ⟨a1_k, n1_k, rfl⟩ := hk_k.form
  have hlt_k : b_k < _ := World.block_lt_of_cell? _ _ (hc_k 0 _ rfl)
  have hsp := tnodes_split he_k
  have hll := rngL_len _ _ hl
  rw [List.length_take] at hll
  refine WC.skip (WX.next (WC.seq (WC.block (WC.seq (WC.region (WO.mv rfl rfl (WO.o rfl (R.fieldAddr Tryz.runUnderlying84 rfl Tryz.sizeOf82 rfl) (WO.o rfl (R.load Tryz.isAgg82 rfl (hB_b.cells 2 _ rfl)) (WO.mv rfl rfl (WO.o rfl (R.indexS Tryz.runUnderlying82 Tryz.sizeOf84 rfl rfl ha_k (by omega)) (WO.o rfl (R.loadK Tryz.isAgg84 Tryz.sizeOf84 rfl (by rfl) hc_k) (WO.call rfl rfl rfl (F.call (vs := [_, _]) Tryz.call115 rfl) (ih k hm_k _ D _ hvs (RTm.put hk_k) (formedL_mem hf.2 hm_k) (by omega)) ?_))))))))))))
  rintro _ wz1 ⟨⟨ka, kb, rfl, hval⟩, hz1⟩
  replace hE := hE.ext hz1
  replace hvs := hvs.ext stable_vr hz1
  replace hk := hk.ext stable_tm hz1
  replace hB_b := hz1.blk hB_b (fun h => h)
  replace hL := hL.ext hz1
  replace hol := own_keep hol hz1 (fun _ _ h => h)
  replace hoh := own_keep hoh hz1 (fun _ _ h => h)
  replace hc_k := hz1.cells hc_k (fun h => h)
  replace hk_k := hk_k.ext stable_tm hz1
  refine WO.mv rfl rfl (WO.o rfl (R.extract rfl rfl) (WO.o rfl (R.extract rfl rfl) (WO.o rfl (R.extract rfl rfl) (WO.a rfl rfl (WO.a rfl rfl (WO.a rfl rfl (WO.nil (WX.next (WC.seq (WC.seq (WC.region ?_)))))))))))
  refine WO.mv rfl rfl (WO.o rfl (R.notU rfl (by first | exact not_decide_eq | rfl)) (WO.nil (WX.next ?_)))
  refine WC.bool rfl (fun hb => ?_) (fun hb => ?_)
  ·
   have hb' : rng vs k = none := by cases h : rng vs k <;> simp [h] at hb ⊢
   have hnone : rng vs t = none := by rw [rng_eq, rngL_none he_k hb']; rfl
   refine WC.sr (WO.a rfl rfl (WO.a rfl rfl (WO.a rfl rfl (WO.nil (WX.next (WC.ret (WX.thenR (WX.blockR (WX.thenR (WX.thenR (WX.blockR (WX.thenR ?_))))))))))))
   refine WX.ret3 Tryz.results115 rfl rfl rfl ⟨_, rfl, ⟨0, 0, by rw [hnone]; rfl, fun x hx => by rw [hnone] at hx; cases hx⟩, hE⟩
  ·
   obtain ⟨x, hx⟩ : ∃ x, rng vs k = some x := by cases h : rng vs k with
    | none => simp [h] at hb
    | some x => exact ⟨x, rfl⟩
   have hxv := hval x hx
   subst hxv
   refine WC.ks (WO.mv rfl rfl (WO.mv rfl rfl (WO.mem rfl rfl rfl (M.buildSlice (cs := encI ka) [(0, _)] Tryz.runUnderlying50 Tryz.sizeOf3 Tryz.zeroValue3 (by decide) rfl (by kernel_rfl)) ?_)))
   rintro _ w5 ⟨b5, rfl, hg_b5, hs_b5, hB_b5, hk_b5⟩
   replace hE := hE.ext hk_b5
   replace hvs := hvs.ext stable_vr hk_b5
   replace hk := hk.ext stable_tm hk_b5
   replace hB_b := hk_b5.blk hB_b (fun h => h)
   replace hL := hL.ext hk_b5
   replace hol := own_keep hol hk_b5 (fun _ _ h => h)
   replace hoh := own_keep hoh hk_b5 (fun _ _ h => h)
   replace hc_k := hk_b5.cells hc_k (fun h => h)
   replace hk_k := hk_k.ext stable_tm hk_b5
   refine WO.mem rfl rfl rfl (M.append Tryz.underlying50 Tryz.el3 rfl (by decide) rfl rfl hol rfl (Cells.add hB_b5.cells) (encI_one _) (by omega) (by omega)) ?_
   rintro vl' w6 ⟨hown6, hfr6, hk6, _⟩
   refine WO.a rfl rfl (WO.nil (WX.next (WC.region ?_)))
   refine WO.mv rfl rfl (WO.mv rfl rfl (WO.mem rfl rfl rfl (M.buildSlice (cs := encI kb) [(0, _)] Tryz.runUnderlying50 Tryz.sizeOf3 Tryz.zeroValue3 (by decide) rfl (by kernel_rfl)) ?_))
   rintro _ w7 ⟨b7, rfl, hg_b7, hs_b7, hB_b7, hk_b7⟩
   have hoh7 := own_keep (own_keep hoh hk6 (fun q hq h => (hfh q hq).2 h)) hk_b7 (fun _ _ h => h)
   refine WO.mem rfl rfl rfl (M.append Tryz.underlying50 Tryz.el3 rfl (by decide) rfl rfl hoh7 rfl (Cells.add hB_b7.cells) (encI_one _) (by omega) (by omega)) ?_
   rintro vh' w8 ⟨hown8, hfr8, hk8, _⟩
   have hszL := hL.size
   have hsz6 := hk6.size
   have hsz7 := hk_b7.size
   have hfl' : ∀ q, vl'.ownBlock = some q → w_b.heap.size ≤ q ∧ vh.ownBlock ≠ some q ∧ q < w6.heap.size := by
    intro q hq
    refine ⟨?_, ?_, own_lt hown6 hq⟩
    ·
     rcases hfr6 with h | ⟨q', h, h'⟩
     · exact hfl q (by rw [← h]; exact hq)
     · rw [h] at hq; cases hq; omega
    ·
     intro h0
     have := own_lt hoh h0
     rcases hfr6 with h | ⟨q', h, h'⟩
     · exact (hfh q h0).2 (by rw [← h]; exact hq)
     · rw [h] at hq; cases hq; omega
   have hE8 : Ext w_b w8 := ((hL.trans hk6 (fun q hq h => by have := hfl q h; omega)).ext hk_b7).trans hk8 (fun q hq h => by have := (hfh q h).1; omega)
   refine WO.a rfl rfl (WO.nil (WX.blockN (WX.next (WC.region ?_))))
   refine WO.mv rfl rfl (WO.o rfl (R.add rfl rfl (wrap_i64_in (by omega))) (WO.a rfl rfl (WO.nil (WX.back ((i + 1, l ++ [(ka, kb)], vl', vh')) (Sub.of rfl) (⟨by omega, rngL_take he_k hl hx, ?_, ?_, fun q hq => (hfl' q hq).1, ?_, hE8⟩) (by first | omega | (dsimp only; omega))))))
   ·
    rw [List.length_append, List.map_append, List.flatMap_append]
    exact own_keep (own_keep hown6 hk_b7 (fun _ _ h => h)) hk8 (fun q hq h => (hfl' q hq).2.1 h)
   ·
    rw [List.length_append, List.map_append, List.flatMap_append]
    exact hown8
   ·
    intro q hq
    rcases hfr8 with h | ⟨q', h, h'⟩
    ·
     have hq' : vh.ownBlock = some q := by rw [← h]; exact hq
     refine ⟨(hfh q hq').1, fun h0 => (hfl' q h0).2.1 hq'⟩
    ·
     rw [h] at hq
     cases hq
     exact ⟨by omega, fun h0 => by have := (hfl' _ h0).2.2; omega⟩
 ·
  have hii : i = t.kids.length := by omega
  subst hii
  rw [List.take_length] at hl
  have hll := rngL_len _ _ hl
  have hsl : SlR 1 RInt (fun _ => True) w1 vl (l.map Prod.fst) := SlR.ofRowK (by omega) encI encI_len (fun x _ => rfl) hol (fun _ _ => trivial)
  have hsh : SlR 1 RInt (fun _ => True) w1 vh (l.map Prod.snd) := SlR.ofRowK (by omega) encI encI_len (fun x _ => rfl) hoh (fun _ _ => trivial)
  have hn : NodeOk vs t.op t.n l := nodeOk_of hll hf.1.1 hf.1.2 (fun x hx => by
   obtain ⟨k, hk, hkx⟩ := rngL_mem _ _ hl x hx
   exact rng_good hvb k (formedL_mem hf.2 hk) x hkx) hvb
  have hrg : rng vs t = if okR (spanOf vs t.op t.n l) then some (spanOf vs t.op t.n l) else none := by rw [rng_eq, hl]; rfl
  refine WC.exit (WX.thenE (WX.thenE (WX.hit (WX.next (WC.seq (WC.region (WO.mv rfl rfl (WO.o rfl (R.loadK Tryz.isAgg84 Tryz.sizeOf84 rfl (by rfl) hB_b.cells) (WO.mv rfl rfl (WO.mv rfl rfl (WO.call rfl rfl rfl (F.call (vs := [_, _, _, _]) Tryz.call162 rfl) (refSpan_ok vs t l _ vl vh _ Dv D (fun _ => True) (fun _ => True) _ hvs (RTm.put hk) hsl hsh hn) ?_)))))))))))
  rintro _ wz2 ⟨⟨a, c, rfl, hok, hval⟩, hz2⟩
  replace hE := hE.ext hz2
  replace hvs := hvs.ext stable_vr hz2
  replace hk := hk.ext stable_tm hz2
  replace hB_b := hz2.blk hB_b (fun h => h)
  replace hL := hL.ext hz2
  replace hol := own_keep hol hz2 (fun _ _ h => h)
  replace hoh := own_keep hoh hz2 (fun _ _ h => h)
  have hso : (rng vs t).isSome = okR (a, c) := by rw [hrg, hok]; cases okR (spanOf vs t.op t.n l) <;> rfl
  have hvv : ∀ x, rng vs t = some x → (a, c) = x := by
   intro x hx
   have h1 : okR (a, c) = true := by rw [← hso, hx]; rfl
   rw [hrg, ← hok, h1, if_pos rfl] at hx
   rw [hval h1]
   exact Option.some.inj hx
  refine WO.mv rfl rfl (WO.o rfl (R.extract rfl rfl) (WO.o rfl (R.extract rfl rfl) (WO.a rfl rfl (WO.a rfl rfl (WO.nr (WO.mv rfl rfl (WO.mv rfl rfl (WO.mv rfl rfl (WO.o rfl (R.geq rfl rfl) (WO.mv rfl rfl (WO.splitP (d := 57) rfl (fun g1 => ?_) (fun g1 => ?_))))))))))))
  ·
   have ho : okR (a, c) = decide (c ≤ 1048576) := by unfold okR; congr 1; simp; omega
   refine WO.yes rfl rfl (dT g1) (WO.mv rfl rfl (WO.yes rfl rfl (dT g1) (WO.o rfl (R.leq rfl rfl) (WO.o rfl (R.pickT rfl (dT g1) rfl) (WO.a rfl rfl (WO.a rfl rfl (WO.a rfl rfl (WO.nil (WX.next (WC.ret ?_))))))))))
   refine WX.ret3 Tryz.results115 rfl rfl rfl ⟨_, rfl, ⟨a, c, by rw [hso, ho] <;> rfl, hvv⟩, hE⟩
  ·
   have ho : okR (a, c) = false := by unfold okR; exact decide_eq_false (by dsimp only; omega)
   refine WO.no rfl rfl (dF g1) rfl (WO.no rfl rfl (dF g1) rfl (WO.o rfl (R.pickF rfl (dF g1) rfl) (WO.a rfl rfl (WO.a rfl rfl (WO.a rfl rfl (WO.nil (WX.next (WC.ret ?_))))))))
   refine WX.ret3 Tryz.results115 rfl rfl rfl ⟨_, rfl, ⟨a, c, by rw [hso, ho] <;> rfl, hvv⟩, hE⟩
def termCodeN (vs : List Vr) (inp : Bool) (t : Tm) : Int := if formedT vs inp t then (if (rng vs t).isSome then 0 else 3) else 1
theorem refCheckTerm_ok (vs : List Vr) (inp : Bool) (vv : Value) (cs : List Value) (Dv D : Nat → Prop) (w : World) (t : Tm) (hvb : ∀ v ∈ vs, Good (v.low, v.high)) (hvs : SlR 5 RVr Dv w vv vs) (ht : RTm D w t cs) (hsz : t.nodes ≤ 1000000) : Calls Tryz.prog 65 #[vv, .agg cs.toArray, .bool inp] w (Ret fun r w' => r = .int .i64 (termCodeN vs inp t) ∧ Ext w w') := by
 obtain ⟨v, rfl, hk⟩ := ht.get
 have hE := Keep.refl (fun _ => False) w
 refine calls Tryz.func65 rfl [(0, vv), (1, .agg #[.int .i64 t.op, .int .i64 t.n, v]), (2, .bool inp)] 24 ⟨Nat.le_of_ble_eq_true rfl, Tryz.ntmps65⟩ (argsOk (Sub.of rfl)) ?_
 refine WC.sr (WO.mem rfl rfl rfl (M.box rfl rfl) ?_)
 rintro _ w_b ⟨b, rfl, hg_b, hs_b, hB_b, hk_b⟩
 have hge_b : _ ≤ b := Nat.le_trans hE.size (Nat.le_of_eq hg_b.symm)
 replace hE := hE.ext hk_b
 replace hvs := hvs.ext stable_vr hk_b
 replace hk := hk.ext stable_tm hk_b
 refine WO.a rfl rfl (WO.nil (WX.next (WC.seq (WC.seq (WC.region ?_)))))
 refine WO.mv rfl rfl (WO.o rfl (R.loadK Tryz.isAgg84 Tryz.sizeOf84 rfl (by rfl) hB_b.cells) (WO.mv rfl rfl (WO.call rfl rfl rfl (F.call (vs := [_, _, _]) Tryz.call114 rfl) (refFormed_ok vs inp vv Dv t _ D _ hvs (RTm.put hk)) ?_)))
 rintro _ wz1 ⟨rfl, hz1⟩
 replace hE := hE.ext hz1
 replace hvs := hvs.ext stable_vr hz1
 replace hk := hk.ext stable_tm hz1
 replace hB_b := hz1.blk hB_b (fun h => h)
 refine WO.o rfl (R.notU rfl (by first | exact not_decide_eq | rfl)) (WO.nil (WX.next ?_))
 refine WC.bool rfl (fun hf => ?_) (fun hf => ?_)
 ·
  have hf' : formedT vs inp t = false := by simpa using hf
  refine WC.sr (WO.a rfl rfl (WO.nil (WX.next (WC.ret (WX.thenR ?_)))))
  refine WX.ret1 Tryz.results65 rfl ⟨_, rfl, by rw [termCodeN, hf']; rfl, hE⟩
 ·
  have hf' : formedT vs inp t = true := by simpa using hf
  refine WC.ks (WO.mv rfl rfl (WO.o rfl (R.loadK Tryz.isAgg84 Tryz.sizeOf84 rfl (by rfl) hB_b.cells) (WO.call rfl rfl rfl (F.call (vs := [_, _]) Tryz.call115 rfl) (refRange_ok vs inp vv Dv hvb t _ D _ hvs (RTm.put hk) hf' hsz) ?_)))
  rintro _ wz2 ⟨⟨a, c, rfl, _⟩, hz2⟩
  replace hE := hE.ext hz2
  replace hvs := hvs.ext stable_vr hz2
  replace hk := hk.ext stable_tm hz2
  replace hB_b := hz2.blk hB_b (fun h => h)
  refine WO.mv rfl rfl (WO.o rfl (R.extract rfl rfl) (WO.o rfl (R.extract rfl rfl) (WO.o rfl (R.extract rfl rfl) (WO.a rfl rfl (WO.a rfl rfl (WO.a rfl rfl (WO.nil (WX.next (WC.seq (WC.seq (WC.region ?_)))))))))))
  refine WO.mv rfl rfl (WO.o rfl (R.notU rfl (by first | exact not_decide_eq | rfl)) (WO.nil (WX.next ?_)))
  refine WC.bool rfl (fun ho => ?_) (fun ho => ?_)
  ·
   have ho' : (rng vs t).isSome = false := by simpa using ho
   refine WC.sr (WO.a rfl rfl (WO.nil (WX.next (WC.ret (WX.thenR ?_)))))
   refine WX.ret1 Tryz.results65 rfl ⟨_, rfl, by rw [termCodeN, hf', ho']; rfl, hE⟩
  ·
   have ho' : (rng vs t).isSome = true := by simpa using ho
   refine WC.ks (WO.a rfl rfl (WO.nil (WX.next (WC.ret ?_))))
   refine WX.ret1 Tryz.results65 rfl ⟨_, rfl, by rw [termCodeN, hf', ho']; rfl, hE⟩
theorem termCode_ok (vs : List Vr) (inp : Bool) (vv : Value) (cs : List Value) (Dv D : Nat → Prop) (w : World) (t : Tm) (hvb : ∀ v ∈ vs, Good (v.low, v.high)) (hvs : SlR 5 RVr Dv w vv vs) (ht : RTm D w t cs) (hsz : t.nodes ≤ 1000000) : Calls Tryz.prog 156 #[vv, .agg cs.toArray, .bool inp] w (Ret fun r w' => r = .int .i64 (termCodeN vs inp t) ∧ Ext w w') := by
 obtain ⟨v, rfl, hk⟩ := ht.get
 have hE := Keep.refl (fun _ => False) w
 refine calls Tryz.func156 rfl [(0, vv), (1, .agg #[.int .i64 t.op, .int .i64 t.n, v]), (2, .bool inp)] 22 ⟨Nat.le_of_ble_eq_true rfl, Tryz.ntmps156⟩ (argsOk (Sub.of rfl)) ?_
 refine WC.sr (WO.mem rfl rfl rfl (M.box rfl rfl) ?_)
 rintro _ w_b ⟨b, rfl, hg_b, hs_b, hB_b, hk_b⟩
 have hge_b : _ ≤ b := Nat.le_trans hE.size (Nat.le_of_eq hg_b.symm)
 replace hE := hE.ext hk_b
 replace hvs := hvs.ext stable_vr hk_b
 replace hk := hk.ext stable_tm hk_b
 refine WO.a rfl rfl (WO.nil (WX.next (WC.seq (WC.seq (WC.region ?_)))))
 refine WO.mv rfl rfl (WO.o rfl (R.loadK Tryz.isAgg84 Tryz.sizeOf84 rfl (by rfl) hB_b.cells) (WO.mv rfl rfl (WO.call rfl rfl rfl (F.call (vs := [_, _, _]) Tryz.call196 rfl) (flatFormed_ok vs inp vv Dv t _ D _ hvs (RTm.put hk)) ?_)))
 rintro _ wz1 ⟨rfl, hz1⟩
 replace hE := hE.ext hz1
 replace hvs := hvs.ext stable_vr hz1
 replace hk := hk.ext stable_tm hz1
 replace hB_b := hz1.blk hB_b (fun h => h)
 refine WO.o rfl (R.notU rfl (by first | exact not_decide_eq | rfl)) (WO.nil (WX.next ?_))
 refine WC.bool rfl (fun hf => ?_) (fun hf => ?_)
 ·
  have hf' : formedT vs inp t = false := by simpa using hf
  refine WC.sr (WO.a rfl rfl (WO.nil (WX.next (WC.ret (WX.thenR ?_)))))
  refine WX.ret1 Tryz.results156 rfl ⟨_, rfl, by rw [termCodeN, hf']; rfl, hE⟩
 ·
  have hf' : formedT vs inp t = true := by simpa using hf
  refine WC.skip (WX.next (WC.seq (WC.seq (WC.region (WO.mv rfl rfl (WO.o rfl (R.loadK Tryz.isAgg84 Tryz.sizeOf84 rfl (by rfl) hB_b.cells) (WO.call rfl rfl rfl (F.call (vs := [_, _]) Tryz.call197 rfl) (ranged_ok vs inp vv Dv hvb t _ D _ hvs (RTm.put hk) hf' hsz) ?_)))))))
  rintro _ wz2 ⟨⟨a, c, rfl, _⟩, hz2⟩
  replace hE := hE.ext hz2
  replace hvs := hvs.ext stable_vr hz2
  replace hk := hk.ext stable_tm hz2
  replace hB_b := hz2.blk hB_b (fun h => h)
  refine WO.mv rfl rfl (WO.o rfl (R.extract rfl rfl) (WO.o rfl (R.extract rfl rfl) (WO.mem rfl rfl rfl (M.alloc (cs := _) Tryz.zeroValue243 rfl) ?_)))
  rintro _ wa3 ⟨o, rfl, hg_o, hs_o, hB_o, hk_o⟩
  refine WO.mem0 rfl rfl (M.storeK Tryz.sizeOf243 rfl rfl rfl rfl (by simp [Value.oneCell']) hB_o (by simp)) ?_
  rintro w_o ⟨_, hB_o, hkk_o⟩
  replace hk_o := hk_o.trans hkk_o (fun q hq h => by have h : q = o := h; omega)
  have hn_b_o : b ≠ o := by have := hB_b.lt; omega
  have hge_o : _ ≤ o := Nat.le_trans hE.size (Nat.le_of_eq hg_o.symm)
  replace hE := hE.ext hk_o
  replace hvs := hvs.ext stable_vr hk_o
  replace hk := hk.ext stable_tm hk_o
  replace hB_b := hk_o.blk hB_b (fun h => h)
  refine WO.a rfl rfl (WO.nr (WO.mv rfl rfl (WO.o rfl (R.notU rfl (by first | exact not_decide_eq | rfl)) (WO.nil (WX.next ?_)))))
  refine WC.bool rfl (fun ho => ?_) (fun ho => ?_)
  ·
   have ho' : (rng vs t).isSome = false := by simpa using ho
   refine WC.sr (WO.a rfl rfl (WO.nil (WX.next (WC.ret (WX.thenR ?_)))))
   refine WX.ret1 Tryz.results156 rfl ⟨_, rfl, by rw [termCodeN, hf', ho']; rfl, hE⟩
  ·
   have ho' : (rng vs t).isSome = true := by simpa using ho
   refine WC.ks (WO.a rfl rfl (WO.nil (WX.next (WC.ret ?_))))
   refine WX.ret1 Tryz.results156 rfl ⟨_, rfl, by rw [termCodeN, hf', ho']; rfl, hE⟩
def spaceF (k : Int) : List Vr → Int → Option Int
 | [], n => some n
 | v :: r, n => if v.kind = k then (if 4096 < n * (v.high - v.low + 1) then none else spaceF k r (n * (v.high - v.low + 1))) else spaceF k r n
def spaceN (k : Int) (vs : List Vr) : Option Int := spaceF k vs 1
theorem spaceF_append (k : Int) : ∀ (a b : List Vr) (n : Int), spaceF k (a ++ b) n = (spaceF k a n).bind (spaceF k b)
 | [], b, n => rfl
 | v :: r, b, n => by
  simp only [List.cons_append, spaceF]
  split
  ·
   split
   · rfl
   · exact spaceF_append k r b _
  · exact spaceF_append k r b _
theorem spaceF_pos (k : Int) : ∀ (a : List Vr) (n m : Int), (∀ v ∈ a, Good (v.low, v.high)) → 1 ≤ n → n ≤ 4096 → spaceF k a n = some m → 1 ≤ m ∧ m ≤ 4096
 | [], n, m, _, h1, h2, h => by simp [spaceF] at h; omega
 | v :: r, n, m, hg, h1, h2, h => by
  have hv := hg v (List.mem_cons_self ..)
  have hr := fun x hx => hg x (List.mem_cons_of_mem _ hx)
  unfold Good at hv
  simp only [spaceF] at h
  split at h
  ·
   split at h
   · cases h
   ·
    rename_i h3
    refine spaceF_pos k r _ m hr ?_ (by omega) h
    have : (1 : Int) * 1 ≤ n * (v.high - v.low + 1) := Int.mul_le_mul h1 (by dsimp only at hv; omega) (by omega) (by omega)
    omega
  · exact spaceF_pos k r n m hr h1 h2 h
theorem prod_le {n s : Int} (h1 : 1 ≤ n) (h2 : n ≤ 4096) (h3 : 1 ≤ s) (h4 : s ≤ 2097153) : 1 ≤ n * s ∧ n * s ≤ 4096 * 2097153 := by
 have a : (1 : Int) * 1 ≤ n * s := Int.mul_le_mul h1 h3 (by omega) (by omega)
 have b : n * s ≤ 4096 * 2097153 := Int.mul_le_mul h2 h4 (by omega) (by omega)
 omega
theorem refSpace17_ok (vs : List Vr) (k : Int) (vv : Value) (D : Nat → Prop) (w : World) (hg : ∀ v ∈ vs, Good (v.low, v.high)) (hvs : SlR 5 RVr D w vv vs) : Calls Tryz.prog 113 #[vv, .int .i64 k] w (Ret fun r w' => r = .int .i64 ((spaceN k vs).getD 4097) ∧ Ext w w') := by
 have hmx := hvs.max
 obtain ⟨av, nv, rfl⟩ := hvs.form
 refine calls Tryz.func113 rfl [(0, .slice av vs.length nv), (1, .int .i64 k)] 37 ⟨Nat.le_of_ble_eq_true rfl, Tryz.ntmps113⟩ (argsOk (Sub.of rfl)) ?_
 refine WC.sr (WO.a rfl rfl (WO.nr (WO.a rfl rfl (WO.nil (WX.next (WC.seq (WC.seq (WC.region ?_))))))))
 refine WO.a rfl rfl (WO.nil (WX.next (WC.block ?_)))
 refine WC.loop (σ := Nat × Int) (fun ⟨i, n⟩ => [(0, .slice av vs.length nv), (1, .int .i64 k), (5, .int .i64 n), (6, .int .i64 i)]) (fun ⟨i, n⟩ => fun w' => i ≤ vs.length ∧ spaceF k (vs.take i) 1 = some n ∧ Ext w w') (fun ⟨i, n⟩ => vs.length - i) ((0, 1)) (Sub.of rfl) (⟨Nat.zero_le _, rfl, Keep.refl _ _⟩) ?_
 rintro ⟨i, n⟩ w1 ⟨hi, hs, hL1⟩
 show WC _ _ _ _ [(0, .slice av vs.length nv), (1, .int .i64 k), (5, .int .i64 n), (6, .int .i64 i)] _
 replace hvs := hvs.ext stable_vr hL1
 have hn := spaceF_pos k (vs.take i) 1 n (fun v hv => hg v (List.mem_of_mem_take hv)) (by omega) (by omega) hs
 refine WC.seq (WC.seq (WC.region (WO.mv rfl rfl (WO.mv rfl rfl (WO.o rfl (R.lenS rfl Tryz.runUnderlying22 rfl) (WO.o rfl (R.lss rfl rfl) (WO.nil (WX.next ?_))))))))
 refine WC.ite rfl (fun hlt => ?_) (fun hlt => ?_)
 ·
  obtain ⟨x, he_x⟩ : ∃ x, vs[i]? = some x := ⟨_, List.getElem?_eq_getElem (by omega)⟩
  have hm_x := List.mem_of_getElem? he_x
  obtain ⟨b_x, o_x, c_x, ha_x, _, hc_x, hR_x⟩ := hvs.at he_x
  have h1_x := RVr.one hR_x
  obtain rfl := hR_x
  have hlt_x : b_x < _ := World.block_lt_of_cell? _ _ (hc_x 0 _ rfl)
  have hgx := hg x hm_x
  unfold Good at hgx
  dsimp only at hgx
  have hp := prod_le (n := n) (s := x.high - x.low + 1) hn.1 hn.2 (by omega) (by omega)
  have hst : spaceF k (vs.take (i + 1)) 1 = if x.kind = k then (if 4096 < n * (x.high - x.low + 1) then none else some (n * (x.high - x.low + 1))) else some n := by
   rw [take_get he_x, spaceF_append, hs]; simp [spaceF]
  have hbad : spaceF k (vs.take (i + 1)) 1 = none → spaceN k vs = none := by
   intro h
   unfold spaceN
   rw [← List.take_append_drop (i + 1) vs, spaceF_append, h]; rfl
  refine WC.skip (WX.next (WC.seq (WC.block (WC.seq (WC.seq (WC.region (WO.mv rfl rfl (WO.mv rfl rfl (WO.o rfl (R.indexS Tryz.runUnderlying22 Tryz.sizeOf125 rfl rfl ha_x (by omega)) (WO.o rfl (R.fieldAddr Tryz.runUnderlying125 rfl Tryz.sizeOf121 rfl) (WO.o rfl (R.load Tryz.isAgg121 rfl (hc_x 1 _ rfl)) (WO.mv rfl rfl (WO.o rfl (R.neq rfl rfl) (WO.nil (WX.next ?_)))))))))))))))
  refine WC.ite rfl (fun hk => ?_) (fun hk => ?_)
  · refine WC.exit (WX.thenE (WX.hit (WX.next (WC.region (WO.mv rfl rfl (WO.o rfl (R.add rfl rfl (wrap_i64_in (by omega))) (WO.a rfl rfl (WO.nil (WX.back ((i + 1, n)) (Sub.of rfl) (⟨by omega, by rw [hst, if_neg hk], hL1⟩) (by first | omega | (dsimp only; omega)))))))))))
  ·
   have hk' : x.kind = k := Decidable.not_not.1 hk
   rw [if_pos hk'] at hst
   refine WC.skip (WX.next (WC.seq (WC.quiet (by kernel_rfl) (by kernel_rfl) (WQ.op rfl rfl rfl (fun w1 hw1 => R.move rfl) (WQ.op rfl rfl rfl (fun w1 hw1 => R.move rfl) (WQ.op rfl rfl rfl (fun w1 hw1 => R.move rfl) (WQ.op rfl rfl rfl (fun w1 hw1 => R.indexS Tryz.runUnderlying22 Tryz.sizeOf125 rfl rfl ha_x (by omega)) (WQ.op rfl rfl rfl (fun w1 hw1 => R.fieldAddr Tryz.runUnderlying125 rfl Tryz.sizeOf3 rfl) (WQ.op rfl rfl rfl (fun w1 hw1 => R.load Tryz.isAgg3 rfl ((hw1.cells hc_x (fun h => h)) 3 _ rfl)) (WQ.op rfl rfl rfl (fun w1 hw1 => R.move rfl) (WQ.op rfl rfl rfl (fun w1 hw1 => R.move rfl) ?_)))))))))))
   refine WQ.op rfl rfl rfl (fun w1 hw1 => R.indexS Tryz.runUnderlying22 Tryz.sizeOf125 rfl rfl ha_x (by omega)) (WQ.op rfl rfl rfl (fun w1 hw1 => R.fieldAddr Tryz.runUnderlying125 rfl Tryz.sizeOf3 rfl) (WQ.op rfl rfl rfl (fun w1 hw1 => R.load Tryz.isAgg3 rfl ((hw1.cells hc_x (fun h => h)) 2 _ rfl)) (WQ.op rfl rfl rfl (fun w1 hw1 => R.sub rfl rfl (wrap_i64_in (by omega))) (WQ.op rfl rfl rfl (fun w1 hw1 => R.add rfl rfl (wrap_i64_in (by omega))) (WQ.op rfl rfl rfl (fun w1 hw1 => R.mul rfl rfl (wrap_i64_in (by omega))) (WQ.op rfl rfl rfl (fun w1 hw1 => R.assign rfl) (WQ.nil (fun wz1 hz1 => ?_))))))))
   replace hvs := hvs.ext stable_vr hz1
   replace hL1 := hL1.ext hz1
   replace hc_x := hz1.cells hc_x (fun h => h)
   refine WX.next (WC.seq (WC.region (WO.mv rfl rfl (WO.o rfl (R.gtr rfl rfl) (WO.nil (WX.next ?_))))))
   refine WC.ite rfl (fun hb => ?_) (fun hb => ?_)
   ·
    rw [if_pos hb] at hst
    refine WC.sr (WO.a rfl rfl (WO.nil (WX.next (WC.ret (WX.blockR (WX.thenR (WX.thenR (WX.blockR (WX.thenR ?_)))))))))
    refine WX.ret1 Tryz.results113 rfl ⟨_, rfl, by rw [hbad hst]; rfl, hL1⟩
   · refine WC.skip (WX.blockN (WX.next (WC.region (WO.mv rfl rfl (WO.o rfl (R.add rfl rfl (wrap_i64_in (by omega))) (WO.a rfl rfl (WO.nil (WX.back ((i + 1, n * (x.high - x.low + 1))) (Sub.of rfl) (⟨by omega, by rw [hst, if_neg hb], hL1⟩) (by first | omega | (dsimp only; omega))))))))))
 ·
  have : i = vs.length := by omega
  subst this
  rw [List.take_length] at hs
  refine WC.exit (WX.thenE (WX.thenE (WX.hit (WX.next (WC.seq (WC.region (WO.mv rfl rfl (WO.a rfl rfl (WO.nil (WX.next (WC.ret ?_)))))))))))
  refine WX.ret1 Tryz.results113 rfl ⟨_, rfl, by rw [spaceN, hs]; rfl, hL1⟩
theorem domSize_ok (v : Vr) (w : World) (hg : Good (v.low, v.high)) : Calls Tryz.prog 217 #[.agg #[.string v.name, .int .i64 v.kind, .int .i64 v.low, .int .i64 v.high, .int .i64 v.init]] w (Ret fun r w' => r = .int .i64 (v.high - v.low + 1) ∧ Ext w w') := by
 unfold Good at hg
 dsimp only at hg
 have hE := Keep.refl (fun _ => False) w
 refine calls Tryz.func217 rfl [(0, .agg #[.string v.name, .int .i64 v.kind, .int .i64 v.low, .int .i64 v.high, .int .i64 v.init])] 9 ⟨Nat.le_of_ble_eq_true rfl, Tryz.ntmps217⟩ (argsOk (Sub.of rfl)) ?_
 refine WC.sr (WO.mem rfl rfl rfl (M.box rfl rfl) ?_)
 rintro _ w_b ⟨b, rfl, hg_b, hs_b, hB_b, hk_b⟩
 have hge_b : _ ≤ b := Nat.le_trans hE.size (Nat.le_of_eq hg_b.symm)
 replace hE := hE.ext hk_b
 refine WO.a rfl rfl (WO.nr (WO.o rfl (R.fieldAddr Tryz.runUnderlying125 rfl Tryz.sizeOf3 rfl) (WO.o rfl (R.load Tryz.isAgg3 rfl (hB_b.cells 3 _ rfl)) (WO.o rfl (R.fieldAddr Tryz.runUnderlying125 rfl Tryz.sizeOf3 rfl) (WO.o rfl (R.load Tryz.isAgg3 rfl (hB_b.cells 2 _ rfl)) (WO.o rfl (R.sub rfl rfl (wrap_i64_in (by omega))) (WO.o rfl (R.add rfl rfl (wrap_i64_in (by omega))) (WO.a rfl rfl (WO.nil (WX.next (WC.ret ?_)))))))))))
 refine WX.ret1 Tryz.results217 rfl ⟨_, rfl, rfl, hE⟩
def encV (v : Vr) : List Value := [.string v.name, .int .i64 v.kind, .int .i64 v.low, .int .i64 v.high, .int .i64 v.init]
theorem encV_len (v : Vr) : (encV v).length = 5 := rfl
theorem encV_one (v : Vr) : ∀ u ∈ encV v, u.oneCell' = true := by simp [encV, Value.oneCell']
def ofKind (k : Int) (vs : List Vr) : List Vr := vs.filter fun v => decide (v.kind = k)
theorem ofKind_take {k : Int} {vs : List Vr} {i : Nat} {x : Vr} (h : vs[i]? = some x) : ofKind k (vs.take (i + 1)) = ofKind k (vs.take i) ++ (if x.kind = k then [x] else []) := by
 unfold ofKind
 rw [take_get h, List.filter_append]
 congr 1
 by_cases e : x.kind = k <;> simp [e]
theorem ofKind_len (k : Int) (vs : List Vr) : (ofKind k vs).length ≤ vs.length := List.length_filter_le _ _
theorem spaceF_ofKind (k : Int) : ∀ (vs : List Vr) (n : Int), spaceF k (ofKind k vs) n = spaceF k vs n
 | [], n => rfl
 | v :: r, n => by
  unfold ofKind
  by_cases e : v.kind = k
  ·
   rw [List.filter_cons_of_pos (by simpa using e)]
   simp only [spaceF, e, if_true]
   split
   · rfl
   · exact spaceF_ofKind k r _
  ·
   rw [List.filter_cons_of_neg (by simpa using e)]
   simp only [spaceF, e, if_false]
   exact spaceF_ofKind k r n
theorem chosen_ok (vs : List Vr) (k : Int) (vv : Value) (D : Nat → Prop) (w : World) (hk : 0 ≤ k ∧ k ≤ 3) (hg : ∀ v ∈ vs, Good (v.low, v.high)) (hvs : SlR 5 RVr D w vv vs) (hlen : vs.length ≤ 1000000) : Calls Tryz.prog 194 #[vv, .int .i64 k] w (Ret fun r w' => (∃ vl, r = .tuple #[vl, .int .i64 ((spaceN k vs).getD 0), .int .i64 (if (spaceN k vs).isSome then 0 else 4)] ∧ ((spaceN k vs).isSome = true → SlR 5 RVr (fun b => w.heap.size ≤ b) w' vl (ofKind k vs)) ∧ ((spaceN k vs).isSome = false → vl = .slice none 0 0)) ∧ Ext w w') := by
 obtain ⟨av, nv, rfl⟩ := hvs.form
 have hE := Keep.refl (fun _ => False) w
 refine calls Tryz.func194 rfl [(0, .slice av vs.length nv), (1, .int .i64 k)] 64 ⟨Nat.le_of_ble_eq_true rfl, Tryz.ntmps194⟩ (argsOk (Sub.of rfl)) ?_
 refine WC.sr (WO.a rfl rfl (WO.a rfl rfl (WO.a rfl rfl (WO.nil (WX.next (WC.seq (WC.seq (WC.region ?_))))))))
 refine WO.mv rfl rfl (WO.nil (WX.next ?_))
 refine WC.cut (σ := Unit) (fun u => [(0, .slice av vs.length nv), (1, .int .i64 k)]) (fun u => fun w' => w' = w) ?_ ?_
 ·
  refine WC.block (WC.seq (WC.seq (WC.region (WO.o rfl (R.eql rfl rfl) (WO.a rfl rfl (WO.nil (WX.next ?_)))))))
  refine WC.ite rfl (fun h0 => ?_) (fun h0 => ?_)
  ·
   refine WC.skip (WX.next (WC.tt rfl ((dT h0)) (WC.skip (WX.blockN ?_))))
   refine WX.meet (()) (Sub.of rfl) (rfl)
  ·
   refine WC.sr (WO.o rfl (R.eql rfl rfl) (WO.a rfl rfl (WO.nil (WX.next ?_))))
   refine WC.ite rfl (fun h1 => ?_) (fun h1 => ?_)
   ·
    refine WC.skip (WX.next (WC.tt rfl ((dT h1)) (WC.skip (WX.blockN ?_))))
    refine WX.meet (()) (Sub.of rfl) (rfl)
   ·
    refine WC.sr (WO.o rfl (R.eql rfl rfl) (WO.a rfl rfl (WO.nil (WX.next ?_))))
    refine WC.ite rfl (fun h2 => ?_) (fun h2 => ?_)
    ·
     refine WC.skip (WX.next (WC.tt rfl ((dT h2)) (WC.skip (WX.blockN ?_))))
     refine WX.meet (()) (Sub.of rfl) (rfl)
    ·
     refine WC.region (WO.o rfl (R.eql rfl rfl) (WO.a rfl rfl (WO.nil (WX.next ?_))))
     refine WC.ite rfl (fun h3 => ?_) (fun h3 => ?_)
     · refine WC.skip (WX.blockN (WX.meet (()) (Sub.of rfl) (rfl)))
     · exact absurd hk (by omega)
 rintro u w1 hw1
 show WX _ _ _ [(0, .slice av vs.length nv), (1, .int .i64 k)] _
 subst hw1
 refine WX.next (WC.seq (WC.region (WO.a rfl rfl (WO.nil (WX.next (WC.seq (WC.seq (WC.region ?_))))))))
 refine WO.mv rfl rfl (WO.o rfl (R.lenS rfl Tryz.runUnderlying22 rfl) (WO.mv rfl rfl (WO.nil (WX.next ?_))))
 refine WC.cut (σ := Value) (fun vl => [(0, .slice av vs.length nv), (1, .int .i64 k), (7, vl)]) (fun vl => fun w' => w'.ownsRow 0 125 5 vl (ofKind k vs).length ((ofKind k vs).flatMap encV) ∧ (∀ q, vl.ownBlock = some q → w1.heap.size ≤ q) ∧ Ext w1 w') ?_ ?_
 ·
  refine WC.block (WC.loop (σ := Nat × Value) (fun ⟨i, vl⟩ => [(0, .slice av vs.length nv), (1, .int .i64 k), (7, vl), (19, .slice av vs.length nv), (20, .int .i64 vs.length), (21, .int .i64 i)]) (fun ⟨i, vl⟩ => fun w' => i ≤ vs.length ∧ w'.ownsRow 0 125 5 vl (ofKind k (vs.take i)).length ((ofKind k (vs.take i)).flatMap encV) ∧ (∀ q, vl.ownBlock = some q → w1.heap.size ≤ q) ∧ Ext w1 w') (fun ⟨i, vl⟩ => vs.length - i) ((0, .slice none 0 0)) (Sub.of rfl) (⟨Nat.zero_le _, own_nil _ _ _, fun q hq => by simp [Value.ownBlock] at hq, Keep.refl _ _⟩) ?_)
  rintro ⟨i, vl⟩ w2 ⟨hi, hown, hfr, hL1⟩
  show WC _ _ _ _ [(0, .slice av vs.length nv), (1, .int .i64 k), (7, vl), (19, .slice av vs.length nv), (20, .int .i64 vs.length), (21, .int .i64 i)] _
  replace hE := hE.ext hL1
  replace hvs := hvs.ext stable_vr hL1
  refine WC.sr (WO.o rfl (R.lss rfl rfl) (WO.nil (WX.next (WC.seq ?_))))
  refine WC.ite rfl (fun hlt => ?_) (fun hlt => ?_)
  ·
   obtain ⟨x, he_x⟩ : ∃ x, vs[i]? = some x := ⟨_, List.getElem?_eq_getElem (by omega)⟩
   have hm_x := List.mem_of_getElem? he_x
   obtain ⟨b_x, o_x, c_x, ha_x, _, hc_x, hR_x⟩ := hvs.at he_x
   have h1_x := RVr.one hR_x
   obtain rfl := hR_x
   have hlt_x : b_x < _ := World.block_lt_of_cell? _ _ (hc_x 0 _ rfl)
   have hgx := hg x hm_x
   unfold Good at hgx
   dsimp only at hgx
   have hot := ofKind_take (k := k) he_x
   have hol := ofKind_len k (vs.take i)
   rw [List.length_take] at hol
   refine WC.skip (WX.next (WC.seq (WC.block (WC.seq (WC.region (WO.o rfl (R.indexS Tryz.runUnderlying22 Tryz.sizeOf125 rfl rfl ha_x (by omega)) (WO.o rfl (R.loadK Tryz.isAgg125 Tryz.sizeOf125 rfl (by rfl) hc_x) (WO.mem rfl rfl rfl (M.alloc (cs := _) Tryz.zeroValue125 rfl) ?_))))))))
   rintro _ wa1 ⟨c, rfl, hg_c, hs_c, hB_c, hk_c⟩
   refine WO.mem0 rfl rfl (M.storeK Tryz.sizeOf125 rfl rfl rfl rfl h1_x hB_c (by simp)) ?_
   rintro w_c ⟨_, hB_c, hkk_c⟩
   replace hk_c := hk_c.trans hkk_c (fun q hq h => by have h : q = c := h; omega)
   have hge_c : _ ≤ c := Nat.le_trans hE.size (Nat.le_of_eq hg_c.symm)
   replace hE := hE.ext hk_c
   replace hvs := hvs.ext stable_vr hk_c
   replace hL1 := hL1.ext hk_c
   replace hown := own_keep hown hk_c (fun _ _ h => h)
   replace hc_x := hk_c.cells hc_x (fun h => h)
   refine WO.nil (WX.next (WC.seq (WC.seq (WC.region (WO.o rfl (R.fieldAddr Tryz.runUnderlying125 rfl Tryz.sizeOf121 rfl) (WO.o rfl (R.load Tryz.isAgg121 rfl (hB_c.cells 1 _ rfl)) (WO.mv rfl rfl (WO.o rfl (R.neq rfl rfl) (WO.nil (WX.next ?_))))))))))
   refine WC.ite rfl (fun hkx => ?_) (fun hkx => ?_)
   ·
    rw [if_neg hkx, List.append_nil] at hot
    refine WC.exit (WX.thenE (WX.hit (WX.next (WC.region (WO.o rfl (R.add rfl rfl (wrap_i64_in (by omega))) (WO.mv rfl rfl (WO.nil (WX.back ((i + 1, vl)) (Sub.of rfl) (⟨by omega, by rw [hot]; exact hown, hfr, hL1⟩) (by first | omega | (dsimp only; omega))))))))))
   ·
    have hkx' : x.kind = k := Decidable.not_not.1 hkx
    rw [if_pos hkx'] at hot
    refine WC.skip (WX.next (WC.seq (WC.seq (WC.region (WO.o rfl (R.fieldAddr Tryz.runUnderlying125 rfl Tryz.sizeOf3 rfl) (WO.o rfl (R.load Tryz.isAgg3 rfl (hB_c.cells 2 _ rfl)) (WO.o rfl (R.fieldAddr Tryz.runUnderlying125 rfl Tryz.sizeOf3 rfl) (WO.o rfl (R.load Tryz.isAgg3 rfl (hB_c.cells 3 _ rfl)) (WO.o rfl (R.gtr rfl rfl) (WO.mv rfl rfl (WO.splitP (d := 34) rfl (fun b0 => ?_) (fun b0 => ?_))))))))))))
    · exact absurd b0 (by omega)
    ·
     refine WO.yes rfl rfl (dF b0) (WO.o rfl (R.fieldAddr Tryz.runUnderlying125 rfl Tryz.sizeOf3 rfl) (WO.yes rfl rfl (dF b0) (WO.o rfl (R.load Tryz.isAgg3 rfl (hB_c.cells 2 _ rfl)) (WO.yes rfl rfl (dF b0) (WO.o rfl (R.lss rfl rfl) (WO.o rfl (R.pickF rfl (dF b0) rfl) (WO.mv rfl rfl (WO.splitP (d := 39) rfl (fun b1 => ?_) (fun b1 => ?_)))))))))
     · exact absurd b1 (by omega)
     ·
      refine WO.yes rfl rfl (dF b1) (WO.o rfl (R.fieldAddr Tryz.runUnderlying125 rfl Tryz.sizeOf3 rfl) (WO.yes rfl rfl (dF b1) (WO.o rfl (R.load Tryz.isAgg3 rfl (hB_c.cells 3 _ rfl)) (WO.yes rfl rfl (dF b1) (WO.o rfl (R.gtr rfl rfl) (WO.o rfl (R.pickF rfl (dF b1) rfl) (WO.nil (WX.next ?_))))))))
      refine WC.ite rfl (fun b2 => ?_) (fun b2 => ?_)
      · exact absurd b2 (by omega)
      ·
       refine WC.skip (WX.next (WC.region (WO.mv rfl rfl (WO.o rfl (R.loadK Tryz.isAgg125 Tryz.sizeOf125 rfl (by rfl) hB_c.cells) (WO.mem rfl rfl rfl (M.buildSlice (cs := encV x) [(0, _)] Tryz.runUnderlying22 Tryz.sizeOf125 Tryz.zeroValue125 (by decide) rfl (by kernel_rfl)) ?_)))))
       rintro _ w5 ⟨b5, rfl, hg_b5, hs_b5, hB_b5, hk_b5⟩
       replace hE := hE.ext hk_b5
       replace hvs := hvs.ext stable_vr hk_b5
       replace hL1 := hL1.ext hk_b5
       replace hown := own_keep hown hk_b5 (fun _ _ h => h)
       replace hc_x := hk_b5.cells hc_x (fun h => h)
       replace hB_c := hk_b5.blk hB_c (fun h => h)
       refine WO.mem rfl rfl rfl (M.append Tryz.underlying22 Tryz.el125 rfl (by decide) rfl rfl hown rfl (Cells.add hB_b5.cells) (encV_one _) (by omega) (by omega)) ?_
       rintro vl' w6 ⟨hown6, hfr6, hk6, _⟩
       have hszL := hL1.size
       refine WO.a rfl rfl (WO.nil (WX.blockN (WX.next (WC.region ?_))))
       refine WO.o rfl (R.add rfl rfl (wrap_i64_in (by omega))) (WO.mv rfl rfl (WO.nil (WX.back ((i + 1, vl')) (Sub.of rfl) (⟨by omega, ?_, ?_, hL1.trans hk6 (fun q hq h => by have := hfr q h; omega)⟩) (by first | omega | (dsimp only; omega)))))
       ·
        rw [hot, List.length_append, List.flatMap_append]
        exact hown6
       ·
        intro q hq
        rcases hfr6 with h | ⟨q', h, h'⟩
        · exact hfr q (by rw [← h]; exact hq)
        · rw [h] at hq; cases hq; omega
  ·
   have : i = vs.length := by omega
   subst this
   rw [List.take_length] at hown
   refine WC.exit (WX.thenE (WX.thenE (WX.hit (WX.meet (vl) (Sub.of rfl) (⟨hown, hfr, hL1⟩)))))
 rintro vl w2 ⟨hown, hfr, hX⟩
 show WX _ _ _ [(0, .slice av vs.length nv), (1, .int .i64 k), (7, vl)] _
 replace hE := hE.ext hX
 replace hvs := hvs.ext stable_vr hX
 have hsl : SlR 5 RVr (fun b => w1.heap.size ≤ b) w2 vl (ofKind k vs) := SlR.ofRowK (by omega) encV encV_len (fun x _ => rfl) hown hfr
 obtain ⟨al, nl, rfl⟩ := hsl.form
 have hol := ofKind_len k vs
 have hgo : ∀ v ∈ ofKind k vs, Good (v.low, v.high) := fun v hv => hg v (List.mem_filter.1 hv).1
 have hsp : spaceF k (ofKind k vs) 1 = spaceN k vs := spaceF_ofKind k vs 1
 have hall : ∀ v ∈ ofKind k vs, v.kind = k := fun v hv => by simpa using (List.mem_filter.1 hv).2
 refine WX.next (WC.seq (WC.region (WO.a rfl rfl (WO.nil (WX.next (WC.seq (WC.seq (WC.region ?_))))))))
 refine WO.mv rfl rfl (WO.o rfl (R.lenS rfl Tryz.runUnderlying22 rfl) (WO.mv rfl rfl (WO.nil (WX.next (WC.block ?_)))))
 refine WC.loop (σ := Nat × Int) (fun ⟨i, n⟩ => [(7, .slice al (ofKind k vs).length nl), (10, .int .i64 n), (49, .slice al (ofKind k vs).length nl), (50, .int .i64 (ofKind k vs).length), (51, .int .i64 i)]) (fun ⟨i, n⟩ => fun w' => i ≤ (ofKind k vs).length ∧ spaceF k ((ofKind k vs).take i) 1 = some n ∧ Ext w2 w') (fun ⟨i, n⟩ => (ofKind k vs).length - i) ((0, 1)) (Sub.of rfl) (⟨Nat.zero_le _, rfl, Keep.refl _ _⟩) ?_
 rintro ⟨i, n⟩ w3 ⟨hi, hs, hL2⟩
 show WC _ _ _ _ [(7, .slice al (ofKind k vs).length nl), (10, .int .i64 n), (49, .slice al (ofKind k vs).length nl), (50, .int .i64 (ofKind k vs).length), (51, .int .i64 i)] _
 replace hE := hE.ext hL2
 replace hvs := hvs.ext stable_vr hL2
 replace hsl := hsl.ext stable_vr hL2
 have hn := spaceF_pos k ((ofKind k vs).take i) 1 n (fun v hv => hgo v (List.mem_of_mem_take hv)) (by omega) (by omega) hs
 refine WC.sr (WO.o rfl (R.lss rfl rfl) (WO.nil (WX.next (WC.seq ?_))))
 refine WC.ite rfl (fun hlt => ?_) (fun hlt => ?_)
 ·
  obtain ⟨x, he_x⟩ : ∃ x, (ofKind k vs)[i]? = some x := ⟨_, List.getElem?_eq_getElem (by omega)⟩
  have hm_x := List.mem_of_getElem? he_x
  obtain ⟨b_x, o_x, c_x, ha_x, _, hc_x, hR_x⟩ := hsl.at he_x
  have h1_x := RVr.one hR_x
  obtain rfl := hR_x
  have hlt_x : b_x < _ := World.block_lt_of_cell? _ _ (hc_x 0 _ rfl)
  have hgx := hgo x hm_x
  have hgx' := hgx
  unfold Good at hgx'
  dsimp only at hgx'
  have hp := prod_le (n := n) (s := x.high - x.low + 1) hn.1 hn.2 (by omega) (by omega)
  have hst : spaceF k ((ofKind k vs).take (i + 1)) 1 = if 4096 < n * (x.high - x.low + 1) then none else some (n * (x.high - x.low + 1)) := by
   rw [take_get he_x, spaceF_append, hs]; simp [spaceF, hall x hm_x]
  refine WC.skip (WX.next (WC.seq (WC.block (WC.seq (WC.region (WO.o rfl (R.indexS Tryz.runUnderlying22 Tryz.sizeOf125 rfl rfl ha_x (by omega)) (WO.o rfl (R.loadK Tryz.isAgg125 Tryz.sizeOf125 rfl (by rfl) hc_x) (WO.mem rfl rfl rfl (M.alloc (cs := _) Tryz.zeroValue125 rfl) ?_))))))))
  rintro _ wa2 ⟨c, rfl, hg_c, hs_c, hB_c, hk_c⟩
  refine WO.mem0 rfl rfl (M.storeK Tryz.sizeOf125 rfl rfl rfl rfl h1_x hB_c (by simp)) ?_
  rintro w_c ⟨_, hB_c, hkk_c⟩
  replace hk_c := hk_c.trans hkk_c (fun q hq h => by have h : q = c := h; omega)
  have hge_c : _ ≤ c := Nat.le_trans hE.size (Nat.le_of_eq hg_c.symm)
  replace hE := hE.ext hk_c
  replace hvs := hvs.ext stable_vr hk_c
  replace hsl := hsl.ext stable_vr hk_c
  replace hL2 := hL2.ext hk_c
  replace hc_x := hk_c.cells hc_x (fun h => h)
  refine WO.nr (WO.mv rfl rfl (WO.o rfl (R.loadK Tryz.isAgg125 Tryz.sizeOf125 rfl (by rfl) hB_c.cells) (WO.call rfl rfl rfl (F.call (vs := [_]) Tryz.call217 rfl) (domSize_ok x _ hgx) ?_)))
  rintro _ wz3 ⟨rfl, hz3⟩
  replace hE := hE.ext hz3
  replace hvs := hvs.ext stable_vr hz3
  replace hsl := hsl.ext stable_vr hz3
  replace hL2 := hL2.ext hz3
  replace hc_x := hz3.cells hc_x (fun h => h)
  replace hB_c := hz3.blk hB_c (fun h => h)
  refine WO.o rfl (R.mul rfl rfl (wrap_i64_in (by omega))) (WO.a rfl rfl (WO.nr (WO.mv rfl rfl (WO.o rfl (R.gtr rfl rfl) (WO.nil (WX.next ?_))))))
  refine WC.ite rfl (fun hb => ?_) (fun hb => ?_)
  ·
   rw [if_pos hb] at hst
   have hnone : spaceN k vs = none := by
    rw [← hsp, ← List.take_append_drop (i + 1) (ofKind k vs), spaceF_append, hst]; rfl
   refine WC.sr (WO.a rfl rfl (WO.a rfl rfl (WO.a rfl rfl (WO.nil (WX.next (WC.ret (WX.blockR (WX.thenR (WX.thenR (WX.blockR (WX.thenR ?_)))))))))))
   refine WX.ret3 Tryz.results194 rfl rfl rfl ⟨_, rfl, ⟨.slice none 0 0, by rw [hnone]; rfl, (fun (h : (spaceN k vs).isSome = true) => by rw [hnone] at h; cases h), fun _ => rfl⟩, hE⟩
  · refine WC.skip (WX.blockN (WX.next (WC.region (WO.o rfl (R.add rfl rfl (wrap_i64_in (by omega))) (WO.mv rfl rfl (WO.nil (WX.back ((i + 1, n * (x.high - x.low + 1))) (Sub.of rfl) (⟨by omega, by rw [hst, if_neg hb], hL2⟩) (by first | omega | (dsimp only; omega)))))))))
 ·
  have : i = (ofKind k vs).length := by omega
  subst this
  rw [List.take_length, hsp] at hs
  refine WC.exit (WX.thenE (WX.thenE (WX.hit (WX.next (WC.seq (WC.region (WO.mv rfl rfl (WO.mv rfl rfl (WO.a rfl rfl (WO.a rfl rfl (WO.a rfl rfl (WO.nil (WX.next (WC.ret ?_))))))))))))))
  refine WX.ret3 Tryz.results194 rfl rfl rfl ⟨_, rfl, ⟨_, by rw [hs]; rfl, fun _ => hsl, (fun (h : (spaceN k vs).isSome = false) => by rw [hs] at h; cases h)⟩, hE⟩
theorem domSpace_ok (vs : List Vr) (k : Int) (vv : Value) (D : Nat → Prop) (w : World) (hk : 0 ≤ k ∧ k ≤ 3) (hg : ∀ v ∈ vs, Good (v.low, v.high)) (hvs : SlR 5 RVr D w vv vs) (hlen : vs.length ≤ 1000000) : Calls Tryz.prog 153 #[vv, .int .i64 k] w (Ret fun r w' => r = .tuple #[.int .i64 ((spaceN k vs).getD 0), .int .i64 (if (spaceN k vs).isSome then 0 else 4)] ∧ Ext w w') := by
 have hE := Keep.refl (fun _ => False) w
 refine calls Tryz.func153 rfl [(0, vv), (1, .int .i64 k)] 18 ⟨Nat.le_of_ble_eq_true rfl, Tryz.ntmps153⟩ (argsOk (Sub.of rfl)) ?_
 refine WC.sr (WO.a rfl rfl (WO.a rfl rfl (WO.nr (WO.mv rfl rfl (WO.mv rfl rfl (WO.call rfl rfl rfl (F.call (vs := [_, _]) Tryz.call194 rfl) (chosen_ok vs k vv D w hk hg hvs hlen) ?_))))))
 rintro _ wz1 ⟨⟨vl, rfl, _, _⟩, hz1⟩
 replace hE := hE.ext hz1
 refine WO.mv rfl rfl (WO.o rfl (R.extract rfl rfl) (WO.o rfl (R.extract rfl rfl) (WO.o rfl (R.extract rfl rfl) (WO.a rfl rfl (WO.a rfl rfl (WO.a rfl rfl (WO.nr (WO.mv rfl rfl (WO.mv rfl rfl (WO.a rfl rfl (WO.a rfl rfl (WO.nil (WX.next (WC.ret ?_))))))))))))))
 refine WX.ret2 Tryz.results153 rfl rfl ⟨_, rfl, rfl, hE⟩
def firstBad (f : Nat → Int) : Nat → Nat → Int
 | _, 0 => 0
 | i, n + 1 => if f i ≠ 0 then f i else firstBad f (i + 1) n
theorem firstBad_skip (f : Nat → Int) : ∀ (k i m : Nat), (∀ j, i ≤ j → j < i + k → f j = 0) → firstBad f i (k + m) = firstBad f (i + k) m
 | 0, i, m, _ => by simp
 | k + 1, i, m, h => by
  rw [show k + 1 + m = (k + m) + 1 by omega, firstBad, if_neg (by simp [h i (Nat.le_refl _) (by omega)]), firstBad_skip f k (i + 1) m (fun j h1 h2 => h j (by omega) (by omega))]
  congr 1; omega
theorem firstBad_at {f : Nat → Int} {i n : Nat} (h : ∀ j, j < i → f j = 0) (hi : i < n) (hb : f i ≠ 0) : firstBad f 0 n = f i := by
 obtain ⟨m, rfl⟩ : ∃ m, n = i + (m + 1) := ⟨n - i - 1, by omega⟩
 rw [firstBad_skip f i 0 (m + 1) (fun j _ h2 => h j (by omega)), Nat.zero_add, firstBad, if_pos hb]
theorem firstBad_zero {f : Nat → Int} {n : Nat} (h : ∀ j, j < n → f j = 0) : firstBad f 0 n = 0 := by
 have := firstBad_skip f n 0 0 (fun j _ h2 => h j (by omega))
 simpa [firstBad] using this
theorem firstBad_inv {f : Nat → Int} : ∀ (n i : Nat), firstBad f i n = 0 → ∀ j, i ≤ j → j < i + n → f j = 0
 | 0, i, _, j, h1, h2 => by omega
 | n + 1, i, h, j, h1, h2 => by
  rw [firstBad] at h
  split at h
  · rename_i h3; exact absurd h h3
  ·
   rename_i h3
   by_cases e : j = i
   · subst e; simpa using h3
   · exact firstBad_inv n (i + 1) h j (by omega) (by omega)
def sameName (a b : ByteArray) : Bool := decide (a.toList = b.toList)
def varCode (prev : List Vr) (v : Vr) : Int :=
 if isNm v.name = false then 7
 else if prev.any (fun u => sameName u.name v.name) = true then 8
 else if ¬ (0 ≤ v.kind ∧ v.kind ≤ 3) then 1
 else if bndB v.low v.high = false then 3
 else if v.kind = 0 ∧ (v.init < v.low ∨ v.high < v.init) ∨ v.kind ≠ 0 ∧ v.init ≠ 0 then 3
 else 0
def varAt (vs : List Vr) (i : Nat) : Int := match vs[i]? with
 | some v => varCode (vs.take i) v
 | none => 0
theorem varAt_eq {vs : List Vr} {i : Nat} {v : Vr} (h : vs[i]? = some v) : varAt vs i = varCode (vs.take i) v := by simp [varAt, h]
def spaceBad (vs : List Vr) : Bool := (spaceN 1 vs).isNone || (spaceN 2 vs).isNone || (match spaceN 3 vs with
 | some n => decide (256 < n)
 | none => true)
def varsCodeN (vs : List Vr) : Int := if firstBad (varAt vs) 0 vs.length ≠ 0 then firstBad (varAt vs) 0 vs.length else if spaceBad vs then 4 else 0
theorem varCode_good {prev : List Vr} {v : Vr} (h : varCode prev v = 0) : Good (v.low, v.high) ∧ 0 ≤ v.kind ∧ v.kind ≤ 3 := by
 unfold varCode at h
 split at h
 · cases h
 split at h
 · cases h
 split at h
 · cases h
 split at h
 · cases h
 ·
  rename_i h1 h2 h3 h4
  have h5 : bndB v.low v.high = true := by simpa using h4
  unfold bndB at h5
  have := of_decide_eq_true h5
  have h3 := Decidable.not_not.1 h3
  exact ⟨⟨this.2.1, this.1, this.2.2⟩, h3.1, h3.2⟩
theorem varsAll_good {vs : List Vr} (h : ∀ j, j < vs.length → varAt vs j = 0) : ∀ v ∈ vs, Good (v.low, v.high) ∧ 0 ≤ v.kind ∧ v.kind ≤ 3 := by
 intro v hv
 obtain ⟨i, hi⟩ := List.mem_iff_getElem?.1 hv
 have := h i (List.getElem?_eq_some_iff.1 hi).1
 rw [varAt_eq hi] at this
 exact varCode_good this
theorem refCheckVars_ok (vs : List Vr) (vv : Value) (D : Nat → Prop) (w : World) (hvs : SlR 5 RVr D w vv vs) : Calls Tryz.prog 62 #[vv] w (Ret fun r w' => r = .int .i64 (varsCodeN vs) ∧ Ext w w') := by
 have hmx := hvs.max
 obtain ⟨av, nv, rfl⟩ := hvs.form
 refine calls Tryz.func62 rfl [(0, .slice av vs.length nv)] 97 ⟨Nat.le_of_ble_eq_true rfl, Tryz.ntmps62⟩ (argsOk (Sub.of rfl)) ?_
 refine WC.sr (WO.a rfl rfl (WO.nil (WX.next (WC.seq (WC.seq (WC.region ?_))))))
 refine WO.a rfl rfl (WO.nil (WX.next (WC.block ?_)))
 refine WC.loop (σ := Nat) (fun i => [(0, .slice av vs.length nv), (3, .int .i64 i)]) (fun i => fun w' => i ≤ vs.length ∧ (∀ j, j < i → varAt vs j = 0) ∧ Ext w w') (fun i => vs.length - i) (0) (Sub.of rfl) (⟨Nat.zero_le _, fun j h => absurd h (Nat.not_lt_zero _), Keep.refl _ _⟩) ?_
 rintro i w1 ⟨hi, hall, hL1⟩
 show WC _ _ _ _ [(0, .slice av vs.length nv), (3, .int .i64 i)] _
 replace hvs := hvs.ext stable_vr hL1
 refine WC.seq (WC.seq (WC.region (WO.mv rfl rfl (WO.mv rfl rfl (WO.o rfl (R.lenS rfl Tryz.runUnderlying22 rfl) (WO.o rfl (R.lss rfl rfl) (WO.nil (WX.next ?_))))))))
 refine WC.ite rfl (fun hlt => ?_) (fun hlt => ?_)
 ·
  obtain ⟨x, he_x⟩ : ∃ x, vs[i]? = some x := ⟨_, List.getElem?_eq_getElem (by omega)⟩
  have hm_x := List.mem_of_getElem? he_x
  obtain ⟨b_x, o_x, c_x, ha_x, _, hc_x, hR_x⟩ := hvs.at he_x
  have h1_x := RVr.one hR_x
  obtain rfl := hR_x
  have hlt_x : b_x < _ := World.block_lt_of_cell? _ _ (hc_x 0 _ rfl)
  have hat := varAt_eq he_x
  have hbad : ∀ c : Int, varCode (vs.take i) x = c → c ≠ 0 → varsCodeN vs = c := by
   intro c h1 h2
   have h3 : varAt vs i ≠ 0 := by rw [hat, h1]; exact h2
   rw [varsCodeN, firstBad_at hall (by omega) h3, if_pos h3, hat, h1]
  have hnext : varCode (vs.take i) x = 0 → ∀ j, j < i + 1 → varAt vs j = 0 := by
   intro h j hj
   by_cases e : j = i
   · subst e; rw [hat, h]
   · exact hall j (by omega)
  refine WC.skip (WX.next (WC.seq (WC.block (WC.seq (WC.region (WO.mv rfl rfl (WO.mv rfl rfl (WO.o rfl (R.indexS Tryz.runUnderlying22 Tryz.sizeOf125 rfl rfl ha_x (by omega)) (WO.o rfl (R.loadK Tryz.isAgg125 Tryz.sizeOf125 rfl (by rfl) hc_x) (WO.mem rfl rfl rfl (M.alloc (cs := _) Tryz.zeroValue125 rfl) ?_))))))))))
  rintro _ wa1 ⟨c, rfl, hg_c, hs_c, hB_c, hk_c⟩
  refine WO.mem0 rfl rfl (M.storeK Tryz.sizeOf125 rfl rfl rfl rfl h1_x hB_c (by simp)) ?_
  rintro w_c ⟨_, hB_c, hkk_c⟩
  replace hk_c := hk_c.trans hkk_c (fun q hq h => by have h : q = c := h; omega)
  replace hvs := hvs.ext stable_vr hk_c
  replace hL1 := hL1.ext hk_c
  replace hc_x := hk_c.cells hc_x (fun h => h)
  refine WO.nil (WX.next (WC.seq (WC.seq (WC.region (WO.o rfl (R.fieldAddr Tryz.runUnderlying125 rfl Tryz.sizeOf9 rfl) (WO.o rfl (R.load Tryz.isAgg9 rfl (hB_c.cells 0 _ rfl)) (WO.call rfl rfl rfl (F.call (vs := [_]) Tryz.call63 rfl) (refIsName_ok x.name _) ?_)))))))
  rintro _ wz2 ⟨rfl, hz2⟩
  replace hvs := hvs.ext stable_vr hz2
  replace hL1 := hL1.ext hz2
  replace hc_x := hz2.cells hc_x (fun h => h)
  replace hB_c := hz2.blk hB_c (fun h => h)
  refine WO.o rfl (R.notU rfl (by first | exact not_decide_eq | rfl)) (WO.nil (WX.next ?_))
  refine WC.bool rfl (fun n0 => ?_) (fun n0 => ?_)
  ·
   have n0' : isNm x.name = false := by simpa using n0
   refine WC.sr (WO.a rfl rfl (WO.nil (WX.next (WC.ret (WX.thenR (WX.blockR (WX.thenR (WX.thenR (WX.blockR (WX.thenR ?_))))))))))
   refine WX.ret1 Tryz.results62 rfl ⟨_, rfl, by rw [hbad 7 (by rw [varCode, if_pos n0']) (by decide)], hL1⟩
  ·
   have n0' : ¬ isNm x.name = false := by simpa using n0
   refine WC.skip (WX.next (WC.seq (WC.seq (WC.region (WO.a rfl rfl (WO.nil (WX.next (WC.block ?_))))))))
   refine WC.loop (σ := Nat) (fun j => [(0, .slice av vs.length nv), (3, .int .i64 i), (4, .pointer (some ⟨c, 0, none⟩)), (5, .int .i64 j)]) (fun j => fun w' => j ≤ i ∧ (vs.take j).any (fun u => sameName u.name x.name) = false ∧ Ext wz2 w') (fun j => i - j) (0) (Sub.of rfl) (⟨Nat.zero_le _, rfl, Keep.refl _ _⟩) ?_
   rintro j w2 ⟨hj, hno, hL2⟩
   show WC _ _ _ _ [(0, .slice av vs.length nv), (3, .int .i64 i), (4, .pointer (some ⟨c, 0, none⟩)), (5, .int .i64 j)] _
   replace hvs := hvs.ext stable_vr hL2
   replace hL1 := hL1.ext hL2
   replace hc_x := hL2.cells hc_x (fun h => h)
   replace hB_c := hL2.blk hB_c (fun h => h)
   refine WC.seq (WC.seq (WC.region (WO.mv rfl rfl (WO.mv rfl rfl (WO.o rfl (R.lss rfl rfl) (WO.nil (WX.next ?_)))))))
   refine WC.ite rfl (fun hjl => ?_) (fun hjl => ?_)
   ·
    obtain ⟨y, he_y⟩ : ∃ x, vs[j]? = some x := ⟨_, List.getElem?_eq_getElem (by omega)⟩
    have hm_y := List.mem_of_getElem? he_y
    obtain ⟨b_y, o_y, c_y, ha_y, _, hc_y, hR_y⟩ := hvs.at he_y
    have h1_y := RVr.one hR_y
    obtain rfl := hR_y
    have hlt_y : b_y < _ := World.block_lt_of_cell? _ _ (hc_y 0 _ rfl)
    refine WC.skip (WX.next (WC.seq (WC.block (WC.seq (WC.quiet (by kernel_rfl) (by kernel_rfl) (WQ.op rfl rfl rfl (fun w1 hw1 => R.move rfl) (WQ.op rfl rfl rfl (fun w1 hw1 => R.move rfl) (WQ.op rfl rfl rfl (fun w1 hw1 => R.indexS Tryz.runUnderlying22 Tryz.sizeOf125 rfl rfl ha_y (by omega)) (WQ.op rfl rfl rfl (fun w1 hw1 => R.fieldAddr Tryz.runUnderlying125 rfl Tryz.sizeOf9 rfl) (WQ.op rfl rfl rfl (fun w1 hw1 => R.load Tryz.isAgg9 rfl ((hw1.cells hc_y (fun h => h)) 0 _ rfl)) (WQ.op rfl rfl rfl (fun w1 hw1 => R.fieldAddr Tryz.runUnderlying125 rfl Tryz.sizeOf9 rfl) (WQ.op rfl rfl rfl (fun w1 hw1 => R.load Tryz.isAgg9 rfl ((hw1.blk hB_c (fun h => h)).cells 0 _ rfl)) ?_))))))))))))
    refine WQ.op rfl rfl rfl (fun w1 hw1 => R.eqStr rfl rfl) (WQ.nil (fun wz3 hz3 => ?_))
    replace hvs := hvs.ext stable_vr hz3
    replace hL1 := hL1.ext hz3
    replace hc_x := hz3.cells hc_x (fun h => h)
    replace hB_c := hz3.blk hB_c (fun h => h)
    replace hL2 := hL2.ext hz3
    replace hc_y := hz3.cells hc_y (fun h => h)
    refine WX.next (WC.ite rfl (fun hd => ?_) (fun hd => ?_))
    ·
     have hany : (vs.take i).any (fun u => sameName u.name x.name) = true := by
      rw [List.any_eq_true]
      refine ⟨y, List.mem_of_getElem? (i := j) (by rw [List.getElem?_take, if_pos (by omega)]; exact he_y), ?_⟩
      unfold sameName; exact decide_eq_true hd
     refine WC.sr (WO.a rfl rfl (WO.nil (WX.next (WC.ret (WX.blockR (WX.thenR (WX.thenR (WX.blockR (WX.thenR (WX.blockR (WX.thenR (WX.thenR (WX.blockR (WX.thenR ?_))))))))))))))
     refine WX.ret1 Tryz.results62 rfl ⟨_, rfl, by rw [hbad 8 (by rw [varCode, if_neg n0', if_pos hany]) (by decide)], hL1⟩
    · refine WC.skip (WX.blockN (WX.next (WC.region (WO.mv rfl rfl (WO.o rfl (R.add rfl rfl (wrap_i64_in (by omega))) (WO.a rfl rfl (WO.nil (WX.back (j + 1) (Sub.of rfl) (⟨by omega, by rw [take_get he_y, List.any_append, hno]; simp [sameName, hd], hL2⟩) (by first | omega | (dsimp only; omega))))))))))
   ·
    have hji : j = i := by omega
    subst hji
    have n1 : ¬ (vs.take j).any (fun u => sameName u.name x.name) = true := by rw [hno]; decide
    refine WC.exit (WX.thenE (WX.thenE (WX.hit (WX.next (WC.seq (WC.seq (WC.cut (σ := Bool) (fun q => [(0, .slice av vs.length nv), (3, .int .i64 j), (4, .pointer (some ⟨c, 0, none⟩)), (50, .bool q)]) (fun q => fun w' => (q = true ↔ ¬ (0 ≤ x.kind ∧ x.kind ≤ 3)) ∧ w' = w2) ?_ ?_)))))))
    ·
     refine WC.region (WO.o rfl (R.fieldAddr Tryz.runUnderlying125 rfl Tryz.sizeOf121 rfl) (WO.o rfl (R.load Tryz.isAgg121 rfl (hB_c.cells 1 _ rfl)) (WO.o rfl (R.neq rfl rfl) (WO.mv rfl rfl (WO.splitP (d := 36) rfl (fun k0 => ?_) (fun k0 => ?_))))))
     ·
      refine WO.yes rfl rfl (dT k0) (WO.o rfl (R.fieldAddr Tryz.runUnderlying125 rfl Tryz.sizeOf121 rfl) (WO.yes rfl rfl (dT k0) (WO.o rfl (R.load Tryz.isAgg121 rfl (hB_c.cells 1 _ rfl)) (WO.yes rfl rfl (dT k0) (WO.o rfl (R.neq rfl rfl) (WO.o rfl (R.pickT rfl (dT k0) rfl) (WO.mv rfl rfl (WO.splitP (d := 41) rfl (fun k1 => ?_) (fun k1 => ?_)))))))))
      ·
       refine WO.yes rfl rfl (dT k1) (WO.o rfl (R.fieldAddr Tryz.runUnderlying125 rfl Tryz.sizeOf121 rfl) (WO.yes rfl rfl (dT k1) (WO.o rfl (R.load Tryz.isAgg121 rfl (hB_c.cells 1 _ rfl)) (WO.yes rfl rfl (dT k1) (WO.o rfl (R.neq rfl rfl) (WO.o rfl (R.pickT rfl (dT k1) rfl) (WO.mv rfl rfl (WO.splitP (d := 46) rfl (fun k2 => ?_) (fun k2 => ?_)))))))))
       · refine WO.yes rfl rfl (dT k2) (WO.o rfl (R.fieldAddr Tryz.runUnderlying125 rfl Tryz.sizeOf121 rfl) (WO.yes rfl rfl (dT k2) (WO.o rfl (R.load Tryz.isAgg121 rfl (hB_c.cells 1 _ rfl)) (WO.yes rfl rfl (dT k2) (WO.o rfl (R.neq rfl rfl) (WO.o rfl (R.pickT rfl (dT k2) rfl) (WO.nil (WX.meet (decide (x.kind ≠ 3)) (Sub.of rfl) (⟨by simp; omega, rfl⟩)))))))))
       · refine WO.no rfl rfl (dF k2) rfl (WO.no rfl rfl (dF k2) rfl (WO.no rfl rfl (dF k2) rfl (WO.o rfl (R.pickF rfl (dF k2) rfl) (WO.nil (WX.meet (false) (Sub.of rfl) (⟨by simp; omega, rfl⟩))))))
      · refine WO.no rfl rfl (dF k1) rfl (WO.no rfl rfl (dF k1) rfl (WO.no rfl rfl (dF k1) rfl (WO.o rfl (R.pickF rfl (dF k1) rfl) (WO.mv rfl rfl (WO.z rfl (WO.z rfl (WO.z rfl (WO.o rfl (R.pickF rfl rfl rfl) (WO.nil (WX.meet (false) (Sub.of rfl) (⟨by simp; omega, rfl⟩)))))))))))
     · refine WO.no rfl rfl (dF k0) rfl (WO.no rfl rfl (dF k0) rfl (WO.no rfl rfl (dF k0) rfl (WO.o rfl (R.pickF rfl (dF k0) rfl) (WO.mv rfl rfl (WO.z rfl (WO.z rfl (WO.z rfl (WO.o rfl (R.pickF rfl rfl rfl) (WO.mv rfl rfl (WO.z rfl (WO.z rfl (WO.z rfl (WO.o rfl (R.pickF rfl rfl rfl) (WO.nil (WX.meet (false) (Sub.of rfl) (⟨by simp; omega, rfl⟩))))))))))))))))
    rintro q w3 ⟨hq, hw3⟩
    show WX _ _ _ [(0, .slice av vs.length nv), (3, .int .i64 j), (4, .pointer (some ⟨c, 0, none⟩)), (50, .bool q)] _
    subst hw3
    refine WX.next (WC.bool rfl (fun q1 => ?_) (fun q1 => ?_))
    ·
     have n2 := hq.1 q1
     refine WC.sr (WO.a rfl rfl (WO.nil (WX.next (WC.ret (WX.thenR (WX.blockR (WX.thenR (WX.thenR (WX.blockR (WX.thenR ?_))))))))))
     refine WX.ret1 Tryz.results62 rfl ⟨_, rfl, by rw [hbad 1 (by rw [varCode, if_neg n0', if_neg n1, if_pos n2]) (by decide)], hL1⟩
    ·
     have n2 : ¬ ¬ (0 ≤ x.kind ∧ x.kind ≤ 3) := fun h => by rw [hq.2 h] at q1; cases q1
     refine WC.skip (WX.next (WC.seq (WC.seq (WC.region (WO.o rfl (R.fieldAddr Tryz.runUnderlying125 rfl Tryz.sizeOf3 rfl) (WO.o rfl (R.load Tryz.isAgg3 rfl (hB_c.cells 2 _ rfl)) (WO.o rfl (R.fieldAddr Tryz.runUnderlying125 rfl Tryz.sizeOf3 rfl) (WO.o rfl (R.load Tryz.isAgg3 rfl (hB_c.cells 3 _ rfl)) (WO.call rfl rfl rfl (F.call (vs := [_, _]) Tryz.call64 rfl) (refBounded_ok x.low x.high _) ?_)))))))))
     rintro _ wz4 ⟨rfl, hz4⟩
     replace hvs := hvs.ext stable_vr hz4
     replace hL1 := hL1.ext hz4
     replace hc_x := hz4.cells hc_x (fun h => h)
     replace hB_c := hz4.blk hB_c (fun h => h)
     replace hL2 := hL2.ext hz4
     refine WO.o rfl (R.notU rfl (by first | exact not_decide_eq | rfl)) (WO.nil (WX.next ?_))
     refine WC.bool rfl (fun n3 => ?_) (fun n3 => ?_)
     ·
      have n3' : bndB x.low x.high = false := by simpa using n3
      refine WC.sr (WO.a rfl rfl (WO.nil (WX.next (WC.ret (WX.thenR (WX.blockR (WX.thenR (WX.thenR (WX.blockR (WX.thenR ?_))))))))))
      refine WX.ret1 Tryz.results62 rfl ⟨_, rfl, by rw [hbad 3 (by rw [varCode, if_neg n0', if_neg n1, if_neg n2, if_pos n3']) (by decide)], hL1⟩
     ·
      have n3' : ¬ bndB x.low x.high = false := by simpa using n3
      have b4 : x.kind = 0 ∧ (x.init < x.low ∨ x.high < x.init) ∨ x.kind ≠ 0 ∧ x.init ≠ 0 → varsCodeN vs = 3 := fun h => hbad 3 (by rw [varCode, if_neg n0', if_neg n1, if_neg n2, if_neg n3', if_pos h]) (by decide)
      have g4 : ¬ (x.kind = 0 ∧ (x.init < x.low ∨ x.high < x.init) ∨ x.kind ≠ 0 ∧ x.init ≠ 0) → varCode (vs.take j) x = 0 := fun h => by rw [varCode, if_neg n0', if_neg n1, if_neg n2, if_neg n3', if_neg h]
      refine WC.ks (WO.o rfl (R.fieldAddr Tryz.runUnderlying125 rfl Tryz.sizeOf121 rfl) (WO.o rfl (R.load Tryz.isAgg121 rfl (hB_c.cells 1 _ rfl)) (WO.o rfl (R.eql rfl rfl) (WO.mv rfl rfl (WO.splitP (d := 60) rfl (fun k0 => ?_) (fun k0 => ?_))))))
      ·
       refine WO.yes rfl rfl (dT k0) (WO.o rfl (R.fieldAddr Tryz.runUnderlying125 rfl Tryz.sizeOf3 rfl) (WO.yes rfl rfl (dT k0) (WO.o rfl (R.load Tryz.isAgg3 rfl (hB_c.cells 4 _ rfl)) (WO.yes rfl rfl (dT k0) (WO.o rfl (R.fieldAddr Tryz.runUnderlying125 rfl Tryz.sizeOf3 rfl) (WO.yes rfl rfl (dT k0) (WO.o rfl (R.load Tryz.isAgg3 rfl (hB_c.cells 2 _ rfl)) (WO.yes rfl rfl (dT k0) (WO.o rfl (R.lss rfl rfl) (WO.yes rfl rfl (dT k0) (WO.mv rfl rfl (WO.splitP (d := 66) rfl (fun i0 => ?_) (fun i0 => ?_)))))))))))))
       ·
        refine WO.no rfl rfl (dT i0) rfl (WO.no rfl rfl (dT i0) rfl (WO.no rfl rfl (dT i0) rfl (WO.no rfl rfl (dT i0) rfl (WO.no rfl rfl (dT i0) rfl (WO.yes rfl rfl (dT k0) (WO.o rfl (R.pickT rfl (dT i0) rfl) (WO.o rfl (R.pickT rfl (dT k0) rfl) (WO.mv rfl rfl (WO.z rfl (WO.z rfl (WO.z rfl (WO.z rfl (WO.noU rfl rfl rfl (WO.noU rfl rfl rfl (WO.noU rfl rfl rfl (WO.z rfl (WO.o rfl (R.pickT rfl rfl rfl) (WO.nil (WX.next ?_)))))))))))))))))))
        refine WC.tt rfl (rfl) (WC.sr (WO.a rfl rfl (WO.nil (WX.next (WC.ret (WX.blockR (WX.thenR (WX.thenR (WX.blockR (WX.thenR ?_))))))))))
        refine WX.ret1 Tryz.results62 rfl ⟨_, rfl, by rw [b4 (by omega)], hL1⟩
       ·
        refine WO.yes rfl rfl (dF i0) (WO.o rfl (R.fieldAddr Tryz.runUnderlying125 rfl Tryz.sizeOf3 rfl) (WO.yes rfl rfl (dF i0) (WO.o rfl (R.load Tryz.isAgg3 rfl (hB_c.cells 4 _ rfl)) (WO.yes rfl rfl (dF i0) (WO.o rfl (R.fieldAddr Tryz.runUnderlying125 rfl Tryz.sizeOf3 rfl) (WO.yes rfl rfl (dF i0) (WO.o rfl (R.load Tryz.isAgg3 rfl (hB_c.cells 3 _ rfl)) (WO.yes rfl rfl (dF i0) (WO.o rfl (R.gtr rfl rfl) (WO.yes rfl rfl (dT k0) (WO.o rfl (R.pickF rfl (dF i0) rfl) (WO.o rfl (R.pickT rfl (dT k0) rfl) (WO.mv rfl rfl (WO.splitP (d := 74) rfl (fun i1 => ?_) (fun i1 => ?_)))))))))))))))
        ·
         refine WO.no rfl rfl (dT i1) rfl (WO.no rfl rfl (dT i1) rfl (WO.no rfl rfl (dT i1) rfl (WO.no rfl rfl (dT i1) rfl (WO.noU rfl rfl rfl (WO.noU rfl rfl rfl (WO.noU rfl rfl rfl (WO.no rfl rfl (dT i1) rfl (WO.o rfl (R.pickT rfl (dT i1) rfl) (WO.nil (WX.next ?_))))))))))
         refine WC.tt rfl (rfl) (WC.sr (WO.a rfl rfl (WO.nil (WX.next (WC.ret (WX.blockR (WX.thenR (WX.thenR (WX.blockR (WX.thenR ?_))))))))))
         refine WX.ret1 Tryz.results62 rfl ⟨_, rfl, by rw [b4 (by omega)], hL1⟩
        ·
         refine WO.yes rfl rfl (dF i1) (WO.o rfl (R.fieldAddr Tryz.runUnderlying125 rfl Tryz.sizeOf121 rfl) (WO.yes rfl rfl (dF i1) (WO.o rfl (R.load Tryz.isAgg121 rfl (hB_c.cells 1 _ rfl)) (WO.yes rfl rfl (dF i1) (WO.o rfl (R.neq rfl rfl) (WO.yes rfl rfl (dF i1) (WO.mv rfl rfl (WO.splitP (d := 78) rfl (fun kk => ?_) (fun kk => ?_)))))))))
         · exact absurd k0 kk
         ·
          refine WO.no rfl rfl (dF kk) rfl (WO.no rfl rfl (dF kk) rfl (WO.no rfl rfl (dF kk) rfl (WO.yes rfl rfl (dF i1) (WO.o rfl (R.pickF rfl (dF kk) rfl) (WO.o rfl (R.pickF rfl (dF i1) rfl) (WO.nil (WX.next ?_)))))))
          refine WC.ff rfl (rfl) (WC.skip (WX.blockN (WX.next (WC.region ?_))))
          refine WO.mv rfl rfl (WO.o rfl (R.add rfl rfl (wrap_i64_in (by omega))) (WO.a rfl rfl (WO.nil (WX.back (j + 1) (Sub.of rfl) (⟨by omega, hnext (g4 (by omega)), hL1⟩) (by first | omega | (dsimp only; omega))))))
      ·
       refine WO.no rfl rfl (dF k0) rfl (WO.no rfl rfl (dF k0) rfl (WO.no rfl rfl (dF k0) rfl (WO.no rfl rfl (dF k0) rfl (WO.no rfl rfl (dF k0) rfl (WO.no rfl rfl (dF k0) rfl (WO.noU rfl rfl rfl (WO.noU rfl rfl rfl (WO.noU rfl rfl rfl (WO.noU rfl rfl rfl (WO.noU rfl rfl rfl (WO.no rfl rfl (dF k0) rfl (WO.o rfl (R.pickF rfl (dF k0) rfl) (WO.mv rfl rfl (WO.yes rfl rfl rfl (WO.o rfl (R.fieldAddr Tryz.runUnderlying125 rfl Tryz.sizeOf121 rfl) (WO.yes rfl rfl rfl (WO.o rfl (R.load Tryz.isAgg121 rfl (hB_c.cells 1 _ rfl)) (WO.yes rfl rfl rfl (WO.o rfl (R.neq rfl rfl) (WO.yes rfl rfl rfl ?_))))))))))))))))))))
       refine WO.mv rfl rfl (WO.splitP (d := 78) rfl (fun kk => ?_) (fun kk => ?_))
       ·
        refine WO.yes rfl rfl (dT kk) (WO.o rfl (R.fieldAddr Tryz.runUnderlying125 rfl Tryz.sizeOf3 rfl) (WO.yes rfl rfl (dT kk) (WO.o rfl (R.load Tryz.isAgg3 rfl (hB_c.cells 4 _ rfl)) (WO.yes rfl rfl (dT kk) (WO.o rfl (R.neq rfl rfl) (WO.yes rfl rfl rfl (WO.o rfl (R.pickT rfl (dT kk) rfl) (WO.o rfl (R.pickF rfl rfl rfl) (WO.nil (WX.next ?_))))))))))
        refine WC.ite rfl (fun i2 => ?_) (fun i2 => ?_)
        ·
         refine WC.sr (WO.a rfl rfl (WO.nil (WX.next (WC.ret (WX.blockR (WX.thenR (WX.thenR (WX.blockR (WX.thenR ?_)))))))))
         refine WX.ret1 Tryz.results62 rfl ⟨_, rfl, by rw [b4 (by omega)], hL1⟩
        · refine WC.skip (WX.blockN (WX.next (WC.region (WO.mv rfl rfl (WO.o rfl (R.add rfl rfl (wrap_i64_in (by omega))) (WO.a rfl rfl (WO.nil (WX.back (j + 1) (Sub.of rfl) (⟨by omega, hnext (g4 (by omega)), hL1⟩) (by first | omega | (dsimp only; omega))))))))))
       · exact absurd k0 kk
 ·
  have hii : i = vs.length := by omega
  subst hii
  have hg := varsAll_good hall
  have hz := firstBad_zero hall
  have hgo : ∀ v ∈ vs, Good (v.low, v.high) := fun v hv => (hg v hv).1
  have hv : varsCodeN vs = if spaceBad vs then 4 else 0 := by rw [varsCodeN, if_neg (by simp [hz])]
  have sp : ∀ k n, spaceN k vs = some n → 1 ≤ n ∧ n ≤ 4096 := fun k n h => spaceF_pos k vs 1 n hgo (by omega) (by omega) h
  have isN : ∀ k, (4096 : Int) < (spaceN k vs).getD 4097 ↔ (spaceN k vs).isNone = true := by
   intro k
   cases h : spaceN k vs with
   | none => simp
   | some n => have := sp k n h; simp; omega
  have is3 : (256 : Int) < (spaceN 3 vs).getD 4097 ↔ (match spaceN 3 vs with | some n => decide (256 < n) | none => true) = true := by
   cases h : spaceN 3 vs with
   | none => simp
   | some n => simp
  refine WC.exit (WX.thenE (WX.thenE (WX.hit (WX.next (WC.seq (WC.seq (WC.region (WO.mv rfl rfl (WO.call rfl rfl rfl (F.call (vs := [_, _]) Tryz.call113 rfl) (refSpace17_ok vs 1 _ D _ hgo hvs) ?_)))))))))
  rintro _ wz5 ⟨rfl, hz5⟩
  replace hvs := hvs.ext stable_vr hz5
  replace hL1 := hL1.ext hz5
  refine WO.o rfl (R.gtr rfl rfl) (WO.mv rfl rfl (WO.splitP (d := 87) rfl (fun s1 => ?_) (fun s1 => ?_)))
  ·
   refine WO.no rfl rfl (dT s1) rfl (WO.no rfl rfl (dT s1) rfl (WO.no rfl rfl (dT s1) rfl (WO.o rfl (R.pickT rfl (dT s1) rfl) (WO.mv rfl rfl (WO.z rfl (WO.z rfl (WO.z rfl (WO.o rfl (R.pickT rfl rfl rfl) (WO.nil (WX.next ?_))))))))))
   refine WC.tt rfl (rfl) (WC.sr (WO.a rfl rfl (WO.nil (WX.next (WC.ret (WX.thenR ?_))))))
   refine WX.ret1 Tryz.results62 rfl ⟨_, rfl, by rw [hv, spaceBad, (isN 1).1 s1]; rfl, hL1⟩
  ·
   have s1' : (spaceN 1 vs).isNone = false := by rw [Bool.eq_false_iff]; exact fun h => s1 ((isN 1).2 h)
   refine WO.yes rfl rfl (dF s1) (WO.mv rfl rfl (WO.yes rfl rfl (dF s1) (WO.call rfl rfl rfl (F.call (vs := [_, _]) Tryz.call113 rfl) (refSpace17_ok vs 2 _ D _ hgo hvs) ?_)))
   rintro _ wz6 ⟨rfl, hz6⟩
   replace hvs := hvs.ext stable_vr hz6
   replace hL1 := hL1.ext hz6
   refine WO.yes rfl rfl (dF s1) (WO.o rfl (R.gtr rfl rfl) (WO.o rfl (R.pickF rfl (dF s1) rfl) (WO.mv rfl rfl (WO.splitP (d := 92) rfl (fun s2 => ?_) (fun s2 => ?_)))))
   ·
    refine WO.no rfl rfl (dT s2) rfl (WO.no rfl rfl (dT s2) rfl (WO.no rfl rfl (dT s2) rfl (WO.o rfl (R.pickT rfl (dT s2) rfl) (WO.nil (WX.next ?_)))))
    refine WC.tt rfl (rfl) (WC.sr (WO.a rfl rfl (WO.nil (WX.next (WC.ret (WX.thenR ?_))))))
    refine WX.ret1 Tryz.results62 rfl ⟨_, rfl, by rw [hv, spaceBad, s1', (isN 2).1 s2]; rfl, hL1⟩
   ·
    have s2' : (spaceN 2 vs).isNone = false := by rw [Bool.eq_false_iff]; exact fun h => s2 ((isN 2).2 h)
    refine WO.yes rfl rfl (dF s2) (WO.mv rfl rfl (WO.yes rfl rfl (dF s2) (WO.call rfl rfl rfl (F.call (vs := [_, _]) Tryz.call113 rfl) (refSpace17_ok vs 3 _ D _ hgo hvs) ?_)))
    rintro _ wz7 ⟨rfl, hz7⟩
    replace hvs := hvs.ext stable_vr hz7
    replace hL1 := hL1.ext hz7
    refine WO.yes rfl rfl (dF s2) (WO.o rfl (R.gtr rfl rfl) (WO.o rfl (R.pickF rfl (dF s2) rfl) (WO.nil (WX.next ?_))))
    refine WC.ite rfl (fun s3 => ?_) (fun s3 => ?_)
    ·
     refine WC.sr (WO.a rfl rfl (WO.nil (WX.next (WC.ret (WX.thenR ?_)))))
     refine WX.ret1 Tryz.results62 rfl ⟨_, rfl, by rw [hv, spaceBad, s1', s2', is3.1 s3]; rfl, hL1⟩
    ·
     have s3' : (match spaceN 3 vs with | some n => decide (256 < n) | none => true) = false := by rw [Bool.eq_false_iff]; exact fun h => s3 (is3.2 h)
     refine WC.ks (WO.a rfl rfl (WO.nil (WX.next (WC.ret ?_))))
     refine WX.ret1 Tryz.results62 rfl ⟨_, rfl, by rw [hv, spaceBad, s1', s2', s3']; rfl, hL1⟩
theorem any_take_all {α : Type} {p : α → Bool} {l : List α} {k : Nat} {x : α} (hx : l[k]? = some x) (h : (l.take k).any p = false) (hp : p x = false) : (l.take (k + 1)).any p = false := by rw [take_get hx, List.any_append, h]; simp [hp]
theorem any_at {α : Type} {p : α → Bool} {l : List α} {x : α} (hx : x ∈ l) (hp : p x = true) : l.any p = true := List.any_eq_true.2 ⟨x, hx, hp⟩
theorem indexV_ok (vs : List Vr) (vv : Value) (D : Nat → Prop) (w : World) (hvs : SlR 5 RVr D w vv vs) (p : Vr → Bool) (g : FuncId) (cp : Value) (hf : ∀ args w, (callFunc g args).run Tryz.prog w = .ok (.enter g args) w)
  (hc : ∀ x ∈ vs, ∀ w', Ext w w' → Calls Tryz.prog g #[.agg (encV x).toArray, cp] w' (Ret fun r w'' => r = .bool (p x) ∧ Ext w' w'')) :
  Calls Tryz.prog 193 #[vv, .func (.func g) #[] #[cp]] w (Ret fun r w' => (∃ i : Int, r = .int .i64 i ∧ (0 ≤ i ↔ vs.any p = true)) ∧ Ext w w') := by
 have hmx := hvs.max
 obtain ⟨av, nv, rfl⟩ := hvs.form
 refine calls Tryz.func193 rfl [(0, .slice av vs.length nv), (1, .func (.func g) #[] #[cp])] 19 ⟨Nat.le_of_ble_eq_true rfl, Tryz.ntmps193⟩ (argsOk (Sub.of rfl)) ?_
 refine WC.sr (WO.a rfl rfl (WO.nil (WX.next (WC.seq (WC.seq (WC.region ?_))))))
 refine WO.mv rfl rfl (WO.o rfl (R.lenS rfl Tryz.runUnderlying22 rfl) (WO.mv rfl rfl (WO.nil (WX.next (WC.block ?_)))))
 refine WC.loop (σ := Nat) (fun i => [(0, .slice av vs.length nv), (1, .func (.func g) #[] #[cp]), (7, .int .i64 vs.length), (8, .int .i64 i)]) (fun i => fun w' => i ≤ vs.length ∧ (vs.take i).any p = false ∧ Ext w w') (fun i => vs.length - i) (0) (Sub.of rfl) (⟨Nat.zero_le _, rfl, Keep.refl _ _⟩) ?_
 rintro i w1 ⟨hi, hno, hL1⟩
 show WC _ _ _ _ [(0, .slice av vs.length nv), (1, .func (.func g) #[] #[cp]), (7, .int .i64 vs.length), (8, .int .i64 i)] _
 replace hvs := hvs.ext stable_vr hL1
 refine WC.sr (WO.o rfl (R.lss rfl rfl) (WO.nil (WX.next (WC.seq ?_))))
 refine WC.ite rfl (fun hlt => ?_) (fun hlt => ?_)
 ·
  obtain ⟨x, he_x⟩ : ∃ x, vs[i]? = some x := ⟨_, List.getElem?_eq_getElem (by omega)⟩
  have hm_x := List.mem_of_getElem? he_x
  obtain ⟨b_x, o_x, c_x, ha_x, _, hc_x, hR_x⟩ := hvs.at he_x
  have h1_x := RVr.one hR_x
  obtain rfl := hR_x
  have hlt_x : b_x < _ := World.block_lt_of_cell? _ _ (hc_x 0 _ rfl)
  refine WC.skip (WX.next (WC.seq (WC.block (WC.seq (WC.region (WO.mv rfl rfl (WO.a rfl rfl (WO.nr (WO.mv rfl rfl (WO.mv rfl rfl (WO.mv rfl rfl (WO.o rfl (R.indexS Tryz.runUnderlying22 Tryz.sizeOf125 rfl rfl ha_x (by omega)) (WO.o rfl (R.loadK Tryz.isAgg125 Tryz.sizeOf125 rfl (by rfl) hc_x) (WO.call rfl rfl rfl (F.callV (vs := [_]) hf rfl rfl) (hc x hm_x _ hL1) ?_))))))))))))))
  rintro _ wz1 ⟨rfl, hz1⟩
  replace hvs := hvs.ext stable_vr hz1
  replace hL1 := hL1.ext hz1
  replace hc_x := hz1.cells hc_x (fun h => h)
  refine WO.nil (WX.next (WC.bool rfl (fun hp => ?_) (fun hp => ?_)))
  ·
   refine WC.sr (WO.mv rfl rfl (WO.a rfl rfl (WO.nil (WX.next (WC.ret (WX.blockR (WX.thenR (WX.thenR (WX.blockR (WX.thenR ?_))))))))))
   refine WX.ret1 Tryz.results193 rfl ⟨_, rfl, ⟨_, rfl, by rw [any_at hm_x hp]; simp⟩, hL1⟩
  · refine WC.skip (WX.blockN (WX.next (WC.region (WO.o rfl (R.add rfl rfl (wrap_i64_in (by omega))) (WO.mv rfl rfl (WO.nil (WX.back (i + 1) (Sub.of rfl) (⟨by omega, any_take_all he_x hno hp, hL1⟩) (by first | omega | (dsimp only; omega)))))))))
 ·
  have : i = vs.length := by omega
  subst this
  rw [List.take_length] at hno
  refine WC.exit (WX.thenE (WX.thenE (WX.hit (WX.next (WC.seq (WC.region (WO.a rfl rfl (WO.nil (WX.next (WC.ret ?_))))))))))
  refine WX.ret1 Tryz.results193 rfl ⟨_, rfl, ⟨_, rfl, by rw [hno]; simp⟩, hL1⟩
theorem containsV_ok (vs : List Vr) (vv : Value) (D : Nat → Prop) (w : World) (hvs : SlR 5 RVr D w vv vs) (p : Vr → Bool) (g : FuncId) (cp : Value) (hf : ∀ args w, (callFunc g args).run Tryz.prog w = .ok (.enter g args) w)
  (hc : ∀ x ∈ vs, ∀ w', Ext w w' → Calls Tryz.prog g #[.agg (encV x).toArray, cp] w' (Ret fun r w'' => r = .bool (p x) ∧ Ext w' w'')) :
  Calls Tryz.prog 151 #[vv, .func (.func g) #[] #[cp]] w (Ret fun r w' => r = .bool (vs.any p) ∧ Ext w w') := by
 have hE := Keep.refl (fun _ => False) w
 refine calls Tryz.func151 rfl [(0, vv), (1, .func (.func g) #[] #[cp])] 9 ⟨Nat.le_of_ble_eq_true rfl, Tryz.ntmps151⟩ (argsOk (Sub.of rfl)) ?_
 refine WC.sr (WO.a rfl rfl (WO.nr (WO.mv rfl rfl (WO.mv rfl rfl (WO.call rfl rfl rfl (F.call (vs := [_, _]) Tryz.call193 rfl) (indexV_ok vs vv D w hvs p g cp hf hc) ?_)))))
 rintro _ wz1 ⟨⟨i, rfl, hi⟩, hz1⟩
 replace hE := hE.ext hz1
 refine WO.o rfl (R.geq rfl rfl) (WO.a rfl rfl (WO.nil (WX.next (WC.ret ?_))))
 refine WX.ret1 Tryz.results151 rfl ⟨_, rfl, by cases h : vs.any p <;> simp [h] at hi ⊢ <;> omega, hE⟩
theorem sameV_ok (v x : Vr) (c : Nat) (w : World) (hB : Blk w c (encV x) 125) : Calls Tryz.prog 149 #[.agg (encV v).toArray, .pointer (some ⟨c, 0, none⟩)] w (Ret fun r w' => r = .bool (sameName v.name x.name) ∧ Ext w w') := by
 have hE := Keep.refl (fun _ => False) w
 refine calls Tryz.func149 rfl [(0, .agg #[.string v.name, .int .i64 v.kind, .int .i64 v.low, .int .i64 v.high, .int .i64 v.init]), (1, .pointer (some ⟨c, 0, none⟩))] 9 ⟨Nat.le_of_ble_eq_true rfl, Tryz.ntmps149⟩ (argsOk (Sub.of rfl)) ?_
 refine WC.sr (WO.mem rfl rfl rfl (M.box rfl rfl) ?_)
 rintro _ w_b ⟨b, rfl, hg_b, hs_b, hB_b, hk_b⟩
 have hge_b : _ ≤ b := Nat.le_trans hE.size (Nat.le_of_eq hg_b.symm)
 replace hE := hE.ext hk_b
 replace hB := hk_b.blk hB (fun h => h)
 refine WO.a rfl rfl (WO.nr (WO.o rfl (R.fieldAddr Tryz.runUnderlying125 rfl Tryz.sizeOf9 rfl) (WO.o rfl (R.load Tryz.isAgg9 rfl (hB_b.cells 0 _ rfl)) (WO.o rfl (R.fieldAddr Tryz.runUnderlying125 rfl Tryz.sizeOf9 rfl) (WO.o rfl (R.load Tryz.isAgg9 rfl (hB.cells 0 _ rfl)) (WO.o rfl (R.eqStr rfl rfl) (WO.a rfl rfl (WO.nil (WX.next (WC.ret ?_))))))))))
 refine WX.ret1 Tryz.results149 rfl ⟨_, rfl, rfl, hE⟩
theorem varsCode_ok (vs : List Vr) (vv : Value) (D : Nat → Prop) (w : World) (hvs : SlR 5 RVr D w vv vs) (hlen : vs.length ≤ 1000000) : Calls Tryz.prog 102 #[vv] w (Ret fun r w' => r = .int .i64 (varsCodeN vs) ∧ Ext w w') := by
 obtain ⟨av, nv, rfl⟩ := hvs.form
 have hlc := hvs.len_cap.2
 refine calls Tryz.func102 rfl [(0, .slice av vs.length nv)] 94 ⟨Nat.le_of_ble_eq_true rfl, Tryz.ntmps102⟩ (argsOk (Sub.of rfl)) ?_
 refine WC.sr (WO.a rfl rfl (WO.nil (WX.next (WC.seq (WC.seq (WC.region ?_))))))
 refine WO.mv rfl rfl (WO.o rfl (R.lenS rfl Tryz.runUnderlying22 rfl) (WO.mv rfl rfl (WO.nil (WX.next ?_))))
 refine WC.cut (σ := Unit) (fun u => [(0, .slice av vs.length nv)]) (fun u => fun w' => (∀ j, j < vs.length → varAt vs j = 0) ∧ Ext w w') ?_ ?_
 ·
  refine WC.block (WC.loop (σ := Nat) (fun i => [(0, .slice av vs.length nv), (10, .slice av vs.length nv), (11, .int .i64 vs.length), (12, .int .i64 i)]) (fun i => fun w' => i ≤ vs.length ∧ (∀ j, j < i → varAt vs j = 0) ∧ Ext w w') (fun i => vs.length - i) (0) (Sub.of rfl) (⟨Nat.zero_le _, fun j h => absurd h (Nat.not_lt_zero _), Keep.refl _ _⟩) ?_)
  rintro i w1 ⟨hi, hall, hL1⟩
  show WC _ _ _ _ [(0, .slice av vs.length nv), (10, .slice av vs.length nv), (11, .int .i64 vs.length), (12, .int .i64 i)] _
  replace hvs := hvs.ext stable_vr hL1
  refine WC.sr (WO.o rfl (R.lss rfl rfl) (WO.nil (WX.next (WC.seq ?_))))
  refine WC.ite rfl (fun hlt => ?_) (fun hlt => ?_)
  ·
   obtain ⟨x, he_x⟩ : ∃ x, vs[i]? = some x := ⟨_, List.getElem?_eq_getElem (by omega)⟩
   have hm_x := List.mem_of_getElem? he_x
   obtain ⟨b_x, o_x, c_x, ha_x, _, hc_x, hR_x⟩ := hvs.at he_x
   have h1_x := RVr.one hR_x
   obtain rfl := hR_x
   have hlt_x : b_x < _ := World.block_lt_of_cell? _ _ (hc_x 0 _ rfl)
   have hat := varAt_eq he_x
   have hbad : ∀ c : Int, varCode (vs.take i) x = c → c ≠ 0 → varsCodeN vs = c := by
    intro c h1 h2
    have h3 : varAt vs i ≠ 0 := by rw [hat, h1]; exact h2
    rw [varsCodeN, firstBad_at hall (by omega) h3, if_pos h3, hat, h1]
   have hnext : varCode (vs.take i) x = 0 → ∀ j, j < i + 1 → varAt vs j = 0 := by
    intro h j hj
    by_cases e : j = i
    · subst e; rw [hat, h]
    · exact hall j (by omega)
   refine WC.skip (WX.next (WC.seq (WC.block (WC.seq (WC.region (WO.mv rfl rfl (WO.o rfl (R.indexS Tryz.runUnderlying22 Tryz.sizeOf125 rfl rfl ha_x (by omega)) (WO.o rfl (R.loadK Tryz.isAgg125 Tryz.sizeOf125 rfl (by rfl) hc_x) (WO.mem rfl rfl rfl (M.alloc (cs := _) Tryz.zeroValue125 rfl) ?_)))))))))
   rintro _ wa1 ⟨c, rfl, hg_c, hs_c, hB_c, hk_c⟩
   refine WO.a rfl rfl (WO.mem0 rfl rfl (M.storeK Tryz.sizeOf125 rfl rfl rfl rfl h1_x hB_c (by simp)) ?_)
   rintro w_c ⟨_, hB_c, hkk_c⟩
   replace hk_c := hk_c.trans hkk_c (fun q hq h => by have h : q = c := h; omega)
   replace hvs := hvs.ext stable_vr hk_c
   replace hL1 := hL1.ext hk_c
   replace hc_x := hk_c.cells hc_x (fun h => h)
   refine WO.nr (WO.o rfl (R.makeFunc (fs := []) (cs := [_]) rfl rfl) (WO.a rfl rfl (WO.nil (WX.next (WC.block (WC.seq (WC.region ?_)))))))
   refine WO.o rfl (R.fieldAddr Tryz.runUnderlying125 rfl Tryz.sizeOf9 rfl) (WO.o rfl (R.load Tryz.isAgg9 rfl (hB_c.cells 0 _ rfl)) (WO.call rfl rfl rfl (F.call (vs := [_]) Tryz.call150 rfl) (flatIsName_ok x.name _) ?_))
   rintro _ wz2 ⟨rfl, hz2⟩
   replace hvs := hvs.ext stable_vr hz2
   replace hL1 := hL1.ext hz2
   replace hc_x := hz2.cells hc_x (fun h => h)
   replace hB_c := hz2.blk hB_c (fun h => h)
   refine WO.o rfl (R.notU rfl (by first | exact not_decide_eq | rfl)) (WO.a rfl rfl (WO.nil (WX.next ?_)))
   refine WC.bool rfl (fun n0 => ?_) (fun n0 => ?_)
   ·
    have n0' : isNm x.name = false := by simpa using n0
    refine WC.sr (WO.a rfl rfl (WO.nil (WX.next (WC.ret (WX.blockR (WX.blockR (WX.thenR (WX.thenR (WX.blockR (WX.thenR (WX.thenR ?_)))))))))))
    refine WX.ret1 Tryz.results102 rfl ⟨_, rfl, by rw [hbad 7 (by rw [varCode, if_pos n0']) (by decide)], hL1⟩
   ·
    have n0' : ¬ isNm x.name = false := by simpa using n0
    refine WC.sr (WO.mv rfl rfl (WO.mv rfl rfl (WO.o rfl (R.cutHi Tryz.runUnderlying22 Tryz.sizeOf125 rfl rfl (by omega)) (WO.mv rfl rfl ?_))))
    have htk := hvs.take i (by omega)
    have hBx : Blk _ c (encV x) 125 := hB_c
    refine WO.call rfl rfl rfl (F.call (vs := [_, _]) Tryz.call151 rfl) (containsV_ok (vs.take i) _ D _ htk (fun u => sameName u.name x.name) 149 (.pointer (some ⟨c, 0, none⟩)) Tryz.call149 (fun y _ w' hw' => sameV_ok y x c w' (hw'.blk hBx (fun h => h)))) ?_
    rintro _ wz3 ⟨rfl, hz3⟩
    replace hvs := hvs.ext stable_vr hz3
    replace hL1 := hL1.ext hz3
    replace hc_x := hz3.cells hc_x (fun h => h)
    replace hB_c := hz3.blk hB_c (fun h => h)
    refine WO.a rfl rfl (WO.nil (WX.next ?_))
    refine WC.bool rfl (fun d0 => ?_) (fun d0 => ?_)
    ·
     refine WC.sr (WO.a rfl rfl (WO.nil (WX.next (WC.ret (WX.blockR (WX.blockR (WX.thenR (WX.thenR (WX.blockR (WX.thenR (WX.thenR ?_)))))))))))
     refine WX.ret1 Tryz.results102 rfl ⟨_, rfl, by rw [hbad 8 (by rw [varCode, if_neg n0', if_pos d0]) (by decide)], hL1⟩
    ·
     have n1 : ¬ (vs.take i).any (fun u => sameName u.name x.name) = true := by rw [d0]; decide
     refine WC.sr (WO.o rfl (R.fieldAddr Tryz.runUnderlying125 rfl Tryz.sizeOf121 rfl) (WO.o rfl (R.load Tryz.isAgg121 rfl (hB_c.cells 1 _ rfl)) (WO.o rfl (R.lss rfl rfl) (WO.mv rfl rfl (WO.splitP (d := 33) rfl (fun k0 => ?_) (fun k0 => ?_))))))
     ·
      have n2 : ¬ (0 ≤ x.kind ∧ x.kind ≤ 3) := by omega
      refine WO.no rfl rfl (dT k0) rfl (WO.no rfl rfl (dT k0) rfl (WO.no rfl rfl (dT k0) rfl (WO.o rfl (R.pickT rfl (dT k0) rfl) (WO.a rfl rfl (WO.nil (WX.next ?_))))))
      refine WC.tt rfl (rfl) (WC.sr (WO.a rfl rfl (WO.nil (WX.next (WC.ret (WX.blockR (WX.blockR (WX.thenR (WX.thenR (WX.blockR (WX.thenR (WX.thenR ?_))))))))))))
      refine WX.ret1 Tryz.results102 rfl ⟨_, rfl, by rw [hbad 1 (by rw [varCode, if_neg n0', if_neg n1, if_pos n2]) (by decide)], hL1⟩
     ·
      refine WO.yes rfl rfl (dF k0) (WO.o rfl (R.fieldAddr Tryz.runUnderlying125 rfl Tryz.sizeOf121 rfl) (WO.yes rfl rfl (dF k0) (WO.o rfl (R.load Tryz.isAgg121 rfl (hB_c.cells 1 _ rfl)) (WO.yes rfl rfl (dF k0) (WO.o rfl (R.gtr rfl rfl) (WO.o rfl (R.pickF rfl (dF k0) rfl) (WO.a rfl rfl (WO.nil (WX.next ?_)))))))))
      refine WC.ite rfl (fun k1 => ?_) (fun k1 => ?_)
      ·
       have n2 : ¬ (0 ≤ x.kind ∧ x.kind ≤ 3) := by omega
       refine WC.sr (WO.a rfl rfl (WO.nil (WX.next (WC.ret (WX.blockR (WX.blockR (WX.thenR (WX.thenR (WX.blockR (WX.thenR (WX.thenR ?_)))))))))))
       refine WX.ret1 Tryz.results102 rfl ⟨_, rfl, by rw [hbad 1 (by rw [varCode, if_neg n0', if_neg n1, if_pos n2]) (by decide)], hL1⟩
      ·
       have n2 : ¬ ¬ (0 ≤ x.kind ∧ x.kind ≤ 3) := by omega
       refine WC.seq (WC.seq (WC.region (WO.o rfl (R.fieldAddr Tryz.runUnderlying125 rfl Tryz.sizeOf3 rfl) (WO.o rfl (R.load Tryz.isAgg3 rfl (hB_c.cells 2 _ rfl)) (WO.o rfl (R.fieldAddr Tryz.runUnderlying125 rfl Tryz.sizeOf3 rfl) (WO.o rfl (R.load Tryz.isAgg3 rfl (hB_c.cells 3 _ rfl)) (WO.call rfl rfl rfl (F.call (vs := [_, _]) Tryz.call152 rfl) (flatBounded_ok x.low x.high _) ?_)))))))
       rintro _ wz4 ⟨rfl, hz4⟩
       replace hvs := hvs.ext stable_vr hz4
       replace hL1 := hL1.ext hz4
       replace hc_x := hz4.cells hc_x (fun h => h)
       replace hB_c := hz4.blk hB_c (fun h => h)
       refine WO.o rfl (R.notU rfl (by first | exact not_decide_eq | rfl)) (WO.a rfl rfl (WO.nil (WX.next ?_)))
       refine WC.bool rfl (fun n3 => ?_) (fun n3 => ?_)
       ·
        have n3' : bndB x.low x.high = false := by simpa using n3
        refine WC.skip (WX.next (WC.tt rfl (n3) (WC.sr (WO.a rfl rfl (WO.nil (WX.next (WC.ret (WX.blockR (WX.blockR (WX.thenR (WX.thenR (WX.blockR (WX.thenR (WX.thenR ?_))))))))))))))
        refine WX.ret1 Tryz.results102 rfl ⟨_, rfl, by rw [hbad 3 (by rw [varCode, if_neg n0', if_neg n1, if_neg n2, if_pos n3']) (by decide)], hL1⟩
       ·
        have n3' : ¬ bndB x.low x.high = false := by simpa using n3
        have b4 : x.kind = 0 ∧ (x.init < x.low ∨ x.high < x.init) ∨ x.kind ≠ 0 ∧ x.init ≠ 0 → varsCodeN vs = 3 := fun h => hbad 3 (by rw [varCode, if_neg n0', if_neg n1, if_neg n2, if_neg n3', if_pos h]) (by decide)
        have g4 : ¬ (x.kind = 0 ∧ (x.init < x.low ∨ x.high < x.init) ∨ x.kind ≠ 0 ∧ x.init ≠ 0) → varCode (vs.take i) x = 0 := fun h => by rw [varCode, if_neg n0', if_neg n1, if_neg n2, if_neg n3', if_neg h]
        refine WC.sr (WO.o rfl (R.fieldAddr Tryz.runUnderlying125 rfl Tryz.sizeOf121 rfl) (WO.o rfl (R.load Tryz.isAgg121 rfl (hB_c.cells 1 _ rfl)) (WO.o rfl (R.neq rfl rfl) (WO.mv rfl rfl (WO.splitP (d := 48) rfl (fun kk => ?_) (fun kk => ?_))))))
        ·
         refine WO.yes rfl rfl (dT kk) (WO.o rfl (R.fieldAddr Tryz.runUnderlying125 rfl Tryz.sizeOf3 rfl) (WO.yes rfl rfl (dT kk) (WO.o rfl (R.load Tryz.isAgg3 rfl (hB_c.cells 4 _ rfl)) (WO.yes rfl rfl (dT kk) (WO.o rfl (R.neq rfl rfl) (WO.o rfl (R.pickT rfl (dT kk) rfl) (WO.a rfl rfl (WO.nil (WX.next ?_)))))))))
         refine WC.ite rfl (fun i2 => ?_) (fun i2 => ?_)
         ·
          refine WC.skip (WX.next (WC.tt rfl ((dT i2)) (WC.sr (WO.a rfl rfl (WO.nil (WX.next (WC.ret (WX.blockR (WX.blockR (WX.thenR (WX.thenR (WX.blockR (WX.thenR (WX.thenR ?_))))))))))))))
          refine WX.ret1 Tryz.results102 rfl ⟨_, rfl, by rw [b4 (by omega)], hL1⟩
         ·
          refine WC.region (WO.o rfl (R.fieldAddr Tryz.runUnderlying125 rfl Tryz.sizeOf121 rfl) (WO.o rfl (R.load Tryz.isAgg121 rfl (hB_c.cells 1 _ rfl)) (WO.o rfl (R.eql rfl rfl) (WO.mv rfl rfl (WO.splitP (d := 56) rfl (fun k0' => ?_) (fun k0' => ?_))))))
          · exact absurd k0' kk
          ·
           refine WO.no rfl rfl (decide_eq_false k0') rfl (WO.no rfl rfl (decide_eq_false k0') rfl (WO.no rfl rfl (decide_eq_false k0') rfl (WO.no rfl rfl (decide_eq_false k0') rfl (WO.no rfl rfl (decide_eq_false k0') rfl (WO.no rfl rfl (decide_eq_false k0') rfl (WO.noU rfl rfl rfl (WO.noU rfl rfl rfl (WO.noU rfl rfl rfl (WO.noU rfl rfl rfl (WO.noU rfl rfl rfl (WO.no rfl rfl (decide_eq_false k0') rfl (WO.o rfl (R.pickF rfl (decide_eq_false k0') rfl) (WO.a rfl rfl (WO.nil (WX.next ?_)))))))))))))))
           refine WC.ff rfl (rfl) (WC.skip (WX.blockN (WX.blockN (WX.next (WC.region ?_)))))
           refine WO.o rfl (R.add rfl rfl (wrap_i64_in (by omega))) (WO.mv rfl rfl (WO.nil (WX.back (i + 1) (Sub.of rfl) (⟨by omega, hnext (g4 (by omega)), hL1⟩) (by first | omega | (dsimp only; omega)))))
        ·
         refine WO.no rfl rfl (dF kk) rfl (WO.no rfl rfl (dF kk) rfl (WO.no rfl rfl (dF kk) rfl (WO.o rfl (R.pickF rfl (dF kk) rfl) (WO.a rfl rfl (WO.nil (WX.next ?_))))))
         refine WC.ff rfl (rfl) (WC.region (WO.o rfl (R.fieldAddr Tryz.runUnderlying125 rfl Tryz.sizeOf121 rfl) (WO.o rfl (R.load Tryz.isAgg121 rfl (hB_c.cells 1 _ rfl)) (WO.o rfl (R.eql rfl rfl) (WO.mv rfl rfl (WO.splitP (d := 56) rfl (fun k0' => ?_) (fun k0' => ?_)))))))
         ·
          refine WO.yes rfl rfl (decide_eq_true k0') (WO.o rfl (R.fieldAddr Tryz.runUnderlying125 rfl Tryz.sizeOf3 rfl) (WO.yes rfl rfl (decide_eq_true k0') (WO.o rfl (R.load Tryz.isAgg3 rfl (hB_c.cells 4 _ rfl)) (WO.yes rfl rfl (decide_eq_true k0') (WO.o rfl (R.fieldAddr Tryz.runUnderlying125 rfl Tryz.sizeOf3 rfl) (WO.yes rfl rfl (decide_eq_true k0') (WO.o rfl (R.load Tryz.isAgg3 rfl (hB_c.cells 2 _ rfl)) (WO.yes rfl rfl (decide_eq_true k0') (WO.o rfl (R.lss rfl rfl) (WO.yes rfl rfl (decide_eq_true k0') (WO.mv rfl rfl (WO.splitP (d := 62) rfl (fun i0 => ?_) (fun i0 => ?_)))))))))))))
          ·
           refine WO.no rfl rfl (dT i0) rfl (WO.no rfl rfl (dT i0) rfl (WO.no rfl rfl (dT i0) rfl (WO.no rfl rfl (dT i0) rfl (WO.no rfl rfl (dT i0) rfl (WO.yes rfl rfl (decide_eq_true k0') (WO.o rfl (R.pickT rfl (dT i0) rfl) (WO.o rfl (R.pickT rfl (decide_eq_true k0') rfl) (WO.a rfl rfl (WO.nil (WX.next ?_))))))))))
           refine WC.tt rfl (rfl) (WC.sr (WO.a rfl rfl (WO.nil (WX.next (WC.ret (WX.blockR (WX.blockR (WX.thenR (WX.thenR (WX.blockR (WX.thenR (WX.thenR ?_))))))))))))
           refine WX.ret1 Tryz.results102 rfl ⟨_, rfl, by rw [b4 (by omega)], hL1⟩
          ·
           refine WO.yes rfl rfl (dF i0) (WO.o rfl (R.fieldAddr Tryz.runUnderlying125 rfl Tryz.sizeOf3 rfl) (WO.yes rfl rfl (dF i0) (WO.o rfl (R.load Tryz.isAgg3 rfl (hB_c.cells 4 _ rfl)) (WO.yes rfl rfl (dF i0) (WO.o rfl (R.fieldAddr Tryz.runUnderlying125 rfl Tryz.sizeOf3 rfl) (WO.yes rfl rfl (dF i0) (WO.o rfl (R.load Tryz.isAgg3 rfl (hB_c.cells 3 _ rfl)) (WO.yes rfl rfl (dF i0) (WO.o rfl (R.gtr rfl rfl) (WO.yes rfl rfl (decide_eq_true k0') (WO.o rfl (R.pickF rfl (dF i0) rfl) (WO.o rfl (R.pickT rfl (decide_eq_true k0') rfl) (WO.a rfl rfl (WO.nil (WX.next ?_)))))))))))))))
           refine WC.ite rfl (fun i1 => ?_) (fun i1 => ?_)
           ·
            refine WC.sr (WO.a rfl rfl (WO.nil (WX.next (WC.ret (WX.blockR (WX.blockR (WX.thenR (WX.thenR (WX.blockR (WX.thenR (WX.thenR ?_)))))))))))
            refine WX.ret1 Tryz.results102 rfl ⟨_, rfl, by rw [b4 (by omega)], hL1⟩
           · refine WC.skip (WX.blockN (WX.blockN (WX.next (WC.region (WO.o rfl (R.add rfl rfl (wrap_i64_in (by omega))) (WO.mv rfl rfl (WO.nil (WX.back (i + 1) (Sub.of rfl) (⟨by omega, hnext (g4 (by omega)), hL1⟩) (by first | omega | (dsimp only; omega))))))))))
         · exact absurd k0' kk
  ·
   have hii : i = vs.length := by omega
   subst hii
   refine WC.exit (WX.thenE (WX.thenE (WX.hit (WX.meet (()) (Sub.of rfl) (⟨hall, hL1⟩)))))
 rintro u w2 ⟨hall, hX⟩
 show WX _ _ _ [(0, .slice av vs.length nv)] _
 replace hvs := hvs.ext stable_vr hX
 have hg := varsAll_good hall
 have hz := firstBad_zero hall
 have hgo : ∀ v ∈ vs, Good (v.low, v.high) := fun v hv => (hg v hv).1
 have hv : varsCodeN vs = if spaceBad vs then 4 else 0 := by rw [varsCodeN, if_neg (by simp [hz])]
 refine WX.next (WC.seq (WC.seq (WC.region (WO.mem rfl rfl rfl (M.buildSlice (cs := [.int .i64 1, .int .i64 2, .int .i64 3]) [(0, _), (1, _), (2, _)] Tryz.runUnderlying210 Tryz.sizeOf121 Tryz.zeroValue121 (by decide) rfl (by kernel_rfl)) ?_))))
 rintro _ w3 ⟨b3, rfl, hg_b3, hs_b3, hB_b3, hk_b3⟩
 replace hvs := hvs.ext stable_vr hk_b3
 replace hX := hX.ext hk_b3
 have hBe : Blk w3 b3 (((List.range 3).map (fun (j : Nat) => (j : Int) + 1)).map (.int .i64)) 121 := hB_b3
 refine WO.o rfl (R.lenS rfl Tryz.runUnderlying210 rfl) (WO.mv rfl rfl (WO.nil (WX.next (WC.block ?_))))
 refine WC.loop (σ := Nat) (fun k => [(0, .slice av vs.length nv), (71, .slice (some ⟨b3, 0, none⟩) 3 3), (72, .int .i64 3), (73, .int .i64 k)]) (fun k => fun w' => k ≤ 3 ∧ (∀ j, j < k → ∃ n, spaceN ((j : Int) + 1) vs = some n ∧ (j = 2 → n ≤ 256)) ∧ Ext w3 w') (fun k => 3 - k) (0) (Sub.of rfl) (⟨Nat.zero_le _, fun j h => absurd h (Nat.not_lt_zero _), Keep.refl _ _⟩) ?_
 rintro k w4 ⟨hk, hall2, hL2⟩
 show WC _ _ _ _ [(0, .slice av vs.length nv), (71, .slice (some ⟨b3, 0, none⟩) 3 3), (72, .int .i64 3), (73, .int .i64 k)] _
 replace hvs := hvs.ext stable_vr hL2
 replace hX := hX.ext hL2
 replace hB_b3 := hL2.blk hB_b3 (fun h => h)
 replace hBe := hL2.blk hBe (fun h => h)
 refine WC.sr (WO.o rfl (R.lss rfl rfl) (WO.nil (WX.next (WC.seq ?_))))
 refine WC.ite rfl (fun hlt => ?_) (fun hlt => ?_)
 ·
  have hkx : ((List.range 3).map (fun (j : Nat) => (j : Int) + 1))[k]? = some ((k : Int) + 1) := by
   rw [List.getElem?_map, List.getElem?_range (by omega)]; rfl
  have hbadk : (spaceN ((k : Int) + 1) vs = none ∨ ∃ n, spaceN ((k : Int) + 1) vs = some n ∧ k = 2 ∧ 256 < n) → varsCodeN vs = 4 := by
   intro h
   rw [hv]
   have : spaceBad vs = true := by
    unfold spaceBad
    rcases (show k = 0 ∨ k = 1 ∨ k = 2 by omega) with rfl | rfl | rfl
    ·
     rcases h with h | ⟨n, h, h2, _⟩
     · simp at h; simp [h]
     · omega
    ·
     rcases h with h | ⟨n, h, h2, _⟩
     · simp at h; simp [h]
     · omega
    ·
     rcases h with h | ⟨n, h, _, h3⟩
     · simp at h; simp [h]
     · simp at h; simp [h, h3]
   rw [this]; rfl
  refine WC.skip (WX.next (WC.seq (WC.block (WC.seq (WC.region (WO.o rfl (R.indexS Tryz.runUnderlying210 Tryz.sizeOf121 rfl rfl rfl (by omega)) (WO.o rfl (R.load Tryz.isAgg121 rfl (hBe.cells.el1 k rfl (by rw [List.getElem?_map, hkx]; rfl))) ?_)))))))
  refine WO.a rfl rfl (WO.nr (WO.mv rfl rfl (WO.mv rfl rfl (WO.call rfl rfl rfl (F.call (vs := [_, _]) Tryz.call153 rfl) (domSpace_ok vs ((k : Int) + 1) _ D _ (by omega) hgo hvs hlen) ?_))))
  rintro _ wz5 ⟨rfl, hz5⟩
  replace hvs := hvs.ext stable_vr hz5
  replace hX := hX.ext hz5
  replace hB_b3 := hz5.blk hB_b3 (fun h => h)
  replace hBe := hz5.blk hBe (fun h => h)
  replace hL2 := hL2.ext hz5
  refine WO.mv rfl rfl (WO.o rfl (R.extract rfl rfl) (WO.o rfl (R.extract rfl rfl) (WO.a rfl rfl (WO.a rfl rfl (WO.nr (WO.mv rfl rfl (WO.o rfl (R.neq rfl rfl) (WO.mv rfl rfl ?_))))))))
  have hstep : (∃ n, spaceN ((k : Int) + 1) vs = some n ∧ (k = 2 → n ≤ 256)) → ∀ j, j < k + 1 → ∃ n, spaceN ((j : Int) + 1) vs = some n ∧ (j = 2 → n ≤ 256) := by
   intro h j hj
   by_cases e : j = k
   · subst e; exact h
   · exact hall2 j (by omega)
  rcases hs : spaceN ((k : Int) + 1) vs with _ | n
  ·
   refine WO.splitP (d := 85) rfl (fun c0 => ?_) (fun c0 => ?_)
   ·
    refine WO.no rfl rfl (dT c0) rfl (WO.no rfl rfl (dT c0) rfl (WO.no rfl rfl (dT c0) rfl (WO.noU rfl rfl rfl (WO.noU rfl rfl rfl (WO.no rfl rfl (dT c0) rfl (WO.o rfl (R.pickT rfl (dT c0) rfl) (WO.nil (WX.next ?_))))))))
    refine WC.tt rfl (rfl) (WC.sr (WO.a rfl rfl (WO.nil (WX.next (WC.ret (WX.blockR (WX.thenR (WX.thenR (WX.blockR (WX.thenR ?_))))))))))
    refine WX.ret1 Tryz.results102 rfl ⟨_, rfl, by rw [hbadk (.inl hs)], hX⟩
   · exact absurd (by decide) c0
  ·
   refine WO.splitP (d := 85) rfl (fun c0 => ?_) (fun c0 => ?_)
   · exact absurd c0 (by simp)
   ·
    refine WO.yes rfl rfl (dF c0) (WO.mv rfl rfl (WO.yes rfl rfl (dF c0) (WO.o rfl (R.eql rfl rfl) (WO.yes rfl rfl (dF c0) (WO.mv rfl rfl (WO.splitP (d := 88) rfl (fun k3 => ?_) (fun k3 => ?_)))))))
    ·
     refine WO.yes rfl rfl (dT k3) (WO.mv rfl rfl (WO.yes rfl rfl (dT k3) (WO.o rfl (R.gtr rfl rfl) (WO.yes rfl rfl (dF c0) (WO.o rfl (R.pickT rfl (dT k3) rfl) (WO.o rfl (R.pickF rfl (dF c0) rfl) (WO.nil (WX.next ?_))))))))
     refine WC.ite rfl (fun n3 => ?_) (fun n3 => ?_)
     ·
      have n3' : (256 : Int) < n := n3
      refine WC.sr (WO.a rfl rfl (WO.nil (WX.next (WC.ret (WX.blockR (WX.thenR (WX.thenR (WX.blockR (WX.thenR ?_)))))))))
      refine WX.ret1 Tryz.results102 rfl ⟨_, rfl, by rw [hbadk (.inr ⟨n, hs, by omega, n3'⟩)], hX⟩
     ·
      have n3' : ¬ (256 : Int) < n := n3
      refine WC.skip (WX.blockN (WX.next (WC.region (WO.o rfl (R.add rfl rfl (wrap_i64_in (by omega))) (WO.mv rfl rfl (WO.nil (WX.back (k + 1) (Sub.of rfl) (⟨by omega, hstep ⟨n, hs, fun _ => by omega⟩, hL2⟩) (by first | omega | (dsimp only; omega)))))))))
    ·
     refine WO.no rfl rfl (dF k3) rfl (WO.no rfl rfl (dF k3) rfl (WO.yes rfl rfl (dF c0) (WO.o rfl (R.pickF rfl (dF k3) rfl) (WO.o rfl (R.pickF rfl (dF c0) rfl) (WO.nil (WX.next ?_))))))
     refine WC.ff rfl (rfl) (WC.skip (WX.blockN (WX.next (WC.region ?_))))
     refine WO.o rfl (R.add rfl rfl (wrap_i64_in (by omega))) (WO.mv rfl rfl (WO.nil (WX.back (k + 1) (Sub.of rfl) (⟨by omega, hstep ⟨n, hs, fun h => absurd (by omega) k3⟩, hL2⟩) (by first | omega | (dsimp only; omega)))))
 ·
  have hk3 : k = 3 := by omega
  subst hk3
  obtain ⟨n1, h1, _⟩ := hall2 0 (by omega)
  obtain ⟨n2, h2, _⟩ := hall2 1 (by omega)
  obtain ⟨n3, h3, h4⟩ := hall2 2 (by omega)
  have hsb : spaceBad vs = false := by
   simp at h1 h2 h3
   unfold spaceBad
   simp [h1, h2, h3]
   exact h4 rfl
  rw [hsb] at hv
  refine WC.exit (WX.thenE (WX.thenE (WX.hit (WX.next (WC.seq (WC.region (WO.a rfl rfl (WO.nil (WX.next (WC.ret ?_))))))))))
  refine WX.ret1 Tryz.results102 rfl ⟨_, rfl, by rw [hv]; rfl, hX⟩
def plainB (t : Tm) : Bool := decide (t.op = 0) && decide (t.n = 0) && decide (t.kids.length = 0)
theorem refPlain_ok (t : Tm) (cs : List Value) (D : Nat → Prop) (w : World) (ht : RTm D w t cs) : Calls Tryz.prog 163 #[.agg cs.toArray] w (Ret fun r w' => r = .bool (plainB t) ∧ Ext w w') := by
 obtain ⟨v, rfl, hk⟩ := ht.get
 obtain ⟨ao, cap, rfl⟩ := hk.form
 have hE := Keep.refl (fun _ => False) w
 refine calls Tryz.func163 rfl [(0, .agg #[.int .i64 t.op, .int .i64 t.n, .slice ao t.kids.length cap])] 17 ⟨Nat.le_of_ble_eq_true rfl, Tryz.ntmps163⟩ (argsOk (Sub.of rfl)) ?_
 refine WC.sr (WO.mem rfl rfl rfl (M.box rfl rfl) ?_)
 rintro _ w_b ⟨b, rfl, hg_b, hs_b, hB_b, hk_b⟩
 have hge_b : _ ≤ b := Nat.le_trans hE.size (Nat.le_of_eq hg_b.symm)
 replace hE := hE.ext hk_b
 refine WO.a rfl rfl (WO.nr (WO.o rfl (R.fieldAddr Tryz.runUnderlying84 rfl Tryz.sizeOf81 rfl) (WO.o rfl (R.load Tryz.isAgg81 rfl (hB_b.cells 0 _ rfl)) (WO.o rfl (R.eql rfl rfl) (WO.mv rfl rfl (WO.splitP (d := 6) rfl (fun hh1 => ?_) (fun hh1 => ?_)))))))
 ·
  refine WO.yes rfl rfl (dT hh1) (WO.o rfl (R.fieldAddr Tryz.runUnderlying84 rfl Tryz.sizeOf3 rfl) (WO.yes rfl rfl (dT hh1) (WO.o rfl (R.load Tryz.isAgg3 rfl (hB_b.cells 1 _ rfl)) (WO.yes rfl rfl (dT hh1) (WO.o rfl (R.eql rfl rfl) (WO.o rfl (R.pickT rfl (dT hh1) rfl) (WO.mv rfl rfl (WO.splitP (d := 11) rfl (fun hh2 => ?_) (fun hh2 => ?_)))))))))
  ·
   refine WO.yes rfl rfl (dT hh2) (WO.o rfl (R.fieldAddr Tryz.runUnderlying84 rfl Tryz.sizeOf82 rfl) (WO.yes rfl rfl (dT hh2) (WO.o rfl (R.load Tryz.isAgg82 rfl (hB_b.cells 2 _ rfl)) (WO.yes rfl rfl (dT hh2) (WO.o rfl (R.lenS rfl Tryz.runUnderlying82 rfl) (WO.yes rfl rfl (dT hh2) (WO.o rfl (R.eql rfl rfl) (WO.o rfl (R.pickT rfl (dT hh2) rfl) (WO.a rfl rfl (WO.nil (WX.next (WC.ret ?_))))))))))))
   refine WX.ret1 Tryz.results163 rfl ⟨_, rfl, by simp [plainB, *], hE⟩
  ·
   refine WO.no rfl rfl (dF hh2) rfl (WO.no rfl rfl (dF hh2) rfl (WO.no rfl rfl (dF hh2) rfl (WO.no rfl rfl (dF hh2) rfl (WO.o rfl (R.pickF rfl (dF hh2) rfl) (WO.a rfl rfl (WO.nil (WX.next (WC.ret ?_))))))))
   refine WX.ret1 Tryz.results163 rfl ⟨_, rfl, by simp [plainB, *], hE⟩
 ·
  refine WO.no rfl rfl (dF hh1) rfl (WO.no rfl rfl (dF hh1) rfl (WO.no rfl rfl (dF hh1) rfl (WO.o rfl (R.pickF rfl (dF hh1) rfl) (WO.mv rfl rfl (WO.z rfl (WO.z rfl (WO.z rfl (WO.z rfl (WO.o rfl (R.pickF rfl rfl rfl) (WO.a rfl rfl (WO.nil (WX.next (WC.ret ?_)))))))))))))
  refine WX.ret1 Tryz.results163 rfl ⟨_, rfl, by simp [plainB, *], hE⟩
theorem flatZero_ok (t : Tm) (cs : List Value) (D : Nat → Prop) (w : World) (ht : RTm D w t cs) : Calls Tryz.prog 201 #[.agg cs.toArray] w (Ret fun r w' => r = .bool (plainB t) ∧ Ext w w') := by
 obtain ⟨v, rfl, hk⟩ := ht.get
 obtain ⟨ao, cap, rfl⟩ := hk.form
 have hE := Keep.refl (fun _ => False) w
 refine calls Tryz.func201 rfl [(0, .agg #[.int .i64 t.op, .int .i64 t.n, .slice ao t.kids.length cap])] 17 ⟨Nat.le_of_ble_eq_true rfl, Tryz.ntmps201⟩ (argsOk (Sub.of rfl)) ?_
 refine WC.sr (WO.mem rfl rfl rfl (M.box rfl rfl) ?_)
 rintro _ w_b ⟨b, rfl, hg_b, hs_b, hB_b, hk_b⟩
 have hge_b : _ ≤ b := Nat.le_trans hE.size (Nat.le_of_eq hg_b.symm)
 replace hE := hE.ext hk_b
 refine WO.a rfl rfl (WO.nr (WO.o rfl (R.fieldAddr Tryz.runUnderlying84 rfl Tryz.sizeOf81 rfl) (WO.o rfl (R.load Tryz.isAgg81 rfl (hB_b.cells 0 _ rfl)) (WO.o rfl (R.eql rfl rfl) (WO.mv rfl rfl (WO.splitP (d := 6) rfl (fun hh1 => ?_) (fun hh1 => ?_)))))))
 ·
  refine WO.yes rfl rfl (dT hh1) (WO.o rfl (R.fieldAddr Tryz.runUnderlying84 rfl Tryz.sizeOf3 rfl) (WO.yes rfl rfl (dT hh1) (WO.o rfl (R.load Tryz.isAgg3 rfl (hB_b.cells 1 _ rfl)) (WO.yes rfl rfl (dT hh1) (WO.o rfl (R.eql rfl rfl) (WO.o rfl (R.pickT rfl (dT hh1) rfl) (WO.mv rfl rfl (WO.splitP (d := 11) rfl (fun hh2 => ?_) (fun hh2 => ?_)))))))))
  ·
   refine WO.yes rfl rfl (dT hh2) (WO.o rfl (R.fieldAddr Tryz.runUnderlying84 rfl Tryz.sizeOf82 rfl) (WO.yes rfl rfl (dT hh2) (WO.o rfl (R.load Tryz.isAgg82 rfl (hB_b.cells 2 _ rfl)) (WO.yes rfl rfl (dT hh2) (WO.o rfl (R.lenS rfl Tryz.runUnderlying82 rfl) (WO.yes rfl rfl (dT hh2) (WO.o rfl (R.eql rfl rfl) (WO.o rfl (R.pickT rfl (dT hh2) rfl) (WO.a rfl rfl (WO.nil (WX.next (WC.ret ?_))))))))))))
   refine WX.ret1 Tryz.results201 rfl ⟨_, rfl, by simp [plainB, *], hE⟩
  ·
   refine WO.no rfl rfl (dF hh2) rfl (WO.no rfl rfl (dF hh2) rfl (WO.no rfl rfl (dF hh2) rfl (WO.no rfl rfl (dF hh2) rfl (WO.o rfl (R.pickF rfl (dF hh2) rfl) (WO.a rfl rfl (WO.nil (WX.next (WC.ret ?_))))))))
   refine WX.ret1 Tryz.results201 rfl ⟨_, rfl, by simp [plainB, *], hE⟩
 ·
  refine WO.no rfl rfl (dF hh1) rfl (WO.no rfl rfl (dF hh1) rfl (WO.no rfl rfl (dF hh1) rfl (WO.o rfl (R.pickF rfl (dF hh1) rfl) (WO.mv rfl rfl (WO.z rfl (WO.z rfl (WO.z rfl (WO.z rfl (WO.o rfl (R.pickF rfl rfl rfl) (WO.a rfl rfl (WO.nil (WX.next (WC.ret ?_)))))))))))))
  refine WX.ret1 Tryz.results201 rfl ⟨_, rfl, by simp [plainB, *], hE⟩
@[irreducible] def uvB (a : Int) : Bool := decide (a = 0 ∨ a = 5)
@[irreducible] def unB (a : Int) : Bool := decide (a = 4 ∨ a = 5)
@[irreducible] def utB (a : Int) : Bool := decide (a = 0 ∨ a = 1 ∨ a = 3 ∨ a = 4)
theorem usesVar_ok (a : Int) (w : World) : Calls Tryz.prog 198 #[.int .i64 a] w (Ret fun r w' => r = .bool (uvB a) ∧ Ext w w') := by
 refine calls Tryz.func198 rfl [(0, .int .i64 a)] 9 ⟨Nat.le_of_ble_eq_true rfl, Tryz.ntmps198⟩ (argsOk (Sub.of rfl)) ?_
 refine WC.sr (WO.a rfl rfl (WO.nr (WO.mv rfl rfl (WO.o rfl (R.eql rfl rfl) (WO.mv rfl rfl (WO.splitP (d := 5) rfl (fun hh1 => ?_) (fun hh1 => ?_)))))))
 ·
  refine WO.no rfl rfl (dT hh1) rfl (WO.no rfl rfl (dT hh1) rfl (WO.o rfl (R.pickT rfl (dT hh1) rfl) (WO.a rfl rfl (WO.nil (WX.next (WC.ret ?_))))))
  refine WX.ret1 Tryz.results198 rfl ⟨_, rfl, by unfold uvB; simp [*], Keep.refl _ _⟩
 ·
  refine WO.yes rfl rfl (dF hh1) (WO.mv rfl rfl (WO.yes rfl rfl (dF hh1) (WO.o rfl (R.eql rfl rfl) (WO.o rfl (R.pickF rfl (dF hh1) rfl) (WO.a rfl rfl (WO.nil (WX.next (WC.ret ?_))))))))
  refine WX.ret1 Tryz.results198 rfl ⟨_, rfl, by unfold uvB; simp [*], Keep.refl _ _⟩
theorem usesN_ok (a : Int) (w : World) : Calls Tryz.prog 199 #[.int .i64 a] w (Ret fun r w' => r = .bool (unB a) ∧ Ext w w') := by
 refine calls Tryz.func199 rfl [(0, .int .i64 a)] 9 ⟨Nat.le_of_ble_eq_true rfl, Tryz.ntmps199⟩ (argsOk (Sub.of rfl)) ?_
 refine WC.sr (WO.a rfl rfl (WO.nr (WO.mv rfl rfl (WO.o rfl (R.eql rfl rfl) (WO.mv rfl rfl (WO.splitP (d := 5) rfl (fun hh1 => ?_) (fun hh1 => ?_)))))))
 ·
  refine WO.no rfl rfl (dT hh1) rfl (WO.no rfl rfl (dT hh1) rfl (WO.o rfl (R.pickT rfl (dT hh1) rfl) (WO.a rfl rfl (WO.nil (WX.next (WC.ret ?_))))))
  refine WX.ret1 Tryz.results199 rfl ⟨_, rfl, by unfold unB; simp [*], Keep.refl _ _⟩
 ·
  refine WO.yes rfl rfl (dF hh1) (WO.mv rfl rfl (WO.yes rfl rfl (dF hh1) (WO.o rfl (R.eql rfl rfl) (WO.o rfl (R.pickF rfl (dF hh1) rfl) (WO.a rfl rfl (WO.nil (WX.next (WC.ret ?_))))))))
  refine WX.ret1 Tryz.results199 rfl ⟨_, rfl, by unfold unB; simp [*], Keep.refl _ _⟩
theorem usesTerm_ok (a : Int) (w : World) : Calls Tryz.prog 200 #[.int .i64 a] w (Ret fun r w' => r = .bool (utB a) ∧ Ext w w') := by
 refine calls Tryz.func200 rfl [(0, .int .i64 a)] 17 ⟨Nat.le_of_ble_eq_true rfl, Tryz.ntmps200⟩ (argsOk (Sub.of rfl)) ?_
 refine WC.sr (WO.a rfl rfl (WO.nr (WO.mv rfl rfl (WO.o rfl (R.eql rfl rfl) (WO.mv rfl rfl (WO.splitP (d := 5) rfl (fun hh1 => ?_) (fun hh1 => ?_)))))))
 ·
  refine WO.no rfl rfl (dT hh1) rfl (WO.no rfl rfl (dT hh1) rfl (WO.o rfl (R.pickT rfl (dT hh1) rfl) (WO.mv rfl rfl (WO.z rfl (WO.z rfl (WO.o rfl (R.pickT rfl rfl rfl) (WO.mv rfl rfl (WO.z rfl (WO.z rfl (WO.o rfl (R.pickT rfl rfl rfl) (WO.a rfl rfl (WO.nil (WX.next (WC.ret ?_))))))))))))))
  refine WX.ret1 Tryz.results200 rfl ⟨_, rfl, by unfold utB; simp [*], Keep.refl _ _⟩
 ·
  refine WO.yes rfl rfl (dF hh1) (WO.mv rfl rfl (WO.yes rfl rfl (dF hh1) (WO.o rfl (R.eql rfl rfl) (WO.o rfl (R.pickF rfl (dF hh1) rfl) (WO.mv rfl rfl (WO.splitP (d := 9) rfl (fun hh2 => ?_) (fun hh2 => ?_)))))))
  ·
   refine WO.no rfl rfl (dT hh2) rfl (WO.no rfl rfl (dT hh2) rfl (WO.o rfl (R.pickT rfl (dT hh2) rfl) (WO.mv rfl rfl (WO.z rfl (WO.z rfl (WO.o rfl (R.pickT rfl rfl rfl) (WO.a rfl rfl (WO.nil (WX.next (WC.ret ?_))))))))))
   refine WX.ret1 Tryz.results200 rfl ⟨_, rfl, by unfold utB; simp [*], Keep.refl _ _⟩
  ·
   refine WO.yes rfl rfl (dF hh2) (WO.mv rfl rfl (WO.yes rfl rfl (dF hh2) (WO.o rfl (R.eql rfl rfl) (WO.o rfl (R.pickF rfl (dF hh2) rfl) (WO.mv rfl rfl (WO.splitP (d := 13) rfl (fun hh3 => ?_) (fun hh3 => ?_)))))))
   ·
    refine WO.no rfl rfl (dT hh3) rfl (WO.no rfl rfl (dT hh3) rfl (WO.o rfl (R.pickT rfl (dT hh3) rfl) (WO.a rfl rfl (WO.nil (WX.next (WC.ret ?_))))))
    refine WX.ret1 Tryz.results200 rfl ⟨_, rfl, by unfold utB; simp [*], Keep.refl _ _⟩
   ·
    refine WO.yes rfl rfl (dF hh3) (WO.mv rfl rfl (WO.yes rfl rfl (dF hh3) (WO.o rfl (R.eql rfl rfl) (WO.o rfl (R.pickF rfl (dF hh3) rfl) (WO.a rfl rfl (WO.nil (WX.next (WC.ret ?_))))))))
    refine WX.ret1 Tryz.results200 rfl ⟨_, rfl, by unfold utB; simp [*], Keep.refl _ _⟩
def risingB : List Int → Bool
 | x :: y :: r => decide (x < y) && risingB (y :: r)
 | _ => true
theorem risingB_iff : ∀ l : List Int, risingB l = true ↔ ∀ i x y, l[i]? = some x → l[i + 1]? = some y → x < y
 | [] => by simp [risingB]
 | [a] => by simp [risingB]
 | a :: b :: r => by
  simp only [risingB, Bool.and_eq_true, decide_eq_true_eq, risingB_iff (b :: r)]
  constructor
  ·
   rintro ⟨h1, h2⟩ i x y hx hy
   cases i with
   | zero => simp at hx hy; subst hx; subst hy; exact h1
   | succ i => exact h2 i x y (by simpa using hx) (by simpa using hy)
  ·
   intro h
   exact ⟨h 0 a b rfl rfl, fun i x y hx hy => h (i + 1) x y (by simpa using hx) (by simpa using hy)⟩
theorem flatRising_ok (l : List Int) (v : Value) (D : Nat → Prop) (w : World) (hl : SlR 1 RInt D w v l) : Calls Tryz.prog 202 #[v] w (Ret fun r w' => r = .bool (risingB l) ∧ Ext w w') := by
 have hmx := hl.max
 obtain ⟨al, nl, rfl⟩ := hl.form
 refine calls Tryz.func202 rfl [(0, .slice al l.length nl)] 24 ⟨Nat.le_of_ble_eq_true rfl, Tryz.ntmps202⟩ (argsOk (Sub.of rfl)) ?_
 refine WC.sr (WO.a rfl rfl (WO.nil (WX.next (WC.seq (WC.seq (WC.region ?_))))))
 refine WO.mv rfl rfl (WO.o rfl (R.lenS rfl Tryz.runUnderlying50 rfl) (WO.mv rfl rfl (WO.nil (WX.next (WC.block ?_)))))
 refine WC.loop (σ := Nat) (fun i => [(0, .slice al l.length nl), (5, .int .i64 l.length), (6, .int .i64 i)]) (fun i => fun w' => i ≤ l.length ∧ (∀ j x y, j + 1 < i → l[j]? = some x → l[j + 1]? = some y → x < y) ∧ Ext w w') (fun i => l.length - i) (0) (Sub.of rfl) (⟨Nat.zero_le _, fun j x y h => absurd h (Nat.not_lt_zero _), Keep.refl _ _⟩) ?_
 rintro i w1 ⟨hi, hall, hL1⟩
 show WC _ _ _ _ [(0, .slice al l.length nl), (5, .int .i64 l.length), (6, .int .i64 i)] _
 replace hl := hl.ext stable_int hL1
 refine WC.sr (WO.o rfl (R.lss rfl rfl) (WO.nil (WX.next (WC.seq ?_))))
 refine WC.ite rfl (fun hlt => ?_) (fun hlt => ?_)
 ·
  refine WC.skip (WX.next (WC.seq (WC.block (WC.seq (WC.region (WO.mv rfl rfl (WO.a rfl rfl (WO.nil (WX.next (WC.seq ?_))))))))))
  refine WC.quiet (by kernel_rfl) (by kernel_rfl) (WQ.op rfl rfl rfl (fun w1 hw1 => R.move rfl) (WQ.op rfl rfl rfl (fun w1 hw1 => R.gtr rfl rfl) (WQ.op rfl rfl rfl (fun w1 hw1 => R.move rfl) (WQ.splitP (d := 11) rfl (fun h0 => ?_) (fun h0 => ?_)))))
  ·
   obtain ⟨k, rfl⟩ : ∃ k, i = k + 1 := ⟨i - 1, by omega⟩
   obtain ⟨x, hx⟩ : ∃ x, l[k]? = some x := ⟨_, List.getElem?_eq_getElem (by omega)⟩
   obtain ⟨y, hy⟩ : ∃ y, l[k + 1]? = some y := ⟨_, List.getElem?_eq_getElem (by omega)⟩
   obtain ⟨b_ey, o_ey, c_ey, ha_ey, _, hc_ey, hR_ey⟩ := hl.at (hy)
   obtain rfl := hR_ey
   have hlt_ey : b_ey < _ := World.block_lt_of_cell? _ _ (hc_ey 0 _ rfl)
   obtain ⟨b_x, o_x, c_x, ha_x, _, hc_x, hR_x⟩ := hl.at hx
   obtain rfl := hR_x
   have hto : (((k + 1 : Nat) : Int) - 1).toNat = k := by omega
   refine WQ.yes rfl rfl (dT h0) (WQ.op rfl rfl rfl (fun w1 hw1 => R.move rfl) (WQ.yes rfl rfl (dT h0) (WQ.op rfl rfl rfl (fun w1 hw1 => R.move rfl) (WQ.yes rfl rfl (dT h0) (WQ.op rfl rfl rfl (fun w1 hw1 => R.indexS Tryz.runUnderlying50 Tryz.sizeOf3 rfl rfl ha_ey (by omega)) (WQ.yes rfl rfl (dT h0) (WQ.op rfl rfl rfl (fun w1 hw1 => R.load Tryz.isAgg3 rfl ((hw1.cells hc_ey (fun h => h)) 0 _ rfl)) (WQ.yes rfl rfl (dT h0) (WQ.op rfl rfl rfl (fun w1 hw1 => R.move rfl) (WQ.yes rfl rfl (dT h0) (WQ.op rfl rfl rfl (fun w1 hw1 => R.move rfl) (WQ.yes rfl rfl (dT h0) (WQ.op rfl rfl rfl (fun w1 hw1 => R.sub rfl rfl (wrap_i64_in (by omega))) ?_)))))))))))))
   refine WQ.yes rfl rfl (dT h0) (WQ.op rfl rfl rfl (fun w1 hw1 => R.indexS Tryz.runUnderlying50 Tryz.sizeOf3 rfl rfl ha_x (by omega)) (WQ.yes rfl rfl (dT h0) (WQ.op rfl rfl rfl (fun w1 hw1 => R.load Tryz.isAgg3 rfl (by rw [hto]; exact (hw1.cells hc_x (fun h => h)) 0 _ rfl)) (WQ.yes rfl rfl (dT h0) (WQ.op rfl rfl rfl (fun w1 hw1 => R.leq rfl rfl) (WQ.op rfl rfl rfl (fun w1 hw1 => R.pickT rfl (dT h0) rfl) (WQ.nil (fun wz1 hz1 => ?_))))))))
   replace hl := hl.ext stable_int hz1
   replace hL1 := hL1.ext hz1
   replace hc_ey := hz1.cells hc_ey (fun h => h)
   refine WX.next (WC.ite rfl (fun hb => ?_) (fun hb => ?_))
   ·
    refine WC.sr (WO.a rfl rfl (WO.nil (WX.next (WC.ret (WX.blockR (WX.thenR (WX.thenR (WX.blockR (WX.thenR ?_)))))))))
    have hno : risingB l = false := by rw [Bool.eq_false_iff]; intro h; have := (risingB_iff l).1 h k x y hx hy; omega
    refine WX.ret1 Tryz.results202 rfl ⟨_, rfl, by rw [hno], hL1⟩
   ·
    refine WC.skip (WX.blockN (WX.next (WC.region (WO.o rfl (R.add rfl rfl (wrap_i64_in (by omega))) (WO.mv rfl rfl (WO.nil (WX.back (k + 1 + 1) (Sub.of rfl) (⟨by omega, ?_, hL1⟩) (by first | omega | (dsimp only; omega)))))))))
    intro j x' y' hj hx' hy'
    by_cases e : j = k
    ·
     subst e
     rw [hx] at hx'; cases hx'
     rw [hy] at hy'; cases hy'
     omega
    · exact hall j x' y' (by omega) hx' hy'
  ·
   have hi0 : i = 0 := by omega
   subst hi0
   refine WQ.no rfl rfl (dF h0) rfl (WQ.no rfl rfl (dF h0) rfl (WQ.no rfl rfl (dF h0) rfl (WQ.no rfl rfl (dF h0) rfl (WQ.no rfl rfl (dF h0) rfl (WQ.no rfl rfl (dF h0) rfl (WQ.no rfl rfl (dF h0) rfl (WQ.no rfl rfl (dF h0) rfl (WQ.no rfl rfl (dF h0) rfl (WQ.no rfl rfl (dF h0) rfl (WQ.op rfl rfl rfl (fun w1 hw1 => R.pickF rfl (dF h0) rfl) (WQ.nil (fun wz2 hz2 => ?_))))))))))))
   replace hl := hl.ext stable_int hz2
   replace hL1 := hL1.ext hz2
   refine WX.next (WC.ff rfl (rfl) (WC.skip (WX.blockN (WX.next (WC.region ?_)))))
   refine WO.o rfl (R.add rfl rfl (wrap_i64_in (by omega))) (WO.mv rfl rfl (WO.nil (WX.back (1) (Sub.of rfl) (⟨by omega, fun j x y h => by omega, hL1⟩) (by first | omega | (dsimp only; omega)))))
 ·
  refine WC.exit (WX.thenE (WX.thenE (WX.hit (WX.next (WC.seq (WC.region (WO.a rfl rfl (WO.nil (WX.next (WC.ret ?_))))))))))
  have hyes : risingB l = true := (risingB_iff l).2 (fun j x y hx hy => hall j x y (by have := (List.getElem?_eq_some_iff.1 hy).1; omega) hx hy)
  refine WX.ret1 Tryz.results202 rfl ⟨_, rfl, by rw [hyes], hL1⟩
def groupsB (l : List Int) : Bool := decide (1 ≤ l.length) && decide (l.length ≤ 32) && decide ((0 : Int) ≤ l[0]?.getD 0) && risingB l
theorem refRising_ok (l : List Int) (v : Value) (D : Nat → Prop) (w : World) (hl : SlR 1 RInt D w v l) : Calls Tryz.prog 164 #[v] w (Ret fun r w' => r = .bool (groupsB l) ∧ Ext w w') := by
 have hmx := hl.max
 obtain ⟨al, nl, rfl⟩ := hl.form
 refine calls Tryz.func164 rfl [(0, .slice al l.length nl)] 34 ⟨Nat.le_of_ble_eq_true rfl, Tryz.ntmps164⟩ (argsOk (Sub.of rfl)) ?_
 refine WC.sr (WO.a rfl rfl (WO.nil (WX.next (WC.seq (WC.seq (WC.region ?_))))))
 refine WO.mv rfl rfl (WO.o rfl (R.lenS rfl Tryz.runUnderlying50 rfl) (WO.o rfl (R.lss rfl rfl) (WO.mv rfl rfl (WO.splitP (d := 7) rfl (fun h1 => ?_) (fun h1 => ?_)))))
 ·
  have hno : groupsB l = false := by unfold groupsB; rw [decide_eq_false (show ¬ 1 ≤ l.length by omega)]; rfl
  refine WO.no rfl rfl (dT h1) rfl (WO.no rfl rfl (dT h1) rfl (WO.no rfl rfl (dT h1) rfl (WO.o rfl (R.pickT rfl (dT h1) rfl) (WO.mv rfl rfl (WO.z rfl (WO.z rfl (WO.z rfl (WO.z rfl (WO.o rfl (R.pickT rfl rfl rfl) (WO.nil (WX.next ?_)))))))))))
  refine WC.tt rfl (rfl) (WC.sr (WO.a rfl rfl (WO.nil (WX.next (WC.ret (WX.thenR ?_))))))
  refine WX.ret1 Tryz.results164 rfl ⟨_, rfl, by rw [hno], Keep.refl _ _⟩
 ·
  refine WO.yes rfl rfl (dF h1) (WO.mv rfl rfl (WO.yes rfl rfl (dF h1) (WO.o rfl (R.lenS rfl Tryz.runUnderlying50 rfl) (WO.yes rfl rfl (dF h1) (WO.o rfl (R.gtr rfl rfl) (WO.o rfl (R.pickF rfl (dF h1) rfl) (WO.mv rfl rfl (WO.splitP (d := 12) rfl (fun h2 => ?_) (fun h2 => ?_)))))))))
  ·
   have hno : groupsB l = false := by unfold groupsB; rw [decide_eq_false (show ¬ l.length ≤ 32 by omega)]; simp
   refine WO.no rfl rfl (dT h2) rfl (WO.no rfl rfl (dT h2) rfl (WO.no rfl rfl (dT h2) rfl (WO.no rfl rfl (dT h2) rfl (WO.o rfl (R.pickT rfl (dT h2) rfl) (WO.nil (WX.next ?_))))))
   refine WC.tt rfl (rfl) (WC.sr (WO.a rfl rfl (WO.nil (WX.next (WC.ret (WX.thenR ?_))))))
   refine WX.ret1 Tryz.results164 rfl ⟨_, rfl, by rw [hno], Keep.refl _ _⟩
  ·
   obtain ⟨x0, hx0⟩ : ∃ x, l[0]? = some x := ⟨_, List.getElem?_eq_getElem (by omega)⟩
   obtain ⟨b_e0, o_e0, c_e0, ha_e0, _, hc_e0, hR_e0⟩ := hl.at (hx0)
   obtain rfl := hR_e0
   have hlt_e0 : b_e0 < _ := World.block_lt_of_cell? _ _ (hc_e0 0 _ rfl)
   refine WO.yes rfl rfl (dF h2) (WO.mv rfl rfl (WO.yes rfl rfl (dF h2) (WO.o rfl (R.indexS Tryz.runUnderlying50 Tryz.sizeOf3 rfl rfl ha_e0 (by omega)) (WO.yes rfl rfl (dF h2) (WO.o rfl (R.load Tryz.isAgg3 rfl (hc_e0 0 _ rfl)) (WO.yes rfl rfl (dF h2) (WO.o rfl (R.lss rfl rfl) (WO.o rfl (R.pickF rfl (dF h2) rfl) (WO.nil (WX.next ?_))))))))))
   refine WC.ite rfl (fun h3 => ?_) (fun h3 => ?_)
   ·
    have hno : groupsB l = false := by unfold groupsB; rw [hx0, decide_eq_false (show ¬ (0 : Int) ≤ (some x0).getD 0 by simpa using h3)]; simp
    refine WC.sr (WO.a rfl rfl (WO.nil (WX.next (WC.ret (WX.thenR ?_)))))
    refine WX.ret1 Tryz.results164 rfl ⟨_, rfl, by rw [hno], Keep.refl _ _⟩
   ·
    have hg : groupsB l = risingB l := by unfold groupsB; rw [hx0, decide_eq_true (show 1 ≤ l.length by omega), decide_eq_true (show l.length ≤ 32 by omega), decide_eq_true (show (0 : Int) ≤ (some x0).getD 0 by simpa using h3)]; rfl
    refine WC.skip (WX.next (WC.seq (WC.seq (WC.region (WO.a rfl rfl (WO.nil (WX.next (WC.block ?_))))))))
    refine WC.loop (σ := Nat) (fun i => [(0, .slice al l.length nl), (3, .int .i64 ((i : Int) + 1))]) (fun i => fun w' => i + 1 ≤ l.length ∧ (∀ (j : Nat) (x y : Int), j < i → l[j]? = some x → l[j + 1]? = some y → x < y) ∧ Ext w w') (fun i => l.length - i) (0) (Sub.of rfl) (⟨by omega, fun j x y h => absurd h (Nat.not_lt_zero _), Keep.refl _ _⟩) ?_
    rintro i w1 ⟨hi, hall, hL1⟩
    show WC _ _ _ _ [(0, .slice al l.length nl), (3, .int .i64 ((i : Int) + 1))] _
    replace hl := hl.ext stable_int hL1
    replace hc_e0 := hL1.cells hc_e0 (fun h => h)
    refine WC.seq (WC.seq (WC.region (WO.mv rfl rfl (WO.mv rfl rfl (WO.o rfl (R.lenS rfl Tryz.runUnderlying50 rfl) (WO.o rfl (R.lss rfl rfl) (WO.nil (WX.next ?_))))))))
    refine WC.ite rfl (fun hlt => ?_) (fun hlt => ?_)
    ·
     obtain ⟨x, hx⟩ : ∃ x, l[i]? = some x := ⟨_, List.getElem?_eq_getElem (by omega)⟩
     obtain ⟨y, hy⟩ : ∃ y, l[i + 1]? = some y := ⟨_, List.getElem?_eq_getElem (by omega)⟩
     obtain ⟨b_ex, o_ex, c_ex, ha_ex, _, hc_ex, hR_ex⟩ := hl.at (hx)
     obtain rfl := hR_ex
     have hlt_ex : b_ex < _ := World.block_lt_of_cell? _ _ (hc_ex 0 _ rfl)
     obtain ⟨b_ey, o_ey, c_ey, ha_ey, _, hc_ey, hR_ey⟩ := hl.at (hy)
     obtain rfl := hR_ey
     have hlt_ey : b_ey < _ := World.block_lt_of_cell? _ _ (hc_ey 0 _ rfl)
     have hto : ((i : Int) + 1).toNat = i + 1 := by omega
     have hto2 : ((i : Int) + 1 - 1).toNat = i := by omega
     refine WC.skip (WX.next (WC.seq (WC.block (WC.seq (WC.quiet (by kernel_rfl) (by kernel_rfl) (WQ.op rfl rfl rfl (fun w1 hw1 => R.move rfl) (WQ.op rfl rfl rfl (fun w1 hw1 => R.move rfl) (WQ.op rfl rfl rfl (fun w1 hw1 => R.indexS Tryz.runUnderlying50 Tryz.sizeOf3 rfl rfl ha_ey (by omega)) (WQ.op rfl rfl rfl (fun w1 hw1 => R.load Tryz.isAgg3 rfl (by rw [hto]; exact (hw1.cells hc_ey (fun h => h)) 0 _ rfl)) (WQ.op rfl rfl rfl (fun w1 hw1 => R.move rfl) (WQ.op rfl rfl rfl (fun w1 hw1 => R.move rfl) (WQ.op rfl rfl rfl (fun w1 hw1 => R.sub rfl rfl (wrap_i64_in (by omega))) (WQ.op rfl rfl rfl (fun w1 hw1 => R.indexS Tryz.runUnderlying50 Tryz.sizeOf3 rfl rfl ha_ex (by omega)) ?_)))))))))))))
     refine WQ.op rfl rfl rfl (fun w1 hw1 => R.load Tryz.isAgg3 rfl (by rw [hto2]; exact (hw1.cells hc_ex (fun h => h)) 0 _ rfl)) (WQ.op rfl rfl rfl (fun w1 hw1 => R.leq rfl rfl) (WQ.nil (fun wz1 hz1 => ?_)))
     replace hl := hl.ext stable_int hz1
     replace hc_e0 := hz1.cells hc_e0 (fun h => h)
     replace hL1 := hL1.ext hz1
     replace hc_ex := hz1.cells hc_ex (fun h => h)
     replace hc_ey := hz1.cells hc_ey (fun h => h)
     refine WX.next (WC.ite rfl (fun hb => ?_) (fun hb => ?_))
     ·
      have hno : risingB l = false := by rw [Bool.eq_false_iff]; intro h; have := (risingB_iff l).1 h i x y hx hy; omega
      refine WC.sr (WO.a rfl rfl (WO.nil (WX.next (WC.ret (WX.blockR (WX.thenR (WX.thenR (WX.blockR (WX.thenR ?_)))))))))
      refine WX.ret1 Tryz.results164 rfl ⟨_, rfl, by rw [hg, hno], hL1⟩
     ·
      refine WC.skip (WX.blockN (WX.next (WC.region (WO.mv rfl rfl (WO.o rfl (R.add rfl rfl (wrap_i64_in (by omega))) (WO.a rfl rfl (WO.nil (WX.back (i + 1) (Sub.cons rfl (Sub.cons (slotI rfl (by omega)) Sub.nil)) (⟨by omega, ?_, hL1⟩) (by first | omega | (dsimp only; omega))))))))))
      intro j x' y' hj hx' hy'
      by_cases e : j = i
      ·
       subst e
       rw [hx] at hx'; cases hx'
       rw [hy] at hy'; cases hy'
       omega
      · exact hall j x' y' (by omega) hx' hy'
    ·
     have hyes : risingB l = true := (risingB_iff l).2 (fun j x y hx hy => hall j x y (by have := (List.getElem?_eq_some_iff.1 hy).1; omega) hx hy)
     refine WC.exit (WX.thenE (WX.thenE (WX.hit (WX.next (WC.seq (WC.region (WO.a rfl rfl (WO.nil (WX.next (WC.ret ?_))))))))))
     refine WX.ret1 Tryz.results164 rfl ⟨_, rfl, by rw [hg, hyes], hL1⟩
def freeB (s : St) : Bool := decide ((s.thn.length : Int) = 0) && decide ((s.els.length : Int) = 0)
def localB (vs : List Vr) (n : Int) : Bool := decide (0 ≤ n) && decide (n < (vs.length : Int)) && isLocal vs n
def shapedB (vs : List Vr) (nh : Nat) (s : St) (last : Bool) : Bool :=
 if s.act = 0 then freeB s && localB vs s.var && decide (s.n = 0) && decide ((s.bounds.length : Int) = 0)
 else if s.act = 1 then freeB s && decide (s.var = 0) && decide (s.n = 0) && decide ((s.bounds.length : Int) = 0)
 else if s.act = 2 then freeB s && decide (s.var = 0) && decide (s.n = 0) && decide ((s.bounds.length : Int) = 0) && plainB s.term
 else if s.act = 3 then decide (s.var = 0) && decide (s.n = 0) && decide ((s.bounds.length : Int) = 0)
 else if s.act = 4 then decide (s.var = 0) && decide ((s.els.length : Int) = 0) && decide ((s.bounds.length : Int) = 0)
 else if s.act = 5 then freeB s && localB vs s.var && decide (0 ≤ s.n) && decide (s.n < (nh : Int)) && decide ((s.bounds.length : Int) = 0) && plainB s.term
 else if s.act = 6 then freeB s && last && decide (s.var = 0) && decide (s.n = 0) && plainB s.term && groupsB s.bounds
 else false
theorem refShaped_ok (f : Fl) (s : St) (last : Bool) (v1 v2 v3 : Value) (cs : List Value) (D D' : Nat → Prop) (w : World) (hf : RFl D w f v1 v2 v3) (hs : RSt D' w s cs) : Calls Tryz.prog 116 #[.agg #[v1, v2, v3], .agg cs.toArray, .bool last] w (Ret fun r w' => r = .bool (shapedB f.vars f.hatches.length s last) ∧ Ext w w') := by
 obtain ⟨hvs, hhs, hbd⟩ := hf
 obtain ⟨a1, n1, rfl⟩ := hvs.form
 obtain ⟨a2, n2, rfl⟩ := hhs.form
 obtain ⟨u1, u2, u3, u4, rfl, hk, ht, he, hb⟩ := hs.get
 obtain ⟨a4, n4, rfl⟩ := hk.form
 obtain ⟨a5, n5, rfl⟩ := ht.form
 obtain ⟨a6, n6, rfl⟩ := he.form
 obtain ⟨a7, n7, rfl⟩ := hb.form
 have hE := Keep.refl (fun _ => False) w
 refine calls Tryz.func116 rfl [(0, .agg #[.slice a1 f.vars.length n1, .slice a2 f.hatches.length n2, v3]), (1, .agg #[.int .i64 s.act, .int .i64 s.cost, .int .i64 s.var, .int .i64 s.n, .int .i64 s.term.op, .int .i64 s.term.n, .slice a4 s.term.kids.length n4, .slice a5 s.thn.length n5, .slice a6 s.els.length n6, .slice a7 s.bounds.length n7]), (2, .bool last)] 191 ⟨Nat.le_of_ble_eq_true rfl, Tryz.ntmps116⟩ (argsOk (Sub.of rfl)) ?_
 refine WC.sr (WO.mem rfl rfl rfl (M.box rfl rfl) ?_)
 rintro _ w_b ⟨b, rfl, hg_b, hs_b, hB_b, hk_b⟩
 have hge_b : _ ≤ b := Nat.le_trans hE.size (Nat.le_of_eq hg_b.symm)
 replace hE := hE.ext hk_b
 replace hvs := hvs.ext stable_vr hk_b
 replace hk := hk.ext stable_tm hk_b
 replace hb := hb.ext stable_int hk_b
 refine WO.mem rfl rfl rfl (M.box rfl rfl) ?_
 rintro _ w_c ⟨c, rfl, hg_c, hs_c, hB_c, hk_c⟩
 have hn_b_c : b ≠ c := by have := hB_b.lt; omega
 have hge_c : _ ≤ c := Nat.le_trans hE.size (Nat.le_of_eq hg_c.symm)
 replace hE := hE.ext hk_c
 replace hvs := hvs.ext stable_vr hk_c
 replace hk := hk.ext stable_tm hk_c
 replace hb := hb.ext stable_int hk_c
 replace hB_b := hk_c.blk hB_b (fun h => h)
 refine WO.a rfl rfl (WO.nil (WX.next (WC.seq ?_)))
 refine WC.cut (σ := Bool) (fun q => [(2, .bool last), (3, .pointer (some ⟨b, 0, none⟩)), (4, .pointer (some ⟨c, 0, none⟩)), (7, .bool q)]) (fun q => fun w' => q = freeB s ∧ w' = w_c) ?_ ?_
 ·
  refine WC.region (WO.o rfl (R.fieldAddr Tryz.runUnderlying86 rfl Tryz.sizeOf24 rfl) (WO.o rfl (R.load Tryz.isAgg24 rfl (hB_c.cells 7 _ rfl)) (WO.o rfl (R.lenS rfl Tryz.runUnderlying24 rfl) (WO.o rfl (R.eql rfl rfl) (WO.mv rfl rfl (WO.splitP (d := 13) rfl (fun hh1 => ?_) (fun hh1 => ?_)))))))
  · refine WO.yes rfl rfl (dT hh1) (WO.o rfl (R.fieldAddr Tryz.runUnderlying86 rfl Tryz.sizeOf24 rfl) (WO.yes rfl rfl (dT hh1) (WO.o rfl (R.load Tryz.isAgg24 rfl (hB_c.cells 8 _ rfl)) (WO.yes rfl rfl (dT hh1) (WO.o rfl (R.lenS rfl Tryz.runUnderlying24 rfl) (WO.yes rfl rfl (dT hh1) (WO.o rfl (R.eql rfl rfl) (WO.o rfl (R.pickT rfl (dT hh1) rfl) (WO.a rfl rfl (WO.nil (WX.meet (_) (Sub.of rfl) (⟨by simp only [freeB, hh1, decide_true, Bool.true_and], rfl⟩))))))))))))
  · refine WO.no rfl rfl (dF hh1) rfl (WO.no rfl rfl (dF hh1) rfl (WO.no rfl rfl (dF hh1) rfl (WO.no rfl rfl (dF hh1) rfl (WO.o rfl (R.pickF rfl (dF hh1) rfl) (WO.a rfl rfl (WO.nil (WX.meet (_) (Sub.of rfl) (⟨by simp only [freeB, hh1, decide_false, Bool.false_and], rfl⟩))))))))
 rintro q w2 ⟨hq, hw2⟩
 show WX _ _ _ [(2, .bool last), (3, .pointer (some ⟨b, 0, none⟩)), (4, .pointer (some ⟨c, 0, none⟩)), (7, .bool q)] _
 subst hw2
 subst hq
 refine WX.next (WC.seq (WC.cut (σ := Bool) (fun q => [(2, .bool last), (3, .pointer (some ⟨b, 0, none⟩)), (4, .pointer (some ⟨c, 0, none⟩)), (7, .bool (freeB s)), (8, .bool q)]) (fun q => fun w' => q = localB f.vars s.var ∧ w' = w2) ?_ ?_))
 ·
  by_cases hv : 0 ≤ s.var ∧ s.var < f.vars.length
  ·
   obtain ⟨x, he_x⟩ : ∃ x, f.vars[s.var.toNat]? = some x := ⟨_, List.getElem?_eq_getElem (by omega)⟩
   have hm_x := List.mem_of_getElem? he_x
   obtain ⟨b_x, o_x, c_x, ha_x, _, hc_x, hR_x⟩ := hvs.at he_x
   have h1_x := RVr.one hR_x
   obtain rfl := hR_x
   have hlt_x : b_x < _ := World.block_lt_of_cell? _ _ (hc_x 0 _ rfl)
   have hil : isLocal f.vars s.var = decide (x.kind = 0) := by unfold isLocal; rw [he_x]
   refine WC.region (WO.o rfl (R.fieldAddr Tryz.runUnderlying86 rfl Tryz.sizeOf3 rfl) (WO.o rfl (R.load Tryz.isAgg3 rfl (hB_c.cells 2 _ rfl)) (WO.o rfl (R.geq rfl rfl) (WO.mv rfl rfl (WO.splitP (d := 22) rfl (fun hh2 => ?_) (fun hh2 => ?_))))))
   ·
    refine WO.yes rfl rfl (dT hh2) (WO.o rfl (R.fieldAddr Tryz.runUnderlying86 rfl Tryz.sizeOf3 rfl) (WO.yes rfl rfl (dT hh2) (WO.o rfl (R.load Tryz.isAgg3 rfl (hB_c.cells 2 _ rfl)) (WO.yes rfl rfl (dT hh2) (WO.o rfl (R.fieldAddr Tryz.runUnderlying26 rfl Tryz.sizeOf22 rfl) (WO.yes rfl rfl (dT hh2) (WO.o rfl (R.load Tryz.isAgg22 rfl (hB_b.cells 0 _ rfl)) (WO.yes rfl rfl (dT hh2) (WO.o rfl (R.lenS rfl Tryz.runUnderlying22 rfl) (WO.yes rfl rfl (dT hh2) (WO.o rfl (R.lss rfl rfl) (WO.o rfl (R.pickT rfl (dT hh2) rfl) (WO.mv rfl rfl (WO.splitP (d := 30) rfl (fun hh3 => ?_) (fun hh3 => ?_)))))))))))))))
    ·
     refine WO.yes rfl rfl (dT hh3) (WO.o rfl (R.fieldAddr Tryz.runUnderlying26 rfl Tryz.sizeOf22 rfl) (WO.yes rfl rfl (dT hh3) (WO.o rfl (R.load Tryz.isAgg22 rfl (hB_b.cells 0 _ rfl)) (WO.yes rfl rfl (dT hh3) (WO.o rfl (R.fieldAddr Tryz.runUnderlying86 rfl Tryz.sizeOf3 rfl) (WO.yes rfl rfl (dT hh3) (WO.o rfl (R.load Tryz.isAgg3 rfl (hB_c.cells 2 _ rfl)) (WO.yes rfl rfl (dT hh3) (WO.o rfl (R.indexS Tryz.runUnderlying22 Tryz.sizeOf125 rfl rfl ha_x (by omega)) (WO.yes rfl rfl (dT hh3) (WO.o rfl (R.fieldAddr Tryz.runUnderlying125 rfl Tryz.sizeOf121 rfl) (WO.yes rfl rfl (dT hh3) (WO.o rfl (R.load Tryz.isAgg121 rfl (hc_x 1 _ rfl)) ?_)))))))))))))
     refine WO.yes rfl rfl (dT hh3) (WO.o rfl (R.eql rfl rfl) (WO.o rfl (R.pickT rfl (dT hh3) rfl) (WO.a rfl rfl (WO.nil (WX.meet (_) (Sub.of rfl) (⟨by simp only [localB, hil, hh2, hh3, decide_true, Bool.and_true, Bool.true_and], rfl⟩))))))
    · refine WO.no rfl rfl (dF hh3) rfl (WO.no rfl rfl (dF hh3) rfl (WO.no rfl rfl (dF hh3) rfl (WO.no rfl rfl (dF hh3) rfl (WO.no rfl rfl (dF hh3) rfl (WO.no rfl rfl (dF hh3) rfl (WO.no rfl rfl (dF hh3) rfl (WO.no rfl rfl (dF hh3) rfl (WO.o rfl (R.pickF rfl (dF hh3) rfl) (WO.a rfl rfl (WO.nil (WX.meet (_) (Sub.of rfl) (⟨by simp only [localB, hil, hh2, hh3, decide_true, decide_false, Bool.and_false, Bool.false_and], rfl⟩))))))))))))
   · refine WO.no rfl rfl (dF hh2) rfl (WO.no rfl rfl (dF hh2) rfl (WO.no rfl rfl (dF hh2) rfl (WO.no rfl rfl (dF hh2) rfl (WO.no rfl rfl (dF hh2) rfl (WO.no rfl rfl (dF hh2) rfl (WO.o rfl (R.pickF rfl (dF hh2) rfl) (WO.mv rfl rfl (WO.z rfl (WO.z rfl (WO.z rfl (WO.z rfl (WO.z rfl (WO.z rfl (WO.z rfl (WO.z rfl (WO.o rfl (R.pickF rfl rfl rfl) (WO.a rfl rfl (WO.nil (WX.meet (_) (Sub.of rfl) (⟨by simp only [localB, hil, hh2, decide_false, Bool.false_and], rfl⟩))))))))))))))))))))
  ·
   refine WC.region (WO.o rfl (R.fieldAddr Tryz.runUnderlying86 rfl Tryz.sizeOf3 rfl) (WO.o rfl (R.load Tryz.isAgg3 rfl (hB_c.cells 2 _ rfl)) (WO.o rfl (R.geq rfl rfl) (WO.mv rfl rfl (WO.splitP (d := 22) rfl (fun hh4 => ?_) (fun hh4 => ?_))))))
   ·
    refine WO.yes rfl rfl (dT hh4) (WO.o rfl (R.fieldAddr Tryz.runUnderlying86 rfl Tryz.sizeOf3 rfl) (WO.yes rfl rfl (dT hh4) (WO.o rfl (R.load Tryz.isAgg3 rfl (hB_c.cells 2 _ rfl)) (WO.yes rfl rfl (dT hh4) (WO.o rfl (R.fieldAddr Tryz.runUnderlying26 rfl Tryz.sizeOf22 rfl) (WO.yes rfl rfl (dT hh4) (WO.o rfl (R.load Tryz.isAgg22 rfl (hB_b.cells 0 _ rfl)) (WO.yes rfl rfl (dT hh4) (WO.o rfl (R.lenS rfl Tryz.runUnderlying22 rfl) (WO.yes rfl rfl (dT hh4) (WO.o rfl (R.lss rfl rfl) (WO.o rfl (R.pickT rfl (dT hh4) rfl) (WO.mv rfl rfl (WO.splitP (d := 30) rfl (fun hh5 => ?_) (fun hh5 => ?_)))))))))))))))
    ·
     refine WO.yes rfl rfl (dT hh5) (WO.o rfl (R.fieldAddr Tryz.runUnderlying26 rfl Tryz.sizeOf22 rfl) (WO.yes rfl rfl (dT hh5) (WO.o rfl (R.load Tryz.isAgg22 rfl (hB_b.cells 0 _ rfl)) (WO.yes rfl rfl (dT hh5) (WO.o rfl (R.fieldAddr Tryz.runUnderlying86 rfl Tryz.sizeOf3 rfl) (WO.yes rfl rfl (dT hh5) (WO.o rfl (R.load Tryz.isAgg3 rfl (hB_c.cells 2 _ rfl)) (WO.yes rfl rfl (dT hh5) ?_))))))))
     exfalso
     omega
    · refine WO.no rfl rfl (dF hh5) rfl (WO.no rfl rfl (dF hh5) rfl (WO.no rfl rfl (dF hh5) rfl (WO.no rfl rfl (dF hh5) rfl (WO.no rfl rfl (dF hh5) rfl (WO.no rfl rfl (dF hh5) rfl (WO.no rfl rfl (dF hh5) rfl (WO.no rfl rfl (dF hh5) rfl (WO.o rfl (R.pickF rfl (dF hh5) rfl) (WO.a rfl rfl (WO.nil (WX.meet (_) (Sub.of rfl) (⟨by simp [localB, hh4, hh5], rfl⟩))))))))))))
   · refine WO.no rfl rfl (dF hh4) rfl (WO.no rfl rfl (dF hh4) rfl (WO.no rfl rfl (dF hh4) rfl (WO.no rfl rfl (dF hh4) rfl (WO.no rfl rfl (dF hh4) rfl (WO.no rfl rfl (dF hh4) rfl (WO.o rfl (R.pickF rfl (dF hh4) rfl) (WO.mv rfl rfl (WO.z rfl (WO.z rfl (WO.z rfl (WO.z rfl (WO.z rfl (WO.z rfl (WO.z rfl (WO.z rfl (WO.o rfl (R.pickF rfl rfl rfl) (WO.a rfl rfl (WO.nil (WX.meet (_) (Sub.of rfl) (⟨by simp [localB, hh4], rfl⟩))))))))))))))))))))
 rintro q w3 ⟨hq, hw3⟩
 show WX _ _ _ [(2, .bool last), (3, .pointer (some ⟨b, 0, none⟩)), (4, .pointer (some ⟨c, 0, none⟩)), (7, .bool (freeB s)), (8, .bool q)] _
 subst hw3
 subst hq
 refine WX.next (WC.seq (WC.seq (WC.region (WO.o rfl (R.fieldAddr Tryz.runUnderlying86 rfl Tryz.sizeOf80 rfl) (WO.o rfl (R.load Tryz.isAgg80 rfl (hB_c.cells 0 _ rfl)) (WO.nil (WX.next (WC.block (WC.seq (WC.region ?_))))))))))
 refine WO.o rfl (R.eql rfl rfl) (WO.a rfl rfl (WO.nil (WX.next ?_)))
 refine WC.ite rfl (fun hh6 => ?_) (fun hh6 => ?_)
 ·
  refine WC.sr (WO.mv rfl rfl (WO.mv rfl rfl (WO.splitB (d := 45) rfl (fun hh7 => ?_) (fun hh7 => ?_))))
  ·
   refine WO.yes rfl rfl hh7 (WO.mv rfl rfl (WO.o rfl (R.pickT rfl hh7 rfl) (WO.mv rfl rfl (WO.splitB (d := 48) rfl (fun hh8 => ?_) (fun hh8 => ?_)))))
   ·
    refine WO.yes rfl rfl hh8 (WO.o rfl (R.fieldAddr Tryz.runUnderlying86 rfl Tryz.sizeOf3 rfl) (WO.yes rfl rfl hh8 (WO.o rfl (R.load Tryz.isAgg3 rfl (hB_c.cells 3 _ rfl)) (WO.yes rfl rfl hh8 (WO.o rfl (R.eql rfl rfl) (WO.o rfl (R.pickT rfl hh8 rfl) (WO.mv rfl rfl (WO.splitP (d := 53) rfl (fun hh9 => ?_) (fun hh9 => ?_)))))))))
    ·
     refine WO.yes rfl rfl (dT hh9) (WO.o rfl (R.fieldAddr Tryz.runUnderlying86 rfl Tryz.sizeOf50 rfl) (WO.yes rfl rfl (dT hh9) (WO.o rfl (R.load Tryz.isAgg50 rfl (hB_c.cells 9 _ rfl)) (WO.yes rfl rfl (dT hh9) (WO.o rfl (R.lenS rfl Tryz.runUnderlying50 rfl) (WO.yes rfl rfl (dT hh9) (WO.o rfl (R.eql rfl rfl) (WO.o rfl (R.pickT rfl (dT hh9) rfl) (WO.a rfl rfl (WO.nil (WX.next (WC.ret (WX.blockR (WX.thenR ?_))))))))))))))
     refine WX.ret1 Tryz.results116 rfl ⟨_, rfl, by simp only [shapedB, hh6, hh7, hh8, hh9, if_true, if_false, decide_true, Bool.and_true, Bool.true_and, Int.reduceEq], hE⟩
    ·
     refine WO.no rfl rfl (dF hh9) rfl (WO.no rfl rfl (dF hh9) rfl (WO.no rfl rfl (dF hh9) rfl (WO.no rfl rfl (dF hh9) rfl (WO.o rfl (R.pickF rfl (dF hh9) rfl) (WO.a rfl rfl (WO.nil (WX.next (WC.ret (WX.blockR (WX.thenR ?_))))))))))
     refine WX.ret1 Tryz.results116 rfl ⟨_, rfl, by simp only [shapedB, hh6, hh7, hh8, hh9, if_true, if_false, decide_false, Bool.and_true, Bool.true_and, Bool.and_false, Bool.false_and, Int.reduceEq], hE⟩
   ·
    refine WO.no rfl rfl hh8 rfl (WO.no rfl rfl hh8 rfl (WO.no rfl rfl hh8 rfl (WO.o rfl (R.pickF rfl hh8 rfl) (WO.mv rfl rfl (WO.z rfl (WO.z rfl (WO.z rfl (WO.z rfl (WO.o rfl (R.pickF rfl rfl rfl) (WO.a rfl rfl (WO.nil (WX.next (WC.ret (WX.blockR (WX.thenR ?_)))))))))))))))
    refine WX.ret1 Tryz.results116 rfl ⟨_, rfl, by simp only [shapedB, hh6, hh7, hh8, if_true, if_false, Bool.true_and, Bool.and_false, Bool.false_and, Int.reduceEq], hE⟩
  ·
   refine WO.no rfl rfl hh7 rfl (WO.o rfl (R.pickF rfl hh7 rfl) (WO.mv rfl rfl (WO.z rfl (WO.z rfl (WO.z rfl (WO.o rfl (R.pickF rfl rfl rfl) (WO.mv rfl rfl (WO.z rfl (WO.z rfl (WO.z rfl (WO.z rfl (WO.o rfl (R.pickF rfl rfl rfl) (WO.a rfl rfl (WO.nil (WX.next (WC.ret (WX.blockR (WX.thenR ?_))))))))))))))))))
   refine WX.ret1 Tryz.results116 rfl ⟨_, rfl, by simp only [shapedB, hh6, hh7, if_true, if_false, Bool.false_and, Int.reduceEq], hE⟩
 ·
  refine WC.sr (WO.o rfl (R.eql rfl rfl) (WO.a rfl rfl (WO.nil (WX.next ?_))))
  refine WC.ite rfl (fun hh10 => ?_) (fun hh10 => ?_)
  ·
   refine WC.sr (WO.mv rfl rfl (WO.mv rfl rfl (WO.splitB (d := 62) rfl (fun hh11 => ?_) (fun hh11 => ?_))))
   ·
    refine WO.yes rfl rfl hh11 (WO.o rfl (R.fieldAddr Tryz.runUnderlying86 rfl Tryz.sizeOf3 rfl) (WO.yes rfl rfl hh11 (WO.o rfl (R.load Tryz.isAgg3 rfl (hB_c.cells 2 _ rfl)) (WO.yes rfl rfl hh11 (WO.o rfl (R.eql rfl rfl) (WO.o rfl (R.pickT rfl hh11 rfl) (WO.mv rfl rfl (WO.splitP (d := 67) rfl (fun hh12 => ?_) (fun hh12 => ?_)))))))))
    ·
     refine WO.yes rfl rfl (dT hh12) (WO.o rfl (R.fieldAddr Tryz.runUnderlying86 rfl Tryz.sizeOf3 rfl) (WO.yes rfl rfl (dT hh12) (WO.o rfl (R.load Tryz.isAgg3 rfl (hB_c.cells 3 _ rfl)) (WO.yes rfl rfl (dT hh12) (WO.o rfl (R.eql rfl rfl) (WO.o rfl (R.pickT rfl (dT hh12) rfl) (WO.mv rfl rfl (WO.splitP (d := 72) rfl (fun hh13 => ?_) (fun hh13 => ?_)))))))))
     ·
      refine WO.yes rfl rfl (dT hh13) (WO.o rfl (R.fieldAddr Tryz.runUnderlying86 rfl Tryz.sizeOf50 rfl) (WO.yes rfl rfl (dT hh13) (WO.o rfl (R.load Tryz.isAgg50 rfl (hB_c.cells 9 _ rfl)) (WO.yes rfl rfl (dT hh13) (WO.o rfl (R.lenS rfl Tryz.runUnderlying50 rfl) (WO.yes rfl rfl (dT hh13) (WO.o rfl (R.eql rfl rfl) (WO.o rfl (R.pickT rfl (dT hh13) rfl) (WO.a rfl rfl (WO.nil (WX.next (WC.ret (WX.blockR (WX.thenR ?_))))))))))))))
      refine WX.ret1 Tryz.results116 rfl ⟨_, rfl, by simp only [shapedB, hh10, hh11, hh12, hh13, if_true, if_false, decide_true, Bool.and_true, Bool.true_and, Int.reduceEq], hE⟩
     ·
      refine WO.no rfl rfl (dF hh13) rfl (WO.no rfl rfl (dF hh13) rfl (WO.no rfl rfl (dF hh13) rfl (WO.no rfl rfl (dF hh13) rfl (WO.o rfl (R.pickF rfl (dF hh13) rfl) (WO.a rfl rfl (WO.nil (WX.next (WC.ret (WX.blockR (WX.thenR ?_))))))))))
      refine WX.ret1 Tryz.results116 rfl ⟨_, rfl, by simp only [shapedB, hh10, hh11, hh12, hh13, if_true, if_false, decide_true, decide_false, Bool.and_true, Bool.true_and, Bool.and_false, Bool.false_and, Int.reduceEq], hE⟩
    ·
     refine WO.no rfl rfl (dF hh12) rfl (WO.no rfl rfl (dF hh12) rfl (WO.no rfl rfl (dF hh12) rfl (WO.o rfl (R.pickF rfl (dF hh12) rfl) (WO.mv rfl rfl (WO.z rfl (WO.z rfl (WO.z rfl (WO.z rfl (WO.o rfl (R.pickF rfl rfl rfl) (WO.a rfl rfl (WO.nil (WX.next (WC.ret (WX.blockR (WX.thenR ?_)))))))))))))))
     refine WX.ret1 Tryz.results116 rfl ⟨_, rfl, by simp only [shapedB, hh10, hh11, hh12, if_true, if_false, decide_false, Bool.true_and, Bool.and_false, Bool.false_and, Int.reduceEq], hE⟩
   ·
    refine WO.no rfl rfl hh11 rfl (WO.no rfl rfl hh11 rfl (WO.no rfl rfl hh11 rfl (WO.o rfl (R.pickF rfl hh11 rfl) (WO.mv rfl rfl (WO.z rfl (WO.z rfl (WO.z rfl (WO.o rfl (R.pickF rfl rfl rfl) (WO.mv rfl rfl (WO.z rfl (WO.z rfl (WO.z rfl (WO.z rfl (WO.o rfl (R.pickF rfl rfl rfl) (WO.a rfl rfl (WO.nil (WX.next (WC.ret (WX.blockR (WX.thenR ?_))))))))))))))))))))
    refine WX.ret1 Tryz.results116 rfl ⟨_, rfl, by simp only [shapedB, hh10, hh11, if_true, if_false, Bool.false_and, Int.reduceEq], hE⟩
  ·
   refine WC.sr (WO.o rfl (R.eql rfl rfl) (WO.a rfl rfl (WO.nil (WX.next ?_))))
   refine WC.ite rfl (fun hh14 => ?_) (fun hh14 => ?_)
   ·
    refine WC.sr (WO.mv rfl rfl (WO.mv rfl rfl (WO.splitB (d := 81) rfl (fun hh15 => ?_) (fun hh15 => ?_))))
    ·
     refine WO.yes rfl rfl hh15 (WO.o rfl (R.fieldAddr Tryz.runUnderlying86 rfl Tryz.sizeOf3 rfl) (WO.yes rfl rfl hh15 (WO.o rfl (R.load Tryz.isAgg3 rfl (hB_c.cells 2 _ rfl)) (WO.yes rfl rfl hh15 (WO.o rfl (R.eql rfl rfl) (WO.o rfl (R.pickT rfl hh15 rfl) (WO.mv rfl rfl (WO.splitP (d := 86) rfl (fun hh16 => ?_) (fun hh16 => ?_)))))))))
     ·
      refine WO.yes rfl rfl (dT hh16) (WO.o rfl (R.fieldAddr Tryz.runUnderlying86 rfl Tryz.sizeOf3 rfl) (WO.yes rfl rfl (dT hh16) (WO.o rfl (R.load Tryz.isAgg3 rfl (hB_c.cells 3 _ rfl)) (WO.yes rfl rfl (dT hh16) (WO.o rfl (R.eql rfl rfl) (WO.o rfl (R.pickT rfl (dT hh16) rfl) (WO.mv rfl rfl (WO.splitP (d := 91) rfl (fun hh17 => ?_) (fun hh17 => ?_)))))))))
      ·
       refine WO.yes rfl rfl (dT hh17) (WO.o rfl (R.fieldAddr Tryz.runUnderlying86 rfl Tryz.sizeOf50 rfl) (WO.yes rfl rfl (dT hh17) (WO.o rfl (R.load Tryz.isAgg50 rfl (hB_c.cells 9 _ rfl)) (WO.yes rfl rfl (dT hh17) (WO.o rfl (R.lenS rfl Tryz.runUnderlying50 rfl) (WO.yes rfl rfl (dT hh17) (WO.o rfl (R.eql rfl rfl) (WO.o rfl (R.pickT rfl (dT hh17) rfl) (WO.mv rfl rfl (WO.splitP (d := 97) rfl (fun hh18 => ?_) (fun hh18 => ?_)))))))))))
       ·
        refine WO.yes rfl rfl (dT hh18) (WO.o rfl (R.fieldAddr Tryz.runUnderlying86 rfl Tryz.sizeOf84 rfl) (WO.yes rfl rfl (dT hh18) (WO.o rfl (R.loadK Tryz.isAgg84 Tryz.sizeOf84 rfl (by rfl) (hB_c.cells.sub 4 3)) (WO.yes rfl rfl (dT hh18) (WO.call rfl rfl rfl (F.call (vs := [_]) Tryz.call163 rfl) (refPlain_ok s.term _ D' _ (RTm.put hk)) ?_)))))
        rintro _ wz19 ⟨rfl, hz19⟩
        replace hE := hE.ext hz19
        replace hvs := hvs.ext stable_vr hz19
        replace hk := hk.ext stable_tm hz19
        replace hb := hb.ext stable_int hz19
        replace hB_b := hz19.blk hB_b (fun h => h)
        replace hB_c := hz19.blk hB_c (fun h => h)
        refine WO.o rfl (R.pickT rfl (dT hh18) rfl) (WO.a rfl rfl (WO.nil (WX.next (WC.ret (WX.blockR (WX.thenR ?_))))))
        refine WX.ret1 Tryz.results116 rfl ⟨_, rfl, by simp only [shapedB, hh14, hh15, hh16, hh17, hh18, if_true, if_false, decide_true, Bool.and_true, Bool.true_and, Int.reduceEq], hE⟩
       ·
        refine WO.no rfl rfl (dF hh18) rfl (WO.no rfl rfl (dF hh18) rfl (WO.no rfl rfl (dF hh18) rfl (WO.o rfl (R.pickF rfl (dF hh18) rfl) (WO.a rfl rfl (WO.nil (WX.next (WC.ret (WX.blockR (WX.thenR ?_)))))))))
        refine WX.ret1 Tryz.results116 rfl ⟨_, rfl, by simp only [shapedB, hh14, hh15, hh16, hh17, hh18, if_true, if_false, decide_true, decide_false, Bool.and_true, Bool.true_and, Bool.and_false, Bool.false_and, Int.reduceEq], hE⟩
      ·
       refine WO.no rfl rfl (dF hh17) rfl (WO.no rfl rfl (dF hh17) rfl (WO.no rfl rfl (dF hh17) rfl (WO.no rfl rfl (dF hh17) rfl (WO.o rfl (R.pickF rfl (dF hh17) rfl) (WO.mv rfl rfl (WO.z rfl (WO.z rfl (WO.z rfl (WO.o rfl (R.pickF rfl rfl rfl) (WO.a rfl rfl (WO.nil (WX.next (WC.ret (WX.blockR (WX.thenR ?_)))))))))))))))
       refine WX.ret1 Tryz.results116 rfl ⟨_, rfl, by simp only [shapedB, hh14, hh15, hh16, hh17, if_true, if_false, decide_true, decide_false, Bool.and_true, Bool.true_and, Bool.and_false, Bool.false_and, Int.reduceEq], hE⟩
     ·
      refine WO.no rfl rfl (dF hh16) rfl (WO.no rfl rfl (dF hh16) rfl (WO.no rfl rfl (dF hh16) rfl (WO.o rfl (R.pickF rfl (dF hh16) rfl) (WO.mv rfl rfl (WO.z rfl (WO.z rfl (WO.z rfl (WO.z rfl (WO.o rfl (R.pickF rfl rfl rfl) (WO.mv rfl rfl (WO.z rfl (WO.z rfl (WO.z rfl (WO.o rfl (R.pickF rfl rfl rfl) (WO.a rfl rfl (WO.nil (WX.next (WC.ret (WX.blockR (WX.thenR ?_))))))))))))))))))))
      refine WX.ret1 Tryz.results116 rfl ⟨_, rfl, by simp only [shapedB, hh14, hh15, hh16, if_true, if_false, decide_false, Bool.true_and, Bool.and_false, Bool.false_and, Int.reduceEq], hE⟩
    ·
     refine WO.no rfl rfl hh15 rfl (WO.no rfl rfl hh15 rfl (WO.no rfl rfl hh15 rfl (WO.o rfl (R.pickF rfl hh15 rfl) (WO.mv rfl rfl (WO.z rfl (WO.z rfl (WO.z rfl (WO.o rfl (R.pickF rfl rfl rfl) (WO.mv rfl rfl (WO.z rfl (WO.z rfl (WO.z rfl (WO.z rfl (WO.o rfl (R.pickF rfl rfl rfl) (WO.mv rfl rfl (WO.z rfl (WO.z rfl (WO.z rfl (WO.o rfl (R.pickF rfl rfl rfl) (WO.a rfl rfl (WO.nil (WX.next (WC.ret (WX.blockR (WX.thenR ?_)))))))))))))))))))))))))
     refine WX.ret1 Tryz.results116 rfl ⟨_, rfl, by simp only [shapedB, hh14, hh15, if_true, if_false, Bool.false_and, Int.reduceEq], hE⟩
   ·
    refine WC.sr (WO.o rfl (R.eql rfl rfl) (WO.a rfl rfl (WO.nil (WX.next ?_))))
    refine WC.ite rfl (fun hh20 => ?_) (fun hh20 => ?_)
    ·
     refine WC.sr (WO.o rfl (R.fieldAddr Tryz.runUnderlying86 rfl Tryz.sizeOf3 rfl) (WO.o rfl (R.load Tryz.isAgg3 rfl (hB_c.cells 2 _ rfl)) (WO.o rfl (R.eql rfl rfl) (WO.mv rfl rfl (WO.splitP (d := 107) rfl (fun hh21 => ?_) (fun hh21 => ?_))))))
     ·
      refine WO.yes rfl rfl (dT hh21) (WO.o rfl (R.fieldAddr Tryz.runUnderlying86 rfl Tryz.sizeOf3 rfl) (WO.yes rfl rfl (dT hh21) (WO.o rfl (R.load Tryz.isAgg3 rfl (hB_c.cells 3 _ rfl)) (WO.yes rfl rfl (dT hh21) (WO.o rfl (R.eql rfl rfl) (WO.o rfl (R.pickT rfl (dT hh21) rfl) (WO.mv rfl rfl (WO.splitP (d := 112) rfl (fun hh22 => ?_) (fun hh22 => ?_)))))))))
      ·
       refine WO.yes rfl rfl (dT hh22) (WO.o rfl (R.fieldAddr Tryz.runUnderlying86 rfl Tryz.sizeOf50 rfl) (WO.yes rfl rfl (dT hh22) (WO.o rfl (R.load Tryz.isAgg50 rfl (hB_c.cells 9 _ rfl)) (WO.yes rfl rfl (dT hh22) (WO.o rfl (R.lenS rfl Tryz.runUnderlying50 rfl) (WO.yes rfl rfl (dT hh22) (WO.o rfl (R.eql rfl rfl) (WO.o rfl (R.pickT rfl (dT hh22) rfl) (WO.a rfl rfl (WO.nil (WX.next (WC.ret (WX.blockR (WX.thenR ?_))))))))))))))
       refine WX.ret1 Tryz.results116 rfl ⟨_, rfl, by simp only [shapedB, hh20, hh21, hh22, if_true, if_false, decide_true, Bool.and_true, Bool.true_and, Int.reduceEq], hE⟩
      ·
       refine WO.no rfl rfl (dF hh22) rfl (WO.no rfl rfl (dF hh22) rfl (WO.no rfl rfl (dF hh22) rfl (WO.no rfl rfl (dF hh22) rfl (WO.o rfl (R.pickF rfl (dF hh22) rfl) (WO.a rfl rfl (WO.nil (WX.next (WC.ret (WX.blockR (WX.thenR ?_))))))))))
       refine WX.ret1 Tryz.results116 rfl ⟨_, rfl, by simp only [shapedB, hh20, hh21, hh22, if_true, if_false, decide_true, decide_false, Bool.and_true, Bool.true_and, Bool.and_false, Bool.false_and, Int.reduceEq], hE⟩
     ·
      refine WO.no rfl rfl (dF hh21) rfl (WO.no rfl rfl (dF hh21) rfl (WO.no rfl rfl (dF hh21) rfl (WO.o rfl (R.pickF rfl (dF hh21) rfl) (WO.mv rfl rfl (WO.z rfl (WO.z rfl (WO.z rfl (WO.z rfl (WO.o rfl (R.pickF rfl rfl rfl) (WO.a rfl rfl (WO.nil (WX.next (WC.ret (WX.blockR (WX.thenR ?_)))))))))))))))
      refine WX.ret1 Tryz.results116 rfl ⟨_, rfl, by simp only [shapedB, hh20, hh21, if_true, if_false, decide_false, Bool.and_false, Bool.false_and, Int.reduceEq], hE⟩
    ·
     refine WC.sr (WO.o rfl (R.eql rfl rfl) (WO.a rfl rfl (WO.nil (WX.next ?_))))
     refine WC.ite rfl (fun hh23 => ?_) (fun hh23 => ?_)
     ·
      refine WC.sr (WO.o rfl (R.fieldAddr Tryz.runUnderlying86 rfl Tryz.sizeOf3 rfl) (WO.o rfl (R.load Tryz.isAgg3 rfl (hB_c.cells 2 _ rfl)) (WO.o rfl (R.eql rfl rfl) (WO.mv rfl rfl (WO.splitP (d := 123) rfl (fun hh24 => ?_) (fun hh24 => ?_))))))
      ·
       refine WO.yes rfl rfl (dT hh24) (WO.o rfl (R.fieldAddr Tryz.runUnderlying86 rfl Tryz.sizeOf24 rfl) (WO.yes rfl rfl (dT hh24) (WO.o rfl (R.load Tryz.isAgg24 rfl (hB_c.cells 8 _ rfl)) (WO.yes rfl rfl (dT hh24) (WO.o rfl (R.lenS rfl Tryz.runUnderlying24 rfl) (WO.yes rfl rfl (dT hh24) (WO.o rfl (R.eql rfl rfl) (WO.o rfl (R.pickT rfl (dT hh24) rfl) (WO.mv rfl rfl (WO.splitP (d := 129) rfl (fun hh25 => ?_) (fun hh25 => ?_)))))))))))
       ·
        refine WO.yes rfl rfl (dT hh25) (WO.o rfl (R.fieldAddr Tryz.runUnderlying86 rfl Tryz.sizeOf50 rfl) (WO.yes rfl rfl (dT hh25) (WO.o rfl (R.load Tryz.isAgg50 rfl (hB_c.cells 9 _ rfl)) (WO.yes rfl rfl (dT hh25) (WO.o rfl (R.lenS rfl Tryz.runUnderlying50 rfl) (WO.yes rfl rfl (dT hh25) (WO.o rfl (R.eql rfl rfl) (WO.o rfl (R.pickT rfl (dT hh25) rfl) (WO.a rfl rfl (WO.nil (WX.next (WC.ret (WX.blockR (WX.thenR ?_))))))))))))))
        refine WX.ret1 Tryz.results116 rfl ⟨_, rfl, by simp only [shapedB, hh23, hh24, hh25, if_true, if_false, decide_true, Bool.and_true, Bool.true_and, Int.reduceEq], hE⟩
       ·
        refine WO.no rfl rfl (dF hh25) rfl (WO.no rfl rfl (dF hh25) rfl (WO.no rfl rfl (dF hh25) rfl (WO.no rfl rfl (dF hh25) rfl (WO.o rfl (R.pickF rfl (dF hh25) rfl) (WO.a rfl rfl (WO.nil (WX.next (WC.ret (WX.blockR (WX.thenR ?_))))))))))
        refine WX.ret1 Tryz.results116 rfl ⟨_, rfl, by simp only [shapedB, hh23, hh24, hh25, if_true, if_false, decide_true, decide_false, Bool.and_true, Bool.true_and, Bool.and_false, Bool.false_and, Int.reduceEq], hE⟩
      ·
       refine WO.no rfl rfl (dF hh24) rfl (WO.no rfl rfl (dF hh24) rfl (WO.no rfl rfl (dF hh24) rfl (WO.no rfl rfl (dF hh24) rfl (WO.o rfl (R.pickF rfl (dF hh24) rfl) (WO.mv rfl rfl (WO.z rfl (WO.z rfl (WO.z rfl (WO.z rfl (WO.o rfl (R.pickF rfl rfl rfl) (WO.a rfl rfl (WO.nil (WX.next (WC.ret (WX.blockR (WX.thenR ?_))))))))))))))))
       refine WX.ret1 Tryz.results116 rfl ⟨_, rfl, by simp only [shapedB, hh23, hh24, if_true, if_false, decide_false, Bool.and_false, Bool.false_and, Int.reduceEq], hE⟩
     ·
      refine WC.sr (WO.o rfl (R.eql rfl rfl) (WO.a rfl rfl (WO.nil (WX.next ?_))))
      refine WC.ite rfl (fun hh26 => ?_) (fun hh26 => ?_)
      ·
       refine WC.sr (WO.mv rfl rfl (WO.mv rfl rfl (WO.splitB (d := 138) rfl (fun hh27 => ?_) (fun hh27 => ?_))))
       ·
        refine WO.yes rfl rfl hh27 (WO.mv rfl rfl (WO.o rfl (R.pickT rfl hh27 rfl) (WO.mv rfl rfl (WO.splitB (d := 141) rfl (fun hh28 => ?_) (fun hh28 => ?_)))))
        ·
         refine WO.yes rfl rfl hh28 (WO.o rfl (R.fieldAddr Tryz.runUnderlying86 rfl Tryz.sizeOf3 rfl) (WO.yes rfl rfl hh28 (WO.o rfl (R.load Tryz.isAgg3 rfl (hB_c.cells 3 _ rfl)) (WO.yes rfl rfl hh28 (WO.o rfl (R.geq rfl rfl) (WO.o rfl (R.pickT rfl hh28 rfl) (WO.mv rfl rfl (WO.splitP (d := 146) rfl (fun hh29 => ?_) (fun hh29 => ?_)))))))))
         ·
          refine WO.yes rfl rfl (dT hh29) (WO.o rfl (R.fieldAddr Tryz.runUnderlying86 rfl Tryz.sizeOf3 rfl) (WO.yes rfl rfl (dT hh29) (WO.o rfl (R.load Tryz.isAgg3 rfl (hB_c.cells 3 _ rfl)) (WO.yes rfl rfl (dT hh29) (WO.o rfl (R.fieldAddr Tryz.runUnderlying26 rfl Tryz.sizeOf23 rfl) (WO.yes rfl rfl (dT hh29) (WO.o rfl (R.load Tryz.isAgg23 rfl (hB_b.cells 1 _ rfl)) (WO.yes rfl rfl (dT hh29) (WO.o rfl (R.lenS rfl Tryz.runUnderlying23 rfl) (WO.yes rfl rfl (dT hh29) (WO.o rfl (R.lss rfl rfl) (WO.o rfl (R.pickT rfl (dT hh29) rfl) (WO.mv rfl rfl (WO.splitP (d := 154) rfl (fun hh30 => ?_) (fun hh30 => ?_)))))))))))))))
          ·
           refine WO.yes rfl rfl (dT hh30) (WO.o rfl (R.fieldAddr Tryz.runUnderlying86 rfl Tryz.sizeOf50 rfl) (WO.yes rfl rfl (dT hh30) (WO.o rfl (R.load Tryz.isAgg50 rfl (hB_c.cells 9 _ rfl)) (WO.yes rfl rfl (dT hh30) (WO.o rfl (R.lenS rfl Tryz.runUnderlying50 rfl) (WO.yes rfl rfl (dT hh30) (WO.o rfl (R.eql rfl rfl) (WO.o rfl (R.pickT rfl (dT hh30) rfl) (WO.mv rfl rfl (WO.splitP (d := 160) rfl (fun hh31 => ?_) (fun hh31 => ?_)))))))))))
           ·
            refine WO.yes rfl rfl (dT hh31) (WO.o rfl (R.fieldAddr Tryz.runUnderlying86 rfl Tryz.sizeOf84 rfl) (WO.yes rfl rfl (dT hh31) (WO.o rfl (R.loadK Tryz.isAgg84 Tryz.sizeOf84 rfl (by rfl) (hB_c.cells.sub 4 3)) (WO.yes rfl rfl (dT hh31) (WO.call rfl rfl rfl (F.call (vs := [_]) Tryz.call163 rfl) (refPlain_ok s.term _ D' _ (RTm.put hk)) ?_)))))
            rintro _ wz32 ⟨rfl, hz32⟩
            replace hE := hE.ext hz32
            replace hvs := hvs.ext stable_vr hz32
            replace hk := hk.ext stable_tm hz32
            replace hb := hb.ext stable_int hz32
            replace hB_b := hz32.blk hB_b (fun h => h)
            replace hB_c := hz32.blk hB_c (fun h => h)
            refine WO.o rfl (R.pickT rfl (dT hh31) rfl) (WO.a rfl rfl (WO.nil (WX.next (WC.ret (WX.blockR (WX.thenR ?_))))))
            refine WX.ret1 Tryz.results116 rfl ⟨_, rfl, by simp only [shapedB, hh26, hh27, hh28, hh29, hh30, hh31, if_true, if_false, decide_true, Bool.and_true, Bool.true_and, Int.reduceEq], hE⟩
           ·
            refine WO.no rfl rfl (dF hh31) rfl (WO.no rfl rfl (dF hh31) rfl (WO.no rfl rfl (dF hh31) rfl (WO.o rfl (R.pickF rfl (dF hh31) rfl) (WO.a rfl rfl (WO.nil (WX.next (WC.ret (WX.blockR (WX.thenR ?_)))))))))
            refine WX.ret1 Tryz.results116 rfl ⟨_, rfl, by simp only [shapedB, hh26, hh27, hh28, hh29, hh30, hh31, if_true, if_false, decide_true, decide_false, Bool.and_true, Bool.true_and, Bool.and_false, Bool.false_and, Int.reduceEq], hE⟩
          ·
           refine WO.no rfl rfl (dF hh30) rfl (WO.no rfl rfl (dF hh30) rfl (WO.no rfl rfl (dF hh30) rfl (WO.no rfl rfl (dF hh30) rfl (WO.o rfl (R.pickF rfl (dF hh30) rfl) (WO.mv rfl rfl (WO.z rfl (WO.z rfl (WO.z rfl (WO.o rfl (R.pickF rfl rfl rfl) (WO.a rfl rfl (WO.nil (WX.next (WC.ret (WX.blockR (WX.thenR ?_)))))))))))))))
           refine WX.ret1 Tryz.results116 rfl ⟨_, rfl, by simp only [shapedB, hh26, hh27, hh28, hh29, hh30, if_true, if_false, decide_true, decide_false, Bool.and_true, Bool.true_and, Bool.and_false, Bool.false_and, Int.reduceEq], hE⟩
         ·
          refine WO.no rfl rfl (dF hh29) rfl (WO.no rfl rfl (dF hh29) rfl (WO.no rfl rfl (dF hh29) rfl (WO.no rfl rfl (dF hh29) rfl (WO.no rfl rfl (dF hh29) rfl (WO.no rfl rfl (dF hh29) rfl (WO.o rfl (R.pickF rfl (dF hh29) rfl) (WO.mv rfl rfl (WO.z rfl (WO.z rfl (WO.z rfl (WO.z rfl (WO.o rfl (R.pickF rfl rfl rfl) (WO.mv rfl rfl (WO.z rfl (WO.z rfl (WO.z rfl (WO.o rfl (R.pickF rfl rfl rfl) (WO.a rfl rfl (WO.nil (WX.next (WC.ret (WX.blockR (WX.thenR ?_)))))))))))))))))))))))
          refine WX.ret1 Tryz.results116 rfl ⟨_, rfl, by simp only [shapedB, hh26, hh27, hh28, hh29, if_true, if_false, decide_false, Bool.and_true, Bool.true_and, Bool.and_false, Bool.false_and, Int.reduceEq], hE⟩
        ·
         refine WO.no rfl rfl hh28 rfl (WO.no rfl rfl hh28 rfl (WO.no rfl rfl hh28 rfl (WO.o rfl (R.pickF rfl hh28 rfl) (WO.mv rfl rfl (WO.z rfl (WO.z rfl (WO.z rfl (WO.z rfl (WO.z rfl (WO.z rfl (WO.o rfl (R.pickF rfl rfl rfl) (WO.mv rfl rfl (WO.z rfl (WO.z rfl (WO.z rfl (WO.z rfl (WO.o rfl (R.pickF rfl rfl rfl) (WO.mv rfl rfl (WO.z rfl (WO.z rfl (WO.z rfl (WO.o rfl (R.pickF rfl rfl rfl) (WO.a rfl rfl (WO.nil (WX.next (WC.ret (WX.blockR (WX.thenR ?_))))))))))))))))))))))))))))
         refine WX.ret1 Tryz.results116 rfl ⟨_, rfl, by simp only [shapedB, hh26, hh27, hh28, if_true, if_false, Bool.true_and, Bool.and_false, Bool.false_and, Int.reduceEq], hE⟩
       ·
        refine WO.no rfl rfl hh27 rfl (WO.o rfl (R.pickF rfl hh27 rfl) (WO.mv rfl rfl (WO.z rfl (WO.z rfl (WO.z rfl (WO.o rfl (R.pickF rfl rfl rfl) (WO.mv rfl rfl (WO.z rfl (WO.z rfl (WO.z rfl (WO.z rfl (WO.z rfl (WO.z rfl (WO.o rfl (R.pickF rfl rfl rfl) (WO.mv rfl rfl (WO.z rfl (WO.z rfl (WO.z rfl (WO.z rfl (WO.o rfl (R.pickF rfl rfl rfl) (WO.mv rfl rfl (WO.z rfl (WO.z rfl (WO.z rfl (WO.o rfl (R.pickF rfl rfl rfl) (WO.a rfl rfl (WO.nil (WX.next (WC.ret (WX.blockR (WX.thenR ?_)))))))))))))))))))))))))))))))
        refine WX.ret1 Tryz.results116 rfl ⟨_, rfl, by simp only [shapedB, hh26, hh27, if_true, if_false, Bool.false_and, Int.reduceEq], hE⟩
      ·
       refine WC.sr (WO.o rfl (R.eql rfl rfl) (WO.a rfl rfl (WO.nil (WX.next ?_))))
       refine WC.ite rfl (fun hh33 => ?_) (fun hh33 => ?_)
       ·
        refine WC.sr (WO.mv rfl rfl (WO.mv rfl rfl (WO.splitB (d := 168) rfl (fun hh34 => ?_) (fun hh34 => ?_))))
        ·
         refine WO.yes rfl rfl hh34 (WO.mv rfl rfl (WO.o rfl (R.pickT rfl hh34 rfl) (WO.mv rfl rfl (WO.splitB (d := 171) rfl (fun hh35 => ?_) (fun hh35 => ?_)))))
         ·
          refine WO.yes rfl rfl hh35 (WO.o rfl (R.fieldAddr Tryz.runUnderlying86 rfl Tryz.sizeOf3 rfl) (WO.yes rfl rfl hh35 (WO.o rfl (R.load Tryz.isAgg3 rfl (hB_c.cells 2 _ rfl)) (WO.yes rfl rfl hh35 (WO.o rfl (R.eql rfl rfl) (WO.o rfl (R.pickT rfl hh35 rfl) (WO.mv rfl rfl (WO.splitP (d := 176) rfl (fun hh36 => ?_) (fun hh36 => ?_)))))))))
          ·
           refine WO.yes rfl rfl (dT hh36) (WO.o rfl (R.fieldAddr Tryz.runUnderlying86 rfl Tryz.sizeOf3 rfl) (WO.yes rfl rfl (dT hh36) (WO.o rfl (R.load Tryz.isAgg3 rfl (hB_c.cells 3 _ rfl)) (WO.yes rfl rfl (dT hh36) (WO.o rfl (R.eql rfl rfl) (WO.o rfl (R.pickT rfl (dT hh36) rfl) (WO.mv rfl rfl (WO.splitP (d := 181) rfl (fun hh37 => ?_) (fun hh37 => ?_)))))))))
           ·
            refine WO.yes rfl rfl (dT hh37) (WO.o rfl (R.fieldAddr Tryz.runUnderlying86 rfl Tryz.sizeOf84 rfl) (WO.yes rfl rfl (dT hh37) (WO.o rfl (R.loadK Tryz.isAgg84 Tryz.sizeOf84 rfl (by rfl) (hB_c.cells.sub 4 3)) (WO.yes rfl rfl (dT hh37) (WO.call rfl rfl rfl (F.call (vs := [_]) Tryz.call163 rfl) (refPlain_ok s.term _ D' _ (RTm.put hk)) ?_)))))
            rintro _ wz38 ⟨rfl, hz38⟩
            replace hE := hE.ext hz38
            replace hvs := hvs.ext stable_vr hz38
            replace hk := hk.ext stable_tm hz38
            replace hb := hb.ext stable_int hz38
            replace hB_b := hz38.blk hB_b (fun h => h)
            replace hB_c := hz38.blk hB_c (fun h => h)
            refine WO.o rfl (R.pickT rfl (dT hh37) rfl) (WO.mv rfl rfl (WO.splitB (d := 186) rfl (fun hh39 => ?_) (fun hh39 => ?_)))
            ·
             refine WO.yes rfl rfl hh39 (WO.o rfl (R.fieldAddr Tryz.runUnderlying86 rfl Tryz.sizeOf50 rfl) (WO.yes rfl rfl hh39 (WO.o rfl (R.load Tryz.isAgg50 rfl (hB_c.cells 9 _ rfl)) (WO.yes rfl rfl hh39 (WO.call rfl rfl rfl (F.call (vs := [_]) Tryz.call164 rfl) (refRising_ok s.bounds _ D' _ hb) ?_)))))
             rintro _ wz40 ⟨rfl, hz40⟩
             replace hE := hE.ext hz40
             replace hvs := hvs.ext stable_vr hz40
             replace hk := hk.ext stable_tm hz40
             replace hb := hb.ext stable_int hz40
             replace hB_b := hz40.blk hB_b (fun h => h)
             replace hB_c := hz40.blk hB_c (fun h => h)
             refine WO.o rfl (R.pickT rfl hh39 rfl) (WO.a rfl rfl (WO.nil (WX.next (WC.ret (WX.blockR (WX.thenR ?_))))))
             refine WX.ret1 Tryz.results116 rfl ⟨_, rfl, by simp only [shapedB, hh33, hh34, hh35, hh36, hh37, hh39, if_true, if_false, decide_true, Bool.and_true, Bool.true_and, Int.reduceEq], hE⟩
            ·
             refine WO.no rfl rfl hh39 rfl (WO.no rfl rfl hh39 rfl (WO.no rfl rfl hh39 rfl (WO.o rfl (R.pickF rfl hh39 rfl) (WO.a rfl rfl (WO.nil (WX.next (WC.ret (WX.blockR (WX.thenR ?_)))))))))
             refine WX.ret1 Tryz.results116 rfl ⟨_, rfl, by simp only [shapedB, hh33, hh34, hh35, hh36, hh37, hh39, if_true, if_false, decide_true, Bool.and_true, Bool.true_and, Bool.and_false, Bool.false_and, Int.reduceEq], hE⟩
           ·
            refine WO.no rfl rfl (dF hh37) rfl (WO.no rfl rfl (dF hh37) rfl (WO.no rfl rfl (dF hh37) rfl (WO.o rfl (R.pickF rfl (dF hh37) rfl) (WO.mv rfl rfl (WO.z rfl (WO.z rfl (WO.z rfl (WO.o rfl (R.pickF rfl rfl rfl) (WO.a rfl rfl (WO.nil (WX.next (WC.ret (WX.blockR (WX.thenR ?_))))))))))))))
            refine WX.ret1 Tryz.results116 rfl ⟨_, rfl, by simp only [shapedB, hh33, hh34, hh35, hh36, hh37, if_true, if_false, decide_true, decide_false, Bool.and_true, Bool.true_and, Bool.and_false, Bool.false_and, Int.reduceEq], hE⟩
          ·
           refine WO.no rfl rfl (dF hh36) rfl (WO.no rfl rfl (dF hh36) rfl (WO.no rfl rfl (dF hh36) rfl (WO.o rfl (R.pickF rfl (dF hh36) rfl) (WO.mv rfl rfl (WO.z rfl (WO.z rfl (WO.z rfl (WO.o rfl (R.pickF rfl rfl rfl) (WO.mv rfl rfl (WO.z rfl (WO.z rfl (WO.z rfl (WO.o rfl (R.pickF rfl rfl rfl) (WO.a rfl rfl (WO.nil (WX.next (WC.ret (WX.blockR (WX.thenR ?_)))))))))))))))))))
           refine WX.ret1 Tryz.results116 rfl ⟨_, rfl, by simp only [shapedB, hh33, hh34, hh35, hh36, if_true, if_false, decide_false, Bool.and_true, Bool.true_and, Bool.and_false, Bool.false_and, Int.reduceEq], hE⟩
         ·
          refine WO.no rfl rfl hh35 rfl (WO.no rfl rfl hh35 rfl (WO.no rfl rfl hh35 rfl (WO.o rfl (R.pickF rfl hh35 rfl) (WO.mv rfl rfl (WO.z rfl (WO.z rfl (WO.z rfl (WO.o rfl (R.pickF rfl rfl rfl) (WO.mv rfl rfl (WO.z rfl (WO.z rfl (WO.z rfl (WO.o rfl (R.pickF rfl rfl rfl) (WO.mv rfl rfl (WO.z rfl (WO.z rfl (WO.z rfl (WO.o rfl (R.pickF rfl rfl rfl) (WO.a rfl rfl (WO.nil (WX.next (WC.ret (WX.blockR (WX.thenR ?_))))))))))))))))))))))))
          refine WX.ret1 Tryz.results116 rfl ⟨_, rfl, by simp only [shapedB, hh33, hh34, hh35, if_true, if_false, Bool.true_and, Bool.and_false, Bool.false_and, Int.reduceEq], hE⟩
        ·
         refine WO.no rfl rfl hh34 rfl (WO.o rfl (R.pickF rfl hh34 rfl) (WO.mv rfl rfl (WO.z rfl (WO.z rfl (WO.z rfl (WO.o rfl (R.pickF rfl rfl rfl) (WO.mv rfl rfl (WO.z rfl (WO.z rfl (WO.z rfl (WO.o rfl (R.pickF rfl rfl rfl) (WO.mv rfl rfl (WO.z rfl (WO.z rfl (WO.z rfl (WO.o rfl (R.pickF rfl rfl rfl) (WO.mv rfl rfl (WO.z rfl (WO.z rfl (WO.z rfl (WO.o rfl (R.pickF rfl rfl rfl) (WO.a rfl rfl (WO.nil (WX.next (WC.ret (WX.blockR (WX.thenR ?_)))))))))))))))))))))))))))
         refine WX.ret1 Tryz.results116 rfl ⟨_, rfl, by simp only [shapedB, hh33, hh34, if_true, if_false, Bool.false_and, Int.reduceEq], hE⟩
       ·
        refine WC.skip (WX.blockN (WX.next (WC.seq (WC.region (WO.a rfl rfl (WO.nil (WX.next (WC.ret ?_))))))))
        refine WX.ret1 Tryz.results116 rfl ⟨_, rfl, by simp only [shapedB, hh6, hh10, hh14, hh20, hh23, hh26, hh33, if_false], hE⟩
theorem shapedB_iff (vs : List Vr) (nh : Nat) (s : St) (last : Bool) : shapedB vs nh s last = (!(decide (s.act < 0) || decide (6 < s.act)) && !(!uvB s.act && decide (s.var ≠ 0)) && !(!unB s.act && decide (s.n ≠ 0)) && !(!utB s.act && !plainB s.term)
  && !(decide (s.act ≠ 3) && decide (s.act ≠ 4) && decide (0 < (s.thn.length : Int))) && !(decide (s.act ≠ 3) && decide (0 < (s.els.length : Int))) && !(decide (s.act ≠ 6) && decide (0 < (s.bounds.length : Int)))
  && !(uvB s.act && !localB vs s.var) && !(decide (s.act = 5) && (decide (s.n < 0) || decide ((nh : Int) ≤ s.n)))
  && (decide (s.act ≠ 6) || (last && groupsB s.bounds))) := by
 have c0 : ∀ n : Nat, decide ((n : Int) = 0) = !decide (0 < (n : Int)) := by intro n; rw [not_decide_eq]; congr 1; simp
 have c1 : decide (s.var = 0) = !decide (s.var ≠ 0) := by rw [not_decide_eq]; congr 1; simp
 have c2 : decide (s.n = 0) = !decide (s.n ≠ 0) := by rw [not_decide_eq]; congr 1; simp
 have c3 : decide (0 ≤ s.n) = !decide (s.n < 0) := by rw [not_decide_eq]; congr 1; simp
 have c4 : decide (s.n < (nh : Int)) = !decide ((nh : Int) ≤ s.n) := by rw [not_decide_eq]; congr 1; simp
 unfold shapedB freeB uvB unB utB
 simp only [c0, c1, c2, c3, c4]
 generalize decide (0 < (s.thn.length : Int)) = p1
 generalize decide (0 < (s.els.length : Int)) = p2
 generalize decide (0 < (s.bounds.length : Int)) = p3
 generalize decide (s.var ≠ 0) = p4
 generalize decide (s.n ≠ 0) = p5
 generalize decide (s.n < 0) = p6
 generalize decide ((nh : Int) ≤ s.n) = p7
 generalize plainB s.term = p8
 generalize localB vs s.var = p9
 generalize groupsB s.bounds = p10
 rcases (show s.act < 0 ∨ s.act = 0 ∨ s.act = 1 ∨ s.act = 2 ∨ s.act = 3 ∨ s.act = 4 ∨ s.act = 5 ∨ s.act = 6 ∨ 6 < s.act by omega) with h | h | h | h | h | h | h | h | h
 · rw [if_neg (by omega), if_neg (by omega), if_neg (by omega), if_neg (by omega), if_neg (by omega), if_neg (by omega), if_neg (by omega), decide_eq_true h]; rfl
 · rw [h]; revert p1 p2 p3 p4 p5 p6 p7 p8 p9 p10 last; decide
 · rw [h]; revert p1 p2 p3 p4 p5 p6 p7 p8 p9 p10 last; decide
 · rw [h]; revert p1 p2 p3 p4 p5 p6 p7 p8 p9 p10 last; decide
 · rw [h]; revert p1 p2 p3 p4 p5 p6 p7 p8 p9 p10 last; decide
 · rw [h]; revert p1 p2 p3 p4 p5 p6 p7 p8 p9 p10 last; decide
 · rw [h]; revert p1 p2 p3 p4 p5 p6 p7 p8 p9 p10 last; decide
 · rw [h]; revert p1 p2 p3 p4 p5 p6 p7 p8 p9 p10 last; decide
 · rw [if_neg (by omega), if_neg (by omega), if_neg (by omega), if_neg (by omega), if_neg (by omega), if_neg (by omega), if_neg (by omega), decide_eq_true h]; simp
theorem flatShaped_ok (f : Fl) (s : St) (last : Bool) (v1 v2 v3 : Value) (cs : List Value) (D D' : Nat → Prop) (w : World) (hf : RFl D w f v1 v2 v3) (hs : RSt D' w s cs) : Calls Tryz.prog 157 #[.agg #[v1, v2, v3], .agg cs.toArray, .bool last] w (Ret fun r w' => r = .bool (shapedB f.vars f.hatches.length s last) ∧ Ext w w') := by
 obtain ⟨hvs, hhs, hbd⟩ := hf
 obtain ⟨a1, n1, rfl⟩ := hvs.form
 obtain ⟨a2, n2, rfl⟩ := hhs.form
 obtain ⟨u1, u2, u3, u4, rfl, hk, ht, he, hb⟩ := hs.get
 obtain ⟨a4, n4, rfl⟩ := hk.form
 obtain ⟨a5, n5, rfl⟩ := ht.form
 obtain ⟨a6, n6, rfl⟩ := he.form
 obtain ⟨a7, n7, rfl⟩ := hb.form
 rw [shapedB_iff]
 have hE := Keep.refl (fun _ => False) w
 refine calls Tryz.func157 rfl [(0, .agg #[.slice a1 f.vars.length n1, .slice a2 f.hatches.length n2, v3]), (1, .agg #[.int .i64 s.act, .int .i64 s.cost, .int .i64 s.var, .int .i64 s.n, .int .i64 s.term.op, .int .i64 s.term.n, .slice a4 s.term.kids.length n4, .slice a5 s.thn.length n5, .slice a6 s.els.length n6, .slice a7 s.bounds.length n7]), (2, .bool last)] 139 ⟨Nat.le_of_ble_eq_true rfl, Tryz.ntmps157⟩ (argsOk (Sub.of rfl)) ?_
 refine WC.sr (WO.mem rfl rfl rfl (M.box rfl rfl) ?_)
 rintro _ w_b ⟨b, rfl, hg_b, hs_b, hB_b, hk_b⟩
 have hge_b : _ ≤ b := Nat.le_trans hE.size (Nat.le_of_eq hg_b.symm)
 replace hE := hE.ext hk_b
 replace hvs := hvs.ext stable_vr hk_b
 replace hk := hk.ext stable_tm hk_b
 replace hb := hb.ext stable_int hk_b
 refine WO.mem rfl rfl rfl (M.box rfl rfl) ?_
 rintro _ w_c ⟨c, rfl, hg_c, hs_c, hB_c, hk_c⟩
 have hn_b_c : b ≠ c := by have := hB_b.lt; omega
 have hge_c : _ ≤ c := Nat.le_trans hE.size (Nat.le_of_eq hg_c.symm)
 replace hE := hE.ext hk_c
 replace hvs := hvs.ext stable_vr hk_c
 replace hk := hk.ext stable_tm hk_c
 replace hb := hb.ext stable_int hk_c
 replace hB_b := hk_c.blk hB_b (fun h => h)
 refine WO.a rfl rfl (WO.nr (WO.o rfl (R.fieldAddr Tryz.runUnderlying86 rfl Tryz.sizeOf80 rfl) (WO.o rfl (R.load Tryz.isAgg80 rfl (hB_c.cells 0 _ rfl)) (WO.a rfl rfl (WO.nil (WX.next (WC.seq (WC.block (WC.seq (WC.seq ?_))))))))))
 have hC2 := Keep.refl (fun _ => False) w_c
 refine WC.cut (σ := Bool) (fun q => [(2, .bool last), (3, .pointer (some ⟨b, 0, none⟩)), (4, .pointer (some ⟨c, 0, none⟩)), (7, .int .i64 s.act), (10, .bool q)]) (fun q => fun w' => q = (decide (s.act < 0) || decide (6 < s.act)) ∧ Ext w_c w') ?_ ?_
 ·
  refine WC.region (WO.mv rfl rfl (WO.o rfl (R.lss rfl rfl) (WO.mv rfl rfl (WO.splitP (d := 13) rfl (fun hh1 => ?_) (fun hh1 => ?_)))))
  · refine WO.no rfl rfl (dT hh1) rfl (WO.no rfl rfl (dT hh1) rfl (WO.o rfl (R.pickT rfl (dT hh1) rfl) (WO.a rfl rfl (WO.nil (WX.meet (_) (Sub.of rfl) (⟨by first | (simp only [hh1, decide_true, Bool.true_or]; done) | (exfalso; omega), hC2⟩))))))
  · refine WO.yes rfl rfl (dF hh1) (WO.mv rfl rfl (WO.yes rfl rfl (dF hh1) (WO.o rfl (R.gtr rfl rfl) (WO.o rfl (R.pickF rfl (dF hh1) rfl) (WO.a rfl rfl (WO.nil (WX.meet (_) (Sub.of rfl) (⟨by first | (simp only [hh1, decide_false, Bool.false_or]; done) | (exfalso; omega), hC2⟩))))))))
 rintro q x2 ⟨hq2, hX2⟩
 show WX _ _ _ [(2, .bool last), (3, .pointer (some ⟨b, 0, none⟩)), (4, .pointer (some ⟨c, 0, none⟩)), (7, .int .i64 s.act), (10, .bool q)] _
 subst hq2
 replace hE := hE.ext hX2
 replace hvs := hvs.ext stable_vr hX2
 replace hk := hk.ext stable_tm hX2
 replace hb := hb.ext stable_int hX2
 replace hB_b := hX2.blk hB_b (fun h => h)
 replace hB_c := hX2.blk hB_c (fun h => h)
 refine WX.next (WC.bool rfl (fun hh102 => ?_) (fun hh102 => ?_))
 ·
  refine WC.skip (WX.next (WC.tt rfl (hh102) (WC.sr (WO.a rfl rfl (WO.nil (WX.next (WC.ret (WX.blockR (WX.thenR ?_)))))))))
  refine WX.ret1 Tryz.results157 rfl ⟨_, rfl, by simp only [hh102, Bool.not_true, Bool.false_and], hE⟩
 ·
  refine WC.seq ?_
  have hC3 := Keep.refl (fun _ => False) x2
  refine WC.cut (σ := Bool) (fun q => [(2, .bool last), (3, .pointer (some ⟨b, 0, none⟩)), (4, .pointer (some ⟨c, 0, none⟩)), (7, .int .i64 s.act), (10, .bool q)]) (fun q => fun w' => q = (!uvB s.act && decide (s.var ≠ 0)) ∧ Ext x2 w') ?_ ?_
  ·
   refine WC.region (WO.mv rfl rfl (WO.call rfl rfl rfl (F.call (vs := [_]) Tryz.call198 rfl) (usesVar_ok s.act _) ?_))
   rintro _ wz2 ⟨rfl, hz2⟩
   replace hE := hE.ext hz2
   replace hvs := hvs.ext stable_vr hz2
   replace hk := hk.ext stable_tm hz2
   replace hb := hb.ext stable_int hz2
   replace hB_b := hz2.blk hB_b (fun h => h)
   replace hB_c := hz2.blk hB_c (fun h => h)
   replace hC3 := hC3.ext hz2
   refine WO.o rfl (R.notU rfl (by first | exact not_decide_eq | rfl)) (WO.mv rfl rfl (WO.splitB (d := 20) rfl (fun hh3 => ?_) (fun hh3 => ?_)))
   · refine WO.yes rfl rfl hh3 (WO.o rfl (R.fieldAddr Tryz.runUnderlying86 rfl Tryz.sizeOf3 rfl) (WO.yes rfl rfl hh3 (WO.o rfl (R.load Tryz.isAgg3 rfl (hB_c.cells 2 _ rfl)) (WO.yes rfl rfl hh3 (WO.o rfl (R.neq rfl rfl) (WO.o rfl (R.pickT rfl hh3 rfl) (WO.a rfl rfl (WO.nil (WX.meet (_) (Sub.of rfl) (⟨by first | (simp only [hh3, Bool.true_and, ne_eq, decide_not]; done) | (exfalso; omega), hC3⟩))))))))))
   · refine WO.no rfl rfl hh3 rfl (WO.no rfl rfl hh3 rfl (WO.no rfl rfl hh3 rfl (WO.o rfl (R.pickF rfl hh3 rfl) (WO.a rfl rfl (WO.nil (WX.meet (_) (Sub.of rfl) (⟨by first | (simp only [hh3, Bool.false_and, ne_eq, decide_not]; done) | (exfalso; omega), hC3⟩)))))))
  rintro q x3 ⟨hq3, hX3⟩
  show WX _ _ _ [(2, .bool last), (3, .pointer (some ⟨b, 0, none⟩)), (4, .pointer (some ⟨c, 0, none⟩)), (7, .int .i64 s.act), (10, .bool q)] _
  subst hq3
  replace hE := hE.ext hX3
  replace hvs := hvs.ext stable_vr hX3
  replace hk := hk.ext stable_tm hX3
  replace hb := hb.ext stable_int hX3
  replace hB_b := hX3.blk hB_b (fun h => h)
  replace hB_c := hX3.blk hB_c (fun h => h)
  refine WX.next (WC.bool rfl (fun hh103 => ?_) (fun hh103 => ?_))
  ·
   refine WC.skip (WX.next (WC.tt rfl (hh103) (WC.sr (WO.a rfl rfl (WO.nil (WX.next (WC.ret (WX.blockR (WX.thenR ?_)))))))))
   refine WX.ret1 Tryz.results157 rfl ⟨_, rfl, by simp only [hh102, hh103, Bool.not_true, Bool.and_false, Bool.false_and], hE⟩
  ·
   refine WC.seq ?_
   have hC4 := Keep.refl (fun _ => False) x3
   refine WC.cut (σ := Bool) (fun q => [(2, .bool last), (3, .pointer (some ⟨b, 0, none⟩)), (4, .pointer (some ⟨c, 0, none⟩)), (7, .int .i64 s.act), (10, .bool q)]) (fun q => fun w' => q = (!unB s.act && decide (s.n ≠ 0)) ∧ Ext x3 w') ?_ ?_
   ·
    refine WC.region (WO.mv rfl rfl (WO.call rfl rfl rfl (F.call (vs := [_]) Tryz.call199 rfl) (usesN_ok s.act _) ?_))
    rintro _ wz4 ⟨rfl, hz4⟩
    replace hE := hE.ext hz4
    replace hvs := hvs.ext stable_vr hz4
    replace hk := hk.ext stable_tm hz4
    replace hb := hb.ext stable_int hz4
    replace hB_b := hz4.blk hB_b (fun h => h)
    replace hB_c := hz4.blk hB_c (fun h => h)
    replace hC4 := hC4.ext hz4
    refine WO.o rfl (R.notU rfl (by first | exact not_decide_eq | rfl)) (WO.mv rfl rfl (WO.splitB (d := 28) rfl (fun hh5 => ?_) (fun hh5 => ?_)))
    · refine WO.yes rfl rfl hh5 (WO.o rfl (R.fieldAddr Tryz.runUnderlying86 rfl Tryz.sizeOf3 rfl) (WO.yes rfl rfl hh5 (WO.o rfl (R.load Tryz.isAgg3 rfl (hB_c.cells 3 _ rfl)) (WO.yes rfl rfl hh5 (WO.o rfl (R.neq rfl rfl) (WO.o rfl (R.pickT rfl hh5 rfl) (WO.a rfl rfl (WO.nil (WX.meet (_) (Sub.of rfl) (⟨by first | (simp only [hh5, Bool.true_and, ne_eq, decide_not]; done) | (exfalso; omega), hC4⟩))))))))))
    · refine WO.no rfl rfl hh5 rfl (WO.no rfl rfl hh5 rfl (WO.no rfl rfl hh5 rfl (WO.o rfl (R.pickF rfl hh5 rfl) (WO.a rfl rfl (WO.nil (WX.meet (_) (Sub.of rfl) (⟨by first | (simp only [hh5, Bool.false_and, ne_eq, decide_not]; done) | (exfalso; omega), hC4⟩)))))))
   rintro q x4 ⟨hq4, hX4⟩
   show WX _ _ _ [(2, .bool last), (3, .pointer (some ⟨b, 0, none⟩)), (4, .pointer (some ⟨c, 0, none⟩)), (7, .int .i64 s.act), (10, .bool q)] _
   subst hq4
   replace hE := hE.ext hX4
   replace hvs := hvs.ext stable_vr hX4
   replace hk := hk.ext stable_tm hX4
   replace hb := hb.ext stable_int hX4
   replace hB_b := hX4.blk hB_b (fun h => h)
   replace hB_c := hX4.blk hB_c (fun h => h)
   refine WX.next (WC.bool rfl (fun hh104 => ?_) (fun hh104 => ?_))
   ·
    refine WC.skip (WX.next (WC.tt rfl (hh104) (WC.sr (WO.a rfl rfl (WO.nil (WX.next (WC.ret (WX.blockR (WX.thenR ?_)))))))))
    refine WX.ret1 Tryz.results157 rfl ⟨_, rfl, by simp only [hh102, hh103, hh104, Bool.not_true, Bool.and_false, Bool.false_and], hE⟩
   ·
    refine WC.seq ?_
    have hC5 := Keep.refl (fun _ => False) x4
    refine WC.cut (σ := Bool) (fun q => [(2, .bool last), (3, .pointer (some ⟨b, 0, none⟩)), (4, .pointer (some ⟨c, 0, none⟩)), (7, .int .i64 s.act), (10, .bool q)]) (fun q => fun w' => q = (!utB s.act && !plainB s.term) ∧ Ext x4 w') ?_ ?_
    ·
     refine WC.region (WO.mv rfl rfl (WO.call rfl rfl rfl (F.call (vs := [_]) Tryz.call200 rfl) (usesTerm_ok s.act _) ?_))
     rintro _ wz6 ⟨rfl, hz6⟩
     replace hE := hE.ext hz6
     replace hvs := hvs.ext stable_vr hz6
     replace hk := hk.ext stable_tm hz6
     replace hb := hb.ext stable_int hz6
     replace hB_b := hz6.blk hB_b (fun h => h)
     replace hB_c := hz6.blk hB_c (fun h => h)
     replace hC5 := hC5.ext hz6
     refine WO.o rfl (R.notU rfl (by first | exact not_decide_eq | rfl)) (WO.mv rfl rfl (WO.splitB (d := 36) rfl (fun hh7 => ?_) (fun hh7 => ?_)))
     ·
      refine WO.yes rfl rfl hh7 (WO.o rfl (R.fieldAddr Tryz.runUnderlying86 rfl Tryz.sizeOf84 rfl) (WO.yes rfl rfl hh7 (WO.o rfl (R.loadK Tryz.isAgg84 Tryz.sizeOf84 rfl (by rfl) (hB_c.cells.sub 4 3)) (WO.yes rfl rfl hh7 (WO.call rfl rfl rfl (F.call (vs := [_]) Tryz.call201 rfl) (flatZero_ok s.term _ D' _ (RTm.put hk)) ?_)))))
      rintro _ wz8 ⟨rfl, hz8⟩
      replace hE := hE.ext hz8
      replace hvs := hvs.ext stable_vr hz8
      replace hk := hk.ext stable_tm hz8
      replace hb := hb.ext stable_int hz8
      replace hB_b := hz8.blk hB_b (fun h => h)
      replace hB_c := hz8.blk hB_c (fun h => h)
      replace hC5 := hC5.ext hz8
      refine WO.yes rfl rfl hh7 (WO.o rfl (R.notU rfl (by first | exact not_decide_eq | rfl)) (WO.o rfl (R.pickT rfl hh7 rfl) (WO.a rfl rfl (WO.nil (WX.meet (_) (Sub.of rfl) (⟨by first | (simp only [hh7, Bool.true_and]; done) | (exfalso; omega), hC5⟩))))))
     · refine WO.no rfl rfl hh7 rfl (WO.no rfl rfl hh7 rfl (WO.no rfl rfl hh7 rfl (WO.no rfl rfl hh7 rfl (WO.o rfl (R.pickF rfl hh7 rfl) (WO.a rfl rfl (WO.nil (WX.meet (_) (Sub.of rfl) (⟨by first | (simp only [hh7, Bool.false_and]; done) | (exfalso; omega), hC5⟩))))))))
    rintro q x5 ⟨hq5, hX5⟩
    show WX _ _ _ [(2, .bool last), (3, .pointer (some ⟨b, 0, none⟩)), (4, .pointer (some ⟨c, 0, none⟩)), (7, .int .i64 s.act), (10, .bool q)] _
    subst hq5
    replace hE := hE.ext hX5
    replace hvs := hvs.ext stable_vr hX5
    replace hk := hk.ext stable_tm hX5
    replace hb := hb.ext stable_int hX5
    replace hB_b := hX5.blk hB_b (fun h => h)
    replace hB_c := hX5.blk hB_c (fun h => h)
    refine WX.next (WC.bool rfl (fun hh105 => ?_) (fun hh105 => ?_))
    ·
     refine WC.skip (WX.next (WC.tt rfl (hh105) (WC.sr (WO.a rfl rfl (WO.nil (WX.next (WC.ret (WX.blockR (WX.thenR ?_)))))))))
     refine WX.ret1 Tryz.results157 rfl ⟨_, rfl, by simp only [hh102, hh103, hh104, hh105, Bool.not_true, Bool.and_false, Bool.false_and], hE⟩
    ·
     refine WC.seq ?_
     have hC6 := Keep.refl (fun _ => False) x5
     refine WC.cut (σ := Bool) (fun q => [(2, .bool last), (3, .pointer (some ⟨b, 0, none⟩)), (4, .pointer (some ⟨c, 0, none⟩)), (7, .int .i64 s.act), (10, .bool q)]) (fun q => fun w' => q = (decide (s.act ≠ 3) && decide (s.act ≠ 4) && decide (0 < (s.thn.length : Int))) ∧ Ext x5 w') ?_ ?_
     ·
      refine WC.region (WO.mv rfl rfl (WO.o rfl (R.neq rfl rfl) (WO.mv rfl rfl (WO.splitP (d := 44) rfl (fun hh9 => ?_) (fun hh9 => ?_)))))
      ·
       refine WO.yes rfl rfl (dT hh9) (WO.mv rfl rfl (WO.yes rfl rfl (dT hh9) (WO.o rfl (R.neq rfl rfl) (WO.o rfl (R.pickT rfl (dT hh9) rfl) (WO.mv rfl rfl (WO.splitP (d := 48) rfl (fun hh10 => ?_) (fun hh10 => ?_)))))))
       · refine WO.yes rfl rfl (dT hh10) (WO.o rfl (R.fieldAddr Tryz.runUnderlying86 rfl Tryz.sizeOf24 rfl) (WO.yes rfl rfl (dT hh10) (WO.o rfl (R.load Tryz.isAgg24 rfl (hB_c.cells 7 _ rfl)) (WO.yes rfl rfl (dT hh10) (WO.o rfl (R.lenS rfl Tryz.runUnderlying24 rfl) (WO.yes rfl rfl (dT hh10) (WO.o rfl (R.gtr rfl rfl) (WO.o rfl (R.pickT rfl (dT hh10) rfl) (WO.a rfl rfl (WO.nil (WX.meet (_) (Sub.of rfl) (⟨by first | (simp only [hh9, hh10, decide_true, Bool.and_true, Bool.true_and, not_false_eq_true, ne_eq]; done) | (exfalso; omega), hC6⟩))))))))))))
       · refine WO.no rfl rfl (dF hh10) rfl (WO.no rfl rfl (dF hh10) rfl (WO.no rfl rfl (dF hh10) rfl (WO.no rfl rfl (dF hh10) rfl (WO.o rfl (R.pickF rfl (dF hh10) rfl) (WO.a rfl rfl (WO.nil (WX.meet (_) (Sub.of rfl) (⟨by first | (simp only [hh9, hh10, decide_true, decide_false, Bool.and_false, Bool.false_and, not_false_eq_true, ne_eq]; done) | (exfalso; omega), hC6⟩))))))))
      · refine WO.no rfl rfl (dF hh9) rfl (WO.no rfl rfl (dF hh9) rfl (WO.o rfl (R.pickF rfl (dF hh9) rfl) (WO.mv rfl rfl (WO.z rfl (WO.z rfl (WO.z rfl (WO.z rfl (WO.o rfl (R.pickF rfl rfl rfl) (WO.a rfl rfl (WO.nil (WX.meet (_) (Sub.of rfl) (⟨by first | (simp only [hh9, decide_false, Bool.false_and, ne_eq, decide_not]; done) | (exfalso; omega), hC6⟩))))))))))))
     rintro q x6 ⟨hq6, hX6⟩
     show WX _ _ _ [(2, .bool last), (3, .pointer (some ⟨b, 0, none⟩)), (4, .pointer (some ⟨c, 0, none⟩)), (7, .int .i64 s.act), (10, .bool q)] _
     subst hq6
     replace hE := hE.ext hX6
     replace hvs := hvs.ext stable_vr hX6
     replace hk := hk.ext stable_tm hX6
     replace hb := hb.ext stable_int hX6
     replace hB_b := hX6.blk hB_b (fun h => h)
     replace hB_c := hX6.blk hB_c (fun h => h)
     refine WX.next (WC.bool rfl (fun hh106 => ?_) (fun hh106 => ?_))
     ·
      refine WC.skip (WX.next (WC.tt rfl (hh106) (WC.sr (WO.a rfl rfl (WO.nil (WX.next (WC.ret (WX.blockR (WX.thenR ?_)))))))))
      refine WX.ret1 Tryz.results157 rfl ⟨_, rfl, by simp only [hh102, hh103, hh104, hh105, hh106, Bool.not_true, Bool.and_false, Bool.false_and], hE⟩
     ·
      refine WC.seq ?_
      have hC7 := Keep.refl (fun _ => False) x6
      refine WC.cut (σ := Bool) (fun q => [(2, .bool last), (3, .pointer (some ⟨b, 0, none⟩)), (4, .pointer (some ⟨c, 0, none⟩)), (7, .int .i64 s.act), (10, .bool q)]) (fun q => fun w' => q = (decide (s.act ≠ 3) && decide (0 < (s.els.length : Int))) ∧ Ext x6 w') ?_ ?_
      ·
       refine WC.region (WO.mv rfl rfl (WO.o rfl (R.neq rfl rfl) (WO.mv rfl rfl (WO.splitP (d := 56) rfl (fun hh11 => ?_) (fun hh11 => ?_)))))
       · refine WO.yes rfl rfl (dT hh11) (WO.o rfl (R.fieldAddr Tryz.runUnderlying86 rfl Tryz.sizeOf24 rfl) (WO.yes rfl rfl (dT hh11) (WO.o rfl (R.load Tryz.isAgg24 rfl (hB_c.cells 8 _ rfl)) (WO.yes rfl rfl (dT hh11) (WO.o rfl (R.lenS rfl Tryz.runUnderlying24 rfl) (WO.yes rfl rfl (dT hh11) (WO.o rfl (R.gtr rfl rfl) (WO.o rfl (R.pickT rfl (dT hh11) rfl) (WO.a rfl rfl (WO.nil (WX.meet (_) (Sub.of rfl) (⟨by first | (simp only [hh11, decide_true, Bool.true_and, not_false_eq_true, ne_eq]; done) | (exfalso; omega), hC7⟩))))))))))))
       · refine WO.no rfl rfl (dF hh11) rfl (WO.no rfl rfl (dF hh11) rfl (WO.no rfl rfl (dF hh11) rfl (WO.no rfl rfl (dF hh11) rfl (WO.o rfl (R.pickF rfl (dF hh11) rfl) (WO.a rfl rfl (WO.nil (WX.meet (_) (Sub.of rfl) (⟨by first | (simp only [hh11, decide_false, Bool.false_and]; done) | (exfalso; omega), hC7⟩))))))))
      rintro q x7 ⟨hq7, hX7⟩
      show WX _ _ _ [(2, .bool last), (3, .pointer (some ⟨b, 0, none⟩)), (4, .pointer (some ⟨c, 0, none⟩)), (7, .int .i64 s.act), (10, .bool q)] _
      subst hq7
      replace hE := hE.ext hX7
      replace hvs := hvs.ext stable_vr hX7
      replace hk := hk.ext stable_tm hX7
      replace hb := hb.ext stable_int hX7
      replace hB_b := hX7.blk hB_b (fun h => h)
      replace hB_c := hX7.blk hB_c (fun h => h)
      refine WX.next (WC.bool rfl (fun hh107 => ?_) (fun hh107 => ?_))
      ·
       refine WC.skip (WX.next (WC.tt rfl (hh107) (WC.sr (WO.a rfl rfl (WO.nil (WX.next (WC.ret (WX.blockR (WX.thenR ?_)))))))))
       refine WX.ret1 Tryz.results157 rfl ⟨_, rfl, by simp only [hh102, hh103, hh104, hh105, hh106, hh107, Bool.not_true, Bool.and_false, Bool.false_and], hE⟩
      ·
       refine WC.seq ?_
       have hC8 := Keep.refl (fun _ => False) x7
       refine WC.cut (σ := Bool) (fun q => [(2, .bool last), (3, .pointer (some ⟨b, 0, none⟩)), (4, .pointer (some ⟨c, 0, none⟩)), (7, .int .i64 s.act), (10, .bool q)]) (fun q => fun w' => q = (decide (s.act ≠ 6) && decide (0 < (s.bounds.length : Int))) ∧ Ext x7 w') ?_ ?_
       ·
        refine WC.region (WO.mv rfl rfl (WO.o rfl (R.neq rfl rfl) (WO.mv rfl rfl (WO.splitP (d := 64) rfl (fun hh12 => ?_) (fun hh12 => ?_)))))
        · refine WO.yes rfl rfl (dT hh12) (WO.o rfl (R.fieldAddr Tryz.runUnderlying86 rfl Tryz.sizeOf50 rfl) (WO.yes rfl rfl (dT hh12) (WO.o rfl (R.load Tryz.isAgg50 rfl (hB_c.cells 9 _ rfl)) (WO.yes rfl rfl (dT hh12) (WO.o rfl (R.lenS rfl Tryz.runUnderlying50 rfl) (WO.yes rfl rfl (dT hh12) (WO.o rfl (R.gtr rfl rfl) (WO.o rfl (R.pickT rfl (dT hh12) rfl) (WO.a rfl rfl (WO.nil (WX.meet (_) (Sub.of rfl) (⟨by first | (simp only [hh12, decide_true, Bool.true_and, not_false_eq_true, ne_eq]; done) | (exfalso; omega), hC8⟩))))))))))))
        · refine WO.no rfl rfl (dF hh12) rfl (WO.no rfl rfl (dF hh12) rfl (WO.no rfl rfl (dF hh12) rfl (WO.no rfl rfl (dF hh12) rfl (WO.o rfl (R.pickF rfl (dF hh12) rfl) (WO.a rfl rfl (WO.nil (WX.meet (_) (Sub.of rfl) (⟨by first | (simp only [hh12, decide_false, Bool.false_and]; done) | (exfalso; omega), hC8⟩))))))))
       rintro q x8 ⟨hq8, hX8⟩
       show WX _ _ _ [(2, .bool last), (3, .pointer (some ⟨b, 0, none⟩)), (4, .pointer (some ⟨c, 0, none⟩)), (7, .int .i64 s.act), (10, .bool q)] _
       subst hq8
       replace hE := hE.ext hX8
       replace hvs := hvs.ext stable_vr hX8
       replace hk := hk.ext stable_tm hX8
       replace hb := hb.ext stable_int hX8
       replace hB_b := hX8.blk hB_b (fun h => h)
       replace hB_c := hX8.blk hB_c (fun h => h)
       refine WX.next (WC.bool rfl (fun hh108 => ?_) (fun hh108 => ?_))
       ·
        refine WC.skip (WX.next (WC.tt rfl (hh108) (WC.sr (WO.a rfl rfl (WO.nil (WX.next (WC.ret (WX.blockR (WX.thenR ?_)))))))))
        refine WX.ret1 Tryz.results157 rfl ⟨_, rfl, by simp only [hh102, hh103, hh104, hh105, hh106, hh107, hh108, Bool.not_true, Bool.and_false, Bool.false_and], hE⟩
       ·
        refine WC.seq ?_
        have hC9 := Keep.refl (fun _ => False) x8
        refine WC.cut (σ := Bool) (fun q => [(2, .bool last), (3, .pointer (some ⟨b, 0, none⟩)), (4, .pointer (some ⟨c, 0, none⟩)), (7, .int .i64 s.act), (10, .bool q)]) (fun q => fun w' => q = (uvB s.act && !localB f.vars s.var) ∧ Ext x8 w') ?_ ?_
        ·
         by_cases hv : 0 ≤ s.var ∧ s.var < f.vars.length
         ·
          obtain ⟨x, he_x⟩ : ∃ x, f.vars[s.var.toNat]? = some x := ⟨_, List.getElem?_eq_getElem (by omega)⟩
          have hm_x := List.mem_of_getElem? he_x
          obtain ⟨b_x, o_x, c_x, ha_x, _, hc_x, hR_x⟩ := hvs.at he_x
          have h1_x := RVr.one hR_x
          obtain rfl := hR_x
          have hlt_x : b_x < _ := World.block_lt_of_cell? _ _ (hc_x 0 _ rfl)
          have hil : localB f.vars s.var = decide (x.kind = 0) := by unfold localB isLocal; rw [he_x, decide_eq_true hv.1, decide_eq_true hv.2]; rfl
          refine WC.region (WO.mv rfl rfl (WO.call rfl rfl rfl (F.call (vs := [_]) Tryz.call198 rfl) (usesVar_ok s.act _) ?_))
          rintro _ wz13 ⟨rfl, hz13⟩
          replace hE := hE.ext hz13
          replace hvs := hvs.ext stable_vr hz13
          replace hk := hk.ext stable_tm hz13
          replace hb := hb.ext stable_int hz13
          replace hB_b := hz13.blk hB_b (fun h => h)
          replace hB_c := hz13.blk hB_c (fun h => h)
          replace hC9 := hC9.ext hz13
          replace hc_x := hz13.cells hc_x (fun h => h)
          refine WO.mv rfl rfl (WO.splitB (d := 72) rfl (fun hh14 => ?_) (fun hh14 => ?_))
          ·
           refine WO.yes rfl rfl hh14 (WO.o rfl (R.fieldAddr Tryz.runUnderlying86 rfl Tryz.sizeOf3 rfl) (WO.yes rfl rfl hh14 (WO.o rfl (R.load Tryz.isAgg3 rfl (hB_c.cells 2 _ rfl)) (WO.yes rfl rfl hh14 (WO.o rfl (R.lss rfl rfl) (WO.yes rfl rfl hh14 (WO.mv rfl rfl (WO.splitP (d := 76) rfl (fun hh15 => ?_) (fun hh15 => ?_)))))))))
           · refine WO.no rfl rfl (dT hh15) rfl (WO.no rfl rfl (dT hh15) rfl (WO.no rfl rfl (dT hh15) rfl (WO.no rfl rfl (dT hh15) rfl (WO.no rfl rfl (dT hh15) rfl (WO.no rfl rfl (dT hh15) rfl (WO.yes rfl rfl hh14 (WO.o rfl (R.pickT rfl (dT hh15) rfl) (WO.yes rfl rfl hh14 (WO.mv rfl rfl (WO.z rfl (WO.z rfl (WO.z rfl (WO.z rfl (WO.z rfl (WO.z rfl (WO.z rfl (WO.z rfl (WO.yes rfl rfl hh14 (WO.o rfl (R.pickT rfl rfl rfl) (WO.o rfl (R.pickT rfl hh14 rfl) (WO.a rfl rfl (WO.nil (WX.meet (_) (Sub.of rfl) (⟨by first | (simp only [hil, hh14, Bool.true_and]; done) | (simp only [hh14, Bool.true_and]; done) | (exfalso; omega), hC9⟩))))))))))))))))))))))))
           ·
            refine WO.yes rfl rfl (dF hh15) (WO.o rfl (R.fieldAddr Tryz.runUnderlying86 rfl Tryz.sizeOf3 rfl) (WO.yes rfl rfl (dF hh15) (WO.o rfl (R.load Tryz.isAgg3 rfl (hB_c.cells 2 _ rfl)) (WO.yes rfl rfl (dF hh15) (WO.o rfl (R.fieldAddr Tryz.runUnderlying26 rfl Tryz.sizeOf22 rfl) (WO.yes rfl rfl (dF hh15) (WO.o rfl (R.load Tryz.isAgg22 rfl (hB_b.cells 0 _ rfl)) (WO.yes rfl rfl (dF hh15) (WO.o rfl (R.lenS rfl Tryz.runUnderlying22 rfl) (WO.yes rfl rfl (dF hh15) (WO.o rfl (R.geq rfl rfl) (WO.yes rfl rfl hh14 (WO.o rfl (R.pickF rfl (dF hh15) rfl) (WO.yes rfl rfl hh14 (WO.mv rfl rfl (WO.splitP (d := 84) rfl (fun hh16 => ?_) (fun hh16 => ?_)))))))))))))))))
            · refine WO.no rfl rfl (dT hh16) rfl (WO.no rfl rfl (dT hh16) rfl (WO.no rfl rfl (dT hh16) rfl (WO.no rfl rfl (dT hh16) rfl (WO.no rfl rfl (dT hh16) rfl (WO.no rfl rfl (dT hh16) rfl (WO.no rfl rfl (dT hh16) rfl (WO.no rfl rfl (dT hh16) rfl (WO.yes rfl rfl hh14 (WO.o rfl (R.pickT rfl (dT hh16) rfl) (WO.o rfl (R.pickT rfl hh14 rfl) (WO.a rfl rfl (WO.nil (WX.meet (_) (Sub.of rfl) (⟨by first | (simp only [hil, hh14, Bool.true_and]; done) | (simp only [hh14, Bool.true_and]; done) | (exfalso; omega), hC9⟩))))))))))))))
            ·
             refine WO.yes rfl rfl (dF hh16) (WO.o rfl (R.fieldAddr Tryz.runUnderlying26 rfl Tryz.sizeOf22 rfl) (WO.yes rfl rfl (dF hh16) (WO.o rfl (R.load Tryz.isAgg22 rfl (hB_b.cells 0 _ rfl)) (WO.yes rfl rfl (dF hh16) (WO.o rfl (R.fieldAddr Tryz.runUnderlying86 rfl Tryz.sizeOf3 rfl) (WO.yes rfl rfl (dF hh16) (WO.o rfl (R.load Tryz.isAgg3 rfl (hB_c.cells 2 _ rfl)) (WO.yes rfl rfl (dF hh16) (WO.o rfl (R.indexS Tryz.runUnderlying22 Tryz.sizeOf125 rfl rfl ha_x (by omega)) (WO.yes rfl rfl (dF hh16) (WO.o rfl (R.fieldAddr Tryz.runUnderlying125 rfl Tryz.sizeOf121 rfl) (WO.yes rfl rfl (dF hh16) (WO.o rfl (R.load Tryz.isAgg121 rfl (hc_x 1 _ rfl)) ?_)))))))))))))
             refine WO.yes rfl rfl (dF hh16) (WO.o rfl (R.neq rfl rfl) (WO.yes rfl rfl hh14 (WO.o rfl (R.pickF rfl (dF hh16) rfl) (WO.o rfl (R.pickT rfl hh14 rfl) (WO.a rfl rfl (WO.nil (WX.meet (_) (Sub.of rfl) (⟨by first | (simp only [hil, hh14, Bool.true_and, ne_eq, decide_not]; done) | (simp only [hh102, hh103, hh104, hh105, hh106, hh107, hh108, hh14, hh15, hh16, decide_true, decide_false, Bool.and_true, Bool.true_and, Bool.and_false, Bool.false_and, Bool.or_true, Bool.true_or, Bool.or_false, Bool.false_or, Bool.not_true, Bool.not_false, not_true, not_false_eq_true, ne_eq, decide_not]; done) | (exfalso; omega), hC9⟩))))))))
          · refine WO.no rfl rfl hh14 rfl (WO.no rfl rfl hh14 rfl (WO.no rfl rfl hh14 rfl (WO.no rfl rfl hh14 rfl (WO.noU rfl rfl rfl (WO.noU rfl rfl rfl (WO.noU rfl rfl rfl (WO.noU rfl rfl rfl (WO.noU rfl rfl rfl (WO.noU rfl rfl rfl (WO.no rfl rfl hh14 rfl (WO.no rfl rfl hh14 rfl (WO.noU rfl rfl rfl (WO.noU rfl rfl rfl (WO.noU rfl rfl rfl (WO.noU rfl rfl rfl (WO.noU rfl rfl rfl (WO.noU rfl rfl rfl (WO.noU rfl rfl rfl (WO.noU rfl rfl rfl (WO.no rfl rfl hh14 rfl (WO.o rfl (R.pickF rfl hh14 rfl) (WO.a rfl rfl (WO.nil (WX.meet (_) (Sub.of rfl) (⟨by first | (simp only [hil, hh14, Bool.false_and]; done) | (simp only [hh102, hh103, hh104, hh105, hh106, hh107, hh108, hh14, decide_true, decide_false, Bool.and_true, Bool.true_and, Bool.and_false, Bool.false_and, Bool.or_true, Bool.true_or, Bool.or_false, Bool.false_or, Bool.not_true, Bool.not_false, not_true, not_false_eq_true, ne_eq, decide_not]; done) | (exfalso; omega), hC9⟩)))))))))))))))))))))))))
         ·
          have hil : localB f.vars s.var = false := by unfold localB; by_cases h0 : 0 ≤ s.var <;> simp [h0] <;> omega
          refine WC.region (WO.mv rfl rfl (WO.call rfl rfl rfl (F.call (vs := [_]) Tryz.call198 rfl) (usesVar_ok s.act _) ?_))
          rintro _ wz17 ⟨rfl, hz17⟩
          replace hE := hE.ext hz17
          replace hvs := hvs.ext stable_vr hz17
          replace hk := hk.ext stable_tm hz17
          replace hb := hb.ext stable_int hz17
          replace hB_b := hz17.blk hB_b (fun h => h)
          replace hB_c := hz17.blk hB_c (fun h => h)
          replace hC9 := hC9.ext hz17
          refine WO.mv rfl rfl (WO.splitB (d := 72) rfl (fun hh18 => ?_) (fun hh18 => ?_))
          ·
           refine WO.yes rfl rfl hh18 (WO.o rfl (R.fieldAddr Tryz.runUnderlying86 rfl Tryz.sizeOf3 rfl) (WO.yes rfl rfl hh18 (WO.o rfl (R.load Tryz.isAgg3 rfl (hB_c.cells 2 _ rfl)) (WO.yes rfl rfl hh18 (WO.o rfl (R.lss rfl rfl) (WO.yes rfl rfl hh18 (WO.mv rfl rfl (WO.splitP (d := 76) rfl (fun hh19 => ?_) (fun hh19 => ?_)))))))))
           · refine WO.no rfl rfl (dT hh19) rfl (WO.no rfl rfl (dT hh19) rfl (WO.no rfl rfl (dT hh19) rfl (WO.no rfl rfl (dT hh19) rfl (WO.no rfl rfl (dT hh19) rfl (WO.no rfl rfl (dT hh19) rfl (WO.yes rfl rfl hh18 (WO.o rfl (R.pickT rfl (dT hh19) rfl) (WO.yes rfl rfl hh18 (WO.mv rfl rfl (WO.z rfl (WO.z rfl (WO.z rfl (WO.z rfl (WO.z rfl (WO.z rfl (WO.z rfl (WO.z rfl (WO.yes rfl rfl hh18 (WO.o rfl (R.pickT rfl rfl rfl) (WO.o rfl (R.pickT rfl hh18 rfl) (WO.a rfl rfl (WO.nil (WX.meet (_) (Sub.of rfl) (⟨by first | (simp only [hil, hh18, Bool.and_true, Bool.not_false]; done) | (simp only [hh102, hh103, hh104, hh105, hh106, hh107, hh108, hh18, hh19, decide_true, decide_false, Bool.and_true, Bool.true_and, Bool.and_false, Bool.false_and, Bool.or_true, Bool.true_or, Bool.or_false, Bool.false_or, Bool.not_true, Bool.not_false, not_true, not_false_eq_true, ne_eq, decide_not]; done) | (exfalso; omega), hC9⟩))))))))))))))))))))))))
           ·
            refine WO.yes rfl rfl (dF hh19) (WO.o rfl (R.fieldAddr Tryz.runUnderlying86 rfl Tryz.sizeOf3 rfl) (WO.yes rfl rfl (dF hh19) (WO.o rfl (R.load Tryz.isAgg3 rfl (hB_c.cells 2 _ rfl)) (WO.yes rfl rfl (dF hh19) (WO.o rfl (R.fieldAddr Tryz.runUnderlying26 rfl Tryz.sizeOf22 rfl) (WO.yes rfl rfl (dF hh19) (WO.o rfl (R.load Tryz.isAgg22 rfl (hB_b.cells 0 _ rfl)) (WO.yes rfl rfl (dF hh19) (WO.o rfl (R.lenS rfl Tryz.runUnderlying22 rfl) (WO.yes rfl rfl (dF hh19) (WO.o rfl (R.geq rfl rfl) (WO.yes rfl rfl hh18 (WO.o rfl (R.pickF rfl (dF hh19) rfl) (WO.yes rfl rfl hh18 (WO.mv rfl rfl (WO.splitP (d := 84) rfl (fun hh20 => ?_) (fun hh20 => ?_)))))))))))))))))
            · refine WO.no rfl rfl (dT hh20) rfl (WO.no rfl rfl (dT hh20) rfl (WO.no rfl rfl (dT hh20) rfl (WO.no rfl rfl (dT hh20) rfl (WO.no rfl rfl (dT hh20) rfl (WO.no rfl rfl (dT hh20) rfl (WO.no rfl rfl (dT hh20) rfl (WO.no rfl rfl (dT hh20) rfl (WO.yes rfl rfl hh18 (WO.o rfl (R.pickT rfl (dT hh20) rfl) (WO.o rfl (R.pickT rfl hh18 rfl) (WO.a rfl rfl (WO.nil (WX.meet (_) (Sub.of rfl) (⟨by first | (simp only [hil, hh18, Bool.and_true, Bool.not_false]; done) | (simp only [hh102, hh103, hh104, hh105, hh106, hh107, hh108, hh18, hh19, hh20, decide_true, decide_false, Bool.and_true, Bool.true_and, Bool.and_false, Bool.false_and, Bool.or_true, Bool.true_or, Bool.or_false, Bool.false_or, Bool.not_true, Bool.not_false, not_true, not_false_eq_true, ne_eq, decide_not]; done) | (exfalso; omega), hC9⟩))))))))))))))
            ·
             refine WO.yes rfl rfl (dF hh20) (WO.o rfl (R.fieldAddr Tryz.runUnderlying26 rfl Tryz.sizeOf22 rfl) (WO.yes rfl rfl (dF hh20) (WO.o rfl (R.load Tryz.isAgg22 rfl (hB_b.cells 0 _ rfl)) (WO.yes rfl rfl (dF hh20) (WO.o rfl (R.fieldAddr Tryz.runUnderlying86 rfl Tryz.sizeOf3 rfl) (WO.yes rfl rfl (dF hh20) (WO.o rfl (R.load Tryz.isAgg3 rfl (hB_c.cells 2 _ rfl)) (WO.yes rfl rfl (dF hh20) ?_))))))))
             exfalso
             omega
          · refine WO.no rfl rfl hh18 rfl (WO.no rfl rfl hh18 rfl (WO.no rfl rfl hh18 rfl (WO.no rfl rfl hh18 rfl (WO.noU rfl rfl rfl (WO.noU rfl rfl rfl (WO.noU rfl rfl rfl (WO.noU rfl rfl rfl (WO.noU rfl rfl rfl (WO.noU rfl rfl rfl (WO.no rfl rfl hh18 rfl (WO.no rfl rfl hh18 rfl (WO.noU rfl rfl rfl (WO.noU rfl rfl rfl (WO.noU rfl rfl rfl (WO.noU rfl rfl rfl (WO.noU rfl rfl rfl (WO.noU rfl rfl rfl (WO.noU rfl rfl rfl (WO.noU rfl rfl rfl (WO.no rfl rfl hh18 rfl (WO.o rfl (R.pickF rfl hh18 rfl) (WO.a rfl rfl (WO.nil (WX.meet (_) (Sub.of rfl) (⟨by first | (simp only [hil, hh18, Bool.and_true, Bool.not_false]; done) | (simp only [hh102, hh103, hh104, hh105, hh106, hh107, hh108, hh18, decide_true, decide_false, Bool.and_true, Bool.true_and, Bool.and_false, Bool.false_and, Bool.or_true, Bool.true_or, Bool.or_false, Bool.false_or, Bool.not_true, Bool.not_false, not_true, not_false_eq_true, ne_eq, decide_not]; done) | (exfalso; omega), hC9⟩)))))))))))))))))))))))))
        rintro q x9 ⟨hq9, hX9⟩
        show WX _ _ _ [(2, .bool last), (3, .pointer (some ⟨b, 0, none⟩)), (4, .pointer (some ⟨c, 0, none⟩)), (7, .int .i64 s.act), (10, .bool q)] _
        subst hq9
        replace hE := hE.ext hX9
        replace hvs := hvs.ext stable_vr hX9
        replace hk := hk.ext stable_tm hX9
        replace hb := hb.ext stable_int hX9
        replace hB_b := hX9.blk hB_b (fun h => h)
        replace hB_c := hX9.blk hB_c (fun h => h)
        refine WX.next (WC.bool rfl (fun hh109 => ?_) (fun hh109 => ?_))
        ·
         refine WC.skip (WX.next (WC.tt rfl (hh109) (WC.sr (WO.a rfl rfl (WO.nil (WX.next (WC.ret (WX.blockR (WX.thenR ?_)))))))))
         refine WX.ret1 Tryz.results157 rfl ⟨_, rfl, by simp only [hh102, hh103, hh104, hh105, hh106, hh107, hh108, hh109, Bool.not_true, Bool.and_false, Bool.false_and], hE⟩
        ·
         have hC10 := Keep.refl (fun _ => False) x9
         refine WC.cut (σ := Bool) (fun q => [(2, .bool last), (3, .pointer (some ⟨b, 0, none⟩)), (4, .pointer (some ⟨c, 0, none⟩)), (7, .int .i64 s.act), (10, .bool q)]) (fun q => fun w' => q = (decide (s.act = 5) && (decide (s.n < 0) || decide ((f.hatches.length : Int) ≤ s.n))) ∧ Ext x9 w') ?_ ?_
         ·
          refine WC.region (WO.mv rfl rfl (WO.o rfl (R.eql rfl rfl) (WO.mv rfl rfl (WO.splitP (d := 97) rfl (fun hh21 => ?_) (fun hh21 => ?_)))))
          ·
           refine WO.yes rfl rfl (dT hh21) (WO.o rfl (R.fieldAddr Tryz.runUnderlying86 rfl Tryz.sizeOf3 rfl) (WO.yes rfl rfl (dT hh21) (WO.o rfl (R.load Tryz.isAgg3 rfl (hB_c.cells 3 _ rfl)) (WO.yes rfl rfl (dT hh21) (WO.o rfl (R.lss rfl rfl) (WO.yes rfl rfl (dT hh21) (WO.mv rfl rfl (WO.splitP (d := 101) rfl (fun hh22 => ?_) (fun hh22 => ?_)))))))))
           · refine WO.no rfl rfl (dT hh22) rfl (WO.no rfl rfl (dT hh22) rfl (WO.no rfl rfl (dT hh22) rfl (WO.no rfl rfl (dT hh22) rfl (WO.no rfl rfl (dT hh22) rfl (WO.no rfl rfl (dT hh22) rfl (WO.yes rfl rfl (dT hh21) (WO.o rfl (R.pickT rfl (dT hh22) rfl) (WO.o rfl (R.pickT rfl (dT hh21) rfl) (WO.a rfl rfl (WO.nil (WX.meet (_) (Sub.of rfl) (⟨by first | (simp only [hh21, hh22, decide_true, Bool.and_true, Bool.true_or]; done) | (exfalso; omega), hC10⟩))))))))))))
           ·
            refine WO.yes rfl rfl (dF hh22) (WO.o rfl (R.fieldAddr Tryz.runUnderlying86 rfl Tryz.sizeOf3 rfl) (WO.yes rfl rfl (dF hh22) (WO.o rfl (R.load Tryz.isAgg3 rfl (hB_c.cells 3 _ rfl)) (WO.yes rfl rfl (dF hh22) (WO.o rfl (R.fieldAddr Tryz.runUnderlying26 rfl Tryz.sizeOf23 rfl) (WO.yes rfl rfl (dF hh22) (WO.o rfl (R.load Tryz.isAgg23 rfl (hB_b.cells 1 _ rfl)) (WO.yes rfl rfl (dF hh22) (WO.o rfl (R.lenS rfl Tryz.runUnderlying23 rfl) (WO.yes rfl rfl (dF hh22) (WO.o rfl (R.geq rfl rfl) (WO.yes rfl rfl (dT hh21) (WO.o rfl (R.pickF rfl (dF hh22) rfl) (WO.o rfl (R.pickT rfl (dT hh21) rfl) ?_))))))))))))))
            refine WO.a rfl rfl (WO.nil (WX.meet (_) (Sub.of rfl) (⟨by first | (simp only [hh21, hh22, decide_true, decide_false, Bool.true_and, Bool.false_or]; done) | (exfalso; omega), hC10⟩)))
          · refine WO.no rfl rfl (dF hh21) rfl (WO.no rfl rfl (dF hh21) rfl (WO.no rfl rfl (dF hh21) rfl (WO.no rfl rfl (dF hh21) rfl (WO.noU rfl rfl rfl (WO.noU rfl rfl rfl (WO.noU rfl rfl rfl (WO.noU rfl rfl rfl (WO.noU rfl rfl rfl (WO.noU rfl rfl rfl (WO.no rfl rfl (dF hh21) rfl (WO.o rfl (R.pickF rfl (dF hh21) rfl) (WO.a rfl rfl (WO.nil (WX.meet (_) (Sub.of rfl) (⟨by first | (simp only [hh21, decide_false, Bool.false_and]; done) | (exfalso; omega), hC10⟩)))))))))))))))
         rintro q x10 ⟨hq10, hX10⟩
         show WX _ _ _ [(2, .bool last), (3, .pointer (some ⟨b, 0, none⟩)), (4, .pointer (some ⟨c, 0, none⟩)), (7, .int .i64 s.act), (10, .bool q)] _
         subst hq10
         replace hE := hE.ext hX10
         replace hvs := hvs.ext stable_vr hX10
         replace hk := hk.ext stable_tm hX10
         replace hb := hb.ext stable_int hX10
         replace hB_b := hX10.blk hB_b (fun h => h)
         replace hB_c := hX10.blk hB_c (fun h => h)
         refine WX.next (WC.bool rfl (fun hh110 => ?_) (fun hh110 => ?_))
         ·
          refine WC.sr (WO.a rfl rfl (WO.nil (WX.next (WC.ret (WX.blockR (WX.thenR ?_))))))
          refine WX.ret1 Tryz.results157 rfl ⟨_, rfl, by simp only [hh102, hh103, hh104, hh105, hh106, hh107, hh108, hh109, hh110, Bool.not_true, Bool.and_false, Bool.false_and], hE⟩
         ·
          have hres : ∀ q : Bool, q = (decide (s.act ≠ 6) || (last && groupsB s.bounds)) → ∀ {w' : World}, Ext w w' → ∃ v, Ending.returned (.bool q) = .returned v ∧ v = .bool (!(decide (s.act < 0) || decide (6 < s.act)) && !(!uvB s.act && decide (s.var ≠ 0)) && !(!unB s.act && decide (s.n ≠ 0)) && !(!utB s.act && !plainB s.term)
  && !(decide (s.act ≠ 3) && decide (s.act ≠ 4) && decide (0 < (s.thn.length : Int))) && !(decide (s.act ≠ 3) && decide (0 < (s.els.length : Int))) && !(decide (s.act ≠ 6) && decide (0 < (s.bounds.length : Int)))
  && !(uvB s.act && !localB f.vars s.var) && !(decide (s.act = 5) && (decide (s.n < 0) || decide ((f.hatches.length : Int) ≤ s.n)))
  && (decide (s.act ≠ 6) || (last && groupsB s.bounds))) ∧ Ext w w' := by
           intro q hq w' hw
           refine ⟨_, rfl, ?_, hw⟩
           rw [hq]
           simp only [hh102, hh103, hh104, hh105, hh106, hh107, hh108, hh109, hh110, Bool.not_false, Bool.true_and, Bool.and_true]
          by_cases hbl : 0 < s.bounds.length
          ·
           obtain ⟨x0, hx0⟩ : ∃ x, s.bounds[0]? = some x := ⟨_, List.getElem?_eq_getElem hbl⟩
           obtain ⟨b_e0, o_e0, c_e0, ha_e0, _, hc_e0, hR_e0⟩ := hb.at (hx0)
           obtain rfl := hR_e0
           have hlt_e0 : b_e0 < _ := World.block_lt_of_cell? _ _ (hc_e0 0 _ rfl)
           have hg : groupsB s.bounds = (decide ((s.bounds.length : Int) ≤ 32) && decide (0 ≤ x0) && risingB s.bounds) := by
            unfold groupsB
            rw [hx0, decide_eq_true (show 1 ≤ s.bounds.length from hbl)]
            congr 2
            simp; omega
           refine WC.skip (WX.blockN (WX.next (WC.seq (WC.region (WO.mv rfl rfl (WO.o rfl (R.neq rfl rfl) (WO.mv rfl rfl (WO.splitP (d := 112) rfl (fun hh23 => ?_) (fun hh23 => ?_)))))))))
           ·
            refine WO.no rfl rfl (dT hh23) rfl (WO.no rfl rfl (dT hh23) rfl (WO.noU rfl rfl rfl (WO.noU rfl rfl rfl (WO.noU rfl rfl rfl (WO.noU rfl rfl rfl (WO.no rfl rfl (dT hh23) rfl (WO.no rfl rfl (dT hh23) rfl (WO.noU rfl rfl rfl (WO.noU rfl rfl rfl (WO.noU rfl rfl rfl (WO.noU rfl rfl rfl (WO.no rfl rfl (dT hh23) rfl (WO.no rfl rfl (dT hh23) rfl (WO.noU rfl rfl rfl (WO.noU rfl rfl rfl (WO.noU rfl rfl rfl (WO.noU rfl rfl rfl (WO.noU rfl rfl rfl (WO.no rfl rfl (dT hh23) rfl (WO.no rfl rfl (dT hh23) rfl (WO.noU rfl rfl rfl (WO.noU rfl rfl rfl (WO.noU rfl rfl rfl (WO.no rfl rfl (dT hh23) rfl ?_))))))))))))))))))))))))
            refine WO.o rfl (R.pickT rfl (dT hh23) rfl) (WO.a rfl rfl (WO.nil (WX.next (WC.ret ?_))))
            refine WX.ret1 Tryz.results157 rfl (hres _ (by first | (simp only [hg, hh23, decide_true, Bool.true_or, not_false_eq_true, ne_eq]; done) | (exfalso; omega)) hE)
           ·
            refine WO.yes rfl rfl (dF hh23) (WO.mv rfl rfl (WO.yes rfl rfl (dF hh23) (WO.mv rfl rfl (WO.splitB (d := 114) rfl (fun hh24 => ?_) (fun hh24 => ?_)))))
            ·
             refine WO.yes rfl rfl hh24 (WO.o rfl (R.fieldAddr Tryz.runUnderlying86 rfl Tryz.sizeOf50 rfl) (WO.yes rfl rfl hh24 (WO.o rfl (R.load Tryz.isAgg50 rfl (hB_c.cells 9 _ rfl)) (WO.yes rfl rfl hh24 (WO.o rfl (R.lenS rfl Tryz.runUnderlying50 rfl) (WO.yes rfl rfl hh24 (WO.o rfl (R.gtr rfl rfl) (WO.yes rfl rfl (dF hh23) (WO.o rfl (R.pickT rfl hh24 rfl) (WO.yes rfl rfl (dF hh23) (WO.mv rfl rfl (WO.splitP (d := 120) rfl (fun hh25 => ?_) (fun hh25 => ?_)))))))))))))
             ·
              refine WO.yes rfl rfl (dT hh25) (WO.o rfl (R.fieldAddr Tryz.runUnderlying86 rfl Tryz.sizeOf50 rfl) (WO.yes rfl rfl (dT hh25) (WO.o rfl (R.load Tryz.isAgg50 rfl (hB_c.cells 9 _ rfl)) (WO.yes rfl rfl (dT hh25) (WO.o rfl (R.lenS rfl Tryz.runUnderlying50 rfl) (WO.yes rfl rfl (dT hh25) (WO.o rfl (R.leq rfl rfl) (WO.yes rfl rfl (dF hh23) (WO.o rfl (R.pickT rfl (dT hh25) rfl) (WO.yes rfl rfl (dF hh23) (WO.mv rfl rfl (WO.splitP (d := 126) rfl (fun hh26 => ?_) (fun hh26 => ?_)))))))))))))
              ·
               refine WO.yes rfl rfl (dT hh26) (WO.o rfl (R.fieldAddr Tryz.runUnderlying86 rfl Tryz.sizeOf50 rfl) (WO.yes rfl rfl (dT hh26) (WO.o rfl (R.load Tryz.isAgg50 rfl (hB_c.cells 9 _ rfl)) (WO.yes rfl rfl (dT hh26) (WO.o rfl (R.indexS Tryz.runUnderlying50 Tryz.sizeOf3 rfl rfl ha_e0 (by omega)) (WO.yes rfl rfl (dT hh26) (WO.o rfl (R.load Tryz.isAgg3 rfl (hc_e0 0 _ rfl)) (WO.yes rfl rfl (dT hh26) (WO.o rfl (R.geq rfl rfl) (WO.yes rfl rfl (dF hh23) (WO.o rfl (R.pickT rfl (dT hh26) rfl) (WO.yes rfl rfl (dF hh23) (WO.mv rfl rfl (WO.splitP (d := 133) rfl (fun hh27 => ?_) (fun hh27 => ?_)))))))))))))))
               ·
                refine WO.yes rfl rfl (dT hh27) (WO.o rfl (R.fieldAddr Tryz.runUnderlying86 rfl Tryz.sizeOf50 rfl) (WO.yes rfl rfl (dT hh27) (WO.o rfl (R.load Tryz.isAgg50 rfl (hB_c.cells 9 _ rfl)) (WO.yes rfl rfl (dT hh27) (WO.call rfl rfl rfl (F.call (vs := [_]) Tryz.call202 rfl) (flatRising_ok s.bounds _ D' _ hb) ?_)))))
                rintro _ wz28 ⟨rfl, hz28⟩
                replace hE := hE.ext hz28
                replace hvs := hvs.ext stable_vr hz28
                replace hk := hk.ext stable_tm hz28
                replace hb := hb.ext stable_int hz28
                replace hB_b := hz28.blk hB_b (fun h => h)
                replace hB_c := hz28.blk hB_c (fun h => h)
                replace hc_e0 := hz28.cells hc_e0 (fun h => h)
                refine WO.yes rfl rfl (dF hh23) (WO.o rfl (R.pickT rfl (dT hh27) rfl) (WO.o rfl (R.pickF rfl (dF hh23) rfl) (WO.a rfl rfl (WO.nil (WX.next (WC.ret ?_))))))
                refine WX.ret1 Tryz.results157 rfl (hres _ (by first | (simp only [hg, hh23, hh24, hh26, hh27, decide_true, decide_false, Bool.and_true, Bool.true_and, Bool.false_or]; done) | (exfalso; omega)) hE)
               ·
                refine WO.no rfl rfl (dF hh27) rfl (WO.no rfl rfl (dF hh27) rfl (WO.no rfl rfl (dF hh27) rfl (WO.yes rfl rfl (dF hh23) (WO.o rfl (R.pickF rfl (dF hh27) rfl) (WO.o rfl (R.pickF rfl (dF hh23) rfl) (WO.a rfl rfl (WO.nil (WX.next (WC.ret ?_)))))))))
                refine WX.ret1 Tryz.results157 rfl (hres _ (by first | (simp only [hg, hh23, hh24, hh26, hh27, decide_true, decide_false, Bool.and_false, Bool.false_and, Bool.or_false]; done) | (exfalso; omega)) hE)
              ·
               refine WO.no rfl rfl (dF hh26) rfl (WO.no rfl rfl (dF hh26) rfl (WO.no rfl rfl (dF hh26) rfl (WO.no rfl rfl (dF hh26) rfl (WO.no rfl rfl (dF hh26) rfl (WO.yes rfl rfl (dF hh23) (WO.o rfl (R.pickF rfl (dF hh26) rfl) (WO.yes rfl rfl (dF hh23) (WO.mv rfl rfl (WO.z rfl (WO.z rfl (WO.z rfl (WO.yes rfl rfl (dF hh23) (WO.o rfl (R.pickF rfl rfl rfl) (WO.o rfl (R.pickF rfl (dF hh23) rfl) (WO.a rfl rfl (WO.nil (WX.next (WC.ret ?_))))))))))))))))))
               refine WX.ret1 Tryz.results157 rfl (hres _ (by first | (simp only [hg, hh23, hh24, hh26, decide_false, Bool.and_false, Bool.false_and, Bool.or_false]; done) | (exfalso; omega)) hE)
             ·
              refine WO.no rfl rfl (dF hh25) rfl (WO.no rfl rfl (dF hh25) rfl (WO.no rfl rfl (dF hh25) rfl (WO.no rfl rfl (dF hh25) rfl (WO.yes rfl rfl (dF hh23) (WO.o rfl (R.pickF rfl (dF hh25) rfl) (WO.yes rfl rfl (dF hh23) (WO.mv rfl rfl (WO.z rfl (WO.z rfl (WO.z rfl (WO.z rfl (WO.z rfl (WO.yes rfl rfl (dF hh23) (WO.o rfl (R.pickF rfl rfl rfl) (WO.yes rfl rfl (dF hh23) (WO.mv rfl rfl (WO.z rfl (WO.z rfl (WO.z rfl (WO.yes rfl rfl (dF hh23) (WO.o rfl (R.pickF rfl rfl rfl) (WO.o rfl (R.pickF rfl (dF hh23) rfl) (WO.a rfl rfl (WO.nil (WX.next (WC.ret ?_))))))))))))))))))))))))))
              refine WX.ret1 Tryz.results157 rfl (hres _ (by first | (simp only [hg, hh23, hh24, decide_false, Bool.true_and, Bool.false_or]; done) | (exfalso; omega)) hE)
            ·
             refine WO.no rfl rfl hh24 rfl (WO.no rfl rfl hh24 rfl (WO.no rfl rfl hh24 rfl (WO.no rfl rfl hh24 rfl (WO.yes rfl rfl (dF hh23) (WO.o rfl (R.pickF rfl hh24 rfl) (WO.yes rfl rfl (dF hh23) (WO.mv rfl rfl (WO.z rfl (WO.z rfl (WO.z rfl (WO.z rfl (WO.yes rfl rfl (dF hh23) (WO.o rfl (R.pickF rfl rfl rfl) (WO.yes rfl rfl (dF hh23) (WO.mv rfl rfl (WO.z rfl (WO.z rfl (WO.z rfl (WO.z rfl (WO.z rfl (WO.yes rfl rfl (dF hh23) (WO.o rfl (R.pickF rfl rfl rfl) (WO.yes rfl rfl (dF hh23) (WO.mv rfl rfl (WO.z rfl (WO.z rfl (WO.z rfl (WO.yes rfl rfl (dF hh23) (WO.o rfl (R.pickF rfl rfl rfl) ?_)))))))))))))))))))))))))))))
             refine WO.o rfl (R.pickF rfl (dF hh23) rfl) (WO.a rfl rfl (WO.nil (WX.next (WC.ret ?_))))
             refine WX.ret1 Tryz.results157 rfl (hres _ (by first | (simp only [hg, hh23, hh24, decide_false, Bool.false_and, Bool.or_false]; done) | (exfalso; omega)) hE)
          ·
           have hg : groupsB s.bounds = false := by unfold groupsB; rw [decide_eq_false (show ¬ 1 ≤ s.bounds.length by omega)]; rfl
           refine WC.skip (WX.blockN (WX.next (WC.seq (WC.region (WO.mv rfl rfl (WO.o rfl (R.neq rfl rfl) (WO.mv rfl rfl (WO.splitP (d := 112) rfl (fun hh29 => ?_) (fun hh29 => ?_)))))))))
           ·
            refine WO.no rfl rfl (dT hh29) rfl (WO.no rfl rfl (dT hh29) rfl (WO.noU rfl rfl rfl (WO.noU rfl rfl rfl (WO.noU rfl rfl rfl (WO.noU rfl rfl rfl (WO.no rfl rfl (dT hh29) rfl (WO.no rfl rfl (dT hh29) rfl (WO.noU rfl rfl rfl (WO.noU rfl rfl rfl (WO.noU rfl rfl rfl (WO.noU rfl rfl rfl (WO.no rfl rfl (dT hh29) rfl (WO.no rfl rfl (dT hh29) rfl (WO.noU rfl rfl rfl (WO.noU rfl rfl rfl (WO.noU rfl rfl rfl (WO.noU rfl rfl rfl (WO.noU rfl rfl rfl (WO.no rfl rfl (dT hh29) rfl (WO.no rfl rfl (dT hh29) rfl (WO.noU rfl rfl rfl (WO.noU rfl rfl rfl (WO.noU rfl rfl rfl (WO.no rfl rfl (dT hh29) rfl ?_))))))))))))))))))))))))
            refine WO.o rfl (R.pickT rfl (dT hh29) rfl) (WO.a rfl rfl (WO.nil (WX.next (WC.ret ?_))))
            refine WX.ret1 Tryz.results157 rfl (hres _ (by first | (simp only [hg, hh29, decide_true, Bool.and_false, Bool.or_false, not_false_eq_true, ne_eq]; done) | (exfalso; omega)) hE)
           ·
            refine WO.yes rfl rfl (dF hh29) (WO.mv rfl rfl (WO.yes rfl rfl (dF hh29) (WO.mv rfl rfl (WO.splitB (d := 114) rfl (fun hh30 => ?_) (fun hh30 => ?_)))))
            ·
             refine WO.yes rfl rfl hh30 (WO.o rfl (R.fieldAddr Tryz.runUnderlying86 rfl Tryz.sizeOf50 rfl) (WO.yes rfl rfl hh30 (WO.o rfl (R.load Tryz.isAgg50 rfl (hB_c.cells 9 _ rfl)) (WO.yes rfl rfl hh30 (WO.o rfl (R.lenS rfl Tryz.runUnderlying50 rfl) (WO.yes rfl rfl hh30 (WO.o rfl (R.gtr rfl rfl) (WO.yes rfl rfl (dF hh29) (WO.o rfl (R.pickT rfl hh30 rfl) (WO.yes rfl rfl (dF hh29) (WO.mv rfl rfl (WO.splitP (d := 120) rfl (fun hh31 => ?_) (fun hh31 => ?_)))))))))))))
             ·
              refine WO.yes rfl rfl (dT hh31) (WO.o rfl (R.fieldAddr Tryz.runUnderlying86 rfl Tryz.sizeOf50 rfl) (WO.yes rfl rfl (dT hh31) (WO.o rfl (R.load Tryz.isAgg50 rfl (hB_c.cells 9 _ rfl)) (WO.yes rfl rfl (dT hh31) (WO.o rfl (R.lenS rfl Tryz.runUnderlying50 rfl) (WO.yes rfl rfl (dT hh31) (WO.o rfl (R.leq rfl rfl) (WO.yes rfl rfl (dF hh29) (WO.o rfl (R.pickT rfl (dT hh31) rfl) (WO.yes rfl rfl (dF hh29) (WO.mv rfl rfl (WO.splitP (d := 126) rfl (fun hh32 => ?_) (fun hh32 => ?_)))))))))))))
              ·
               refine WO.yes rfl rfl (dT hh32) (WO.o rfl (R.fieldAddr Tryz.runUnderlying86 rfl Tryz.sizeOf50 rfl) (WO.yes rfl rfl (dT hh32) (WO.o rfl (R.load Tryz.isAgg50 rfl (hB_c.cells 9 _ rfl)) (WO.yes rfl rfl (dT hh32) ?_))))
               exfalso
               omega
              ·
               refine WO.no rfl rfl (dF hh32) rfl (WO.no rfl rfl (dF hh32) rfl (WO.no rfl rfl (dF hh32) rfl (WO.no rfl rfl (dF hh32) rfl (WO.no rfl rfl (dF hh32) rfl (WO.yes rfl rfl (dF hh29) (WO.o rfl (R.pickF rfl (dF hh32) rfl) (WO.yes rfl rfl (dF hh29) (WO.mv rfl rfl (WO.z rfl (WO.z rfl (WO.z rfl (WO.yes rfl rfl (dF hh29) (WO.o rfl (R.pickF rfl rfl rfl) (WO.o rfl (R.pickF rfl (dF hh29) rfl) (WO.a rfl rfl (WO.nil (WX.next (WC.ret ?_))))))))))))))))))
               refine WX.ret1 Tryz.results157 rfl (hres _ (by first | (simp only [hg, hh29, hh30, decide_false, Bool.and_false, Bool.or_false]; done) | (exfalso; omega)) hE)
             ·
              refine WO.no rfl rfl (dF hh31) rfl (WO.no rfl rfl (dF hh31) rfl (WO.no rfl rfl (dF hh31) rfl (WO.no rfl rfl (dF hh31) rfl (WO.yes rfl rfl (dF hh29) (WO.o rfl (R.pickF rfl (dF hh31) rfl) (WO.yes rfl rfl (dF hh29) (WO.mv rfl rfl (WO.z rfl (WO.z rfl (WO.z rfl (WO.z rfl (WO.z rfl (WO.yes rfl rfl (dF hh29) (WO.o rfl (R.pickF rfl rfl rfl) (WO.yes rfl rfl (dF hh29) (WO.mv rfl rfl (WO.z rfl (WO.z rfl (WO.z rfl (WO.yes rfl rfl (dF hh29) (WO.o rfl (R.pickF rfl rfl rfl) (WO.o rfl (R.pickF rfl (dF hh29) rfl) (WO.a rfl rfl (WO.nil (WX.next (WC.ret ?_))))))))))))))))))))))))))
              refine WX.ret1 Tryz.results157 rfl (hres _ (by first | (simp only [hg, hh29, hh30, decide_false, Bool.and_false, Bool.or_false]; done) | (exfalso; omega)) hE)
            ·
             refine WO.no rfl rfl hh30 rfl (WO.no rfl rfl hh30 rfl (WO.no rfl rfl hh30 rfl (WO.no rfl rfl hh30 rfl (WO.yes rfl rfl (dF hh29) (WO.o rfl (R.pickF rfl hh30 rfl) (WO.yes rfl rfl (dF hh29) (WO.mv rfl rfl (WO.z rfl (WO.z rfl (WO.z rfl (WO.z rfl (WO.yes rfl rfl (dF hh29) (WO.o rfl (R.pickF rfl rfl rfl) (WO.yes rfl rfl (dF hh29) (WO.mv rfl rfl (WO.z rfl (WO.z rfl (WO.z rfl (WO.z rfl (WO.z rfl (WO.yes rfl rfl (dF hh29) (WO.o rfl (R.pickF rfl rfl rfl) (WO.yes rfl rfl (dF hh29) (WO.mv rfl rfl (WO.z rfl (WO.z rfl (WO.z rfl (WO.yes rfl rfl (dF hh29) (WO.o rfl (R.pickF rfl rfl rfl) ?_)))))))))))))))))))))))))))))
             refine WO.o rfl (R.pickF rfl (dF hh29) rfl) (WO.a rfl rfl (WO.nil (WX.next (WC.ret ?_))))
             refine WX.ret1 Tryz.results157 rfl (hres _ (by first | (simp only [hg, hh29, hh30, decide_false, Bool.and_false, Bool.or_false]; done) | (exfalso; omega)) hE)
def costTop (a : Int) : Int := if a = 2 then 67108864 else 10000
def numberB (s : St) : Bool := !(decide (s.cost < 0) || decide (costTop s.act < s.cost) || (decide (s.act = 4) && (decide (s.n < 0) || decide (4096 < s.n)))) && (decide (s.act ≠ 6) || decide (s.bounds[s.bounds.length - 1]?.getD 0 ≤ 67108864))
theorem numbered_ok (s : St) (cs : List Value) (D : Nat → Prop) (w : World) (hs : RSt D w s cs) (hb : s.act = 6 → 0 < s.bounds.length) : Calls Tryz.prog 158 #[.agg cs.toArray] w (Ret fun r w' => r = .bool (numberB s) ∧ Ext w w') := by
 obtain ⟨v1, v2, v3, v4, rfl, hk, ht, he, hbd⟩ := hs.get
 have hmx := hbd.max
 obtain ⟨av4, nv4, rfl⟩ := hbd.form
 have hlc := hbd.len_cap.2
 have hE := Keep.refl (fun _ => False) w
 refine calls Tryz.func158 rfl [(0, .agg #[.int .i64 s.act, .int .i64 s.cost, .int .i64 s.var, .int .i64 s.n, .int .i64 s.term.op, .int .i64 s.term.n, v1, v2, v3, .slice av4 s.bounds.length nv4])] 45 ⟨Nat.le_of_ble_eq_true rfl, Tryz.ntmps158⟩ (argsOk (Sub.of rfl)) ?_
 refine WC.sr (WO.mem rfl rfl rfl (M.box rfl rfl) ?_)
 rintro _ w_b ⟨b, rfl, hg_b, hs_b, hB_b, hk_b⟩
 have hge_b : _ ≤ b := Nat.le_trans hE.size (Nat.le_of_eq hg_b.symm)
 replace hE := hE.ext hk_b
 replace hbd := hbd.ext stable_int hk_b
 refine WO.a rfl rfl (WO.nr (WO.a rfl rfl (WO.nil (WX.next (WC.seq (WC.seq (WC.region ?_)))))))
 refine WO.o rfl (R.fieldAddr Tryz.runUnderlying86 rfl Tryz.sizeOf80 rfl) (WO.o rfl (R.load Tryz.isAgg80 rfl (hB_b.cells 0 _ rfl)) (WO.o rfl (R.eql rfl rfl) (WO.nil (WX.next ?_))))
 refine WC.ite rfl (fun a2 => ?_) (fun a2 => ?_)
 ·
  have hct : costTop s.act = 67108864 := by rw [costTop, if_pos a2]
  have NB : numberB s = (!((decide (s.cost < 0) || decide (67108864 < s.cost) || (decide (s.act = 4) && (decide (s.n < 0) || decide (4096 < s.n))))) && (decide (s.act ≠ 6) || decide (s.bounds[s.bounds.length - 1]?.getD 0 ≤ 67108864))) := by rw [numberB, hct]
  refine WC.region (WO.a rfl rfl (WO.nil (WX.next (WC.seq (WC.seq ?_)))))
  have hC := Keep.refl (fun _ => False) w_b
  refine WC.cut (σ := Bool) (fun q => [(1, .pointer (some ⟨b, 0, none⟩)), (30, .bool q)]) (fun q => fun w' => q = (decide (s.cost < 0) || decide (67108864 < s.cost) || (decide (s.act = 4) && (decide (s.n < 0) || decide (4096 < s.n)))) ∧ Ext w_b w') ?_ ?_
  ·
   refine WC.region (WO.o rfl (R.fieldAddr Tryz.runUnderlying86 rfl Tryz.sizeOf3 rfl) (WO.o rfl (R.load Tryz.isAgg3 rfl (hB_b.cells 1 _ rfl)) (WO.o rfl (R.lss rfl rfl) (WO.mv rfl rfl (WO.splitP (d := 10) rfl (fun hh1 => ?_) (fun hh1 => ?_))))))
   · refine WO.no rfl rfl (dT hh1) rfl (WO.no rfl rfl (dT hh1) rfl (WO.no rfl rfl (dT hh1) rfl (WO.no rfl rfl (dT hh1) rfl (WO.o rfl (R.pickT rfl (dT hh1) rfl) (WO.mv rfl rfl (WO.z rfl (WO.z rfl (WO.z rfl (WO.z rfl (WO.noU rfl rfl rfl (WO.noU rfl rfl rfl (WO.noU rfl rfl rfl (WO.noU rfl rfl rfl (WO.noU rfl rfl rfl (WO.noU rfl rfl rfl (WO.noU rfl rfl rfl (WO.noU rfl rfl rfl (WO.z rfl (WO.o rfl (R.pickT rfl rfl rfl) (WO.nil (WX.meet (_) (Sub.of rfl) (⟨by first | (simp only [a2, hh1, decide_true, Bool.true_or]; done) | (simp [a2, hh1]; done) | (exfalso; omega), hC⟩))))))))))))))))))))))
   ·
    refine WO.yes rfl rfl (dF hh1) (WO.o rfl (R.fieldAddr Tryz.runUnderlying86 rfl Tryz.sizeOf3 rfl) (WO.yes rfl rfl (dF hh1) (WO.o rfl (R.load Tryz.isAgg3 rfl (hB_b.cells 1 _ rfl)) (WO.yes rfl rfl (dF hh1) (WO.mv rfl rfl (WO.yes rfl rfl (dF hh1) (WO.o rfl (R.gtr rfl rfl) (WO.o rfl (R.pickF rfl (dF hh1) rfl) (WO.mv rfl rfl (WO.splitP (d := 16) rfl (fun hh2 => ?_) (fun hh2 => ?_)))))))))))
    · refine WO.no rfl rfl (dT hh2) rfl (WO.no rfl rfl (dT hh2) rfl (WO.no rfl rfl (dT hh2) rfl (WO.no rfl rfl (dT hh2) rfl (WO.noU rfl rfl rfl (WO.noU rfl rfl rfl (WO.noU rfl rfl rfl (WO.noU rfl rfl rfl (WO.noU rfl rfl rfl (WO.noU rfl rfl rfl (WO.noU rfl rfl rfl (WO.noU rfl rfl rfl (WO.no rfl rfl (dT hh2) rfl (WO.o rfl (R.pickT rfl (dT hh2) rfl) (WO.nil (WX.meet (_) (Sub.of rfl) (⟨by first | (simp only [a2, hh1, hh2, decide_true, decide_false, Bool.or_true, Bool.true_or]; done) | (simp [a2, hh1, hh2]; done) | (exfalso; omega), hC⟩))))))))))))))))
    ·
     refine WO.yes rfl rfl (dF hh2) (WO.o rfl (R.fieldAddr Tryz.runUnderlying86 rfl Tryz.sizeOf80 rfl) (WO.yes rfl rfl (dF hh2) (WO.o rfl (R.load Tryz.isAgg80 rfl (hB_b.cells 0 _ rfl)) (WO.yes rfl rfl (dF hh2) (WO.o rfl (R.eql rfl rfl) (WO.yes rfl rfl (dF hh2) (WO.mv rfl rfl (WO.splitP (d := 20) rfl (fun hh3 => ?_) (fun hh3 => ?_)))))))))
     ·
      refine WO.yes rfl rfl (dT hh3) (WO.o rfl (R.fieldAddr Tryz.runUnderlying86 rfl Tryz.sizeOf3 rfl) (WO.yes rfl rfl (dT hh3) (WO.o rfl (R.load Tryz.isAgg3 rfl (hB_b.cells 3 _ rfl)) (WO.yes rfl rfl (dT hh3) (WO.o rfl (R.lss rfl rfl) (WO.yes rfl rfl (dT hh3) (WO.mv rfl rfl (WO.splitP (d := 24) rfl (fun hh4 => ?_) (fun hh4 => ?_)))))))))
      · refine WO.no rfl rfl (dT hh4) rfl (WO.no rfl rfl (dT hh4) rfl (WO.no rfl rfl (dT hh4) rfl (WO.yes rfl rfl (dT hh3) (WO.o rfl (R.pickT rfl (dT hh4) rfl) (WO.yes rfl rfl (dF hh2) (WO.o rfl (R.pickT rfl (dT hh3) rfl) (WO.o rfl (R.pickF rfl (dF hh2) rfl) (WO.nil (WX.meet (_) (Sub.of rfl) (⟨by first | (simp only [a2, hh1, hh2, hh4, decide_true, decide_false, Bool.and_true, Bool.true_or, Bool.or_false, Bool.false_or]; done) | (simp [a2, hh1, hh2, hh4]; done) | (exfalso; omega), hC⟩))))))))))
      · refine WO.yes rfl rfl (dF hh4) (WO.o rfl (R.fieldAddr Tryz.runUnderlying86 rfl Tryz.sizeOf3 rfl) (WO.yes rfl rfl (dF hh4) (WO.o rfl (R.load Tryz.isAgg3 rfl (hB_b.cells 3 _ rfl)) (WO.yes rfl rfl (dF hh4) (WO.o rfl (R.gtr rfl rfl) (WO.yes rfl rfl (dT hh3) (WO.o rfl (R.pickF rfl (dF hh4) rfl) (WO.yes rfl rfl (dF hh2) (WO.o rfl (R.pickT rfl (dT hh3) rfl) (WO.o rfl (R.pickF rfl (dF hh2) rfl) (WO.nil (WX.meet (_) (Sub.of rfl) (⟨by first | (simp only [a2, hh1, hh2, hh4, decide_false, Bool.or_false, Bool.false_or]; done) | (simp [a2, hh1, hh2, hh4]; done) | (exfalso; omega), hC⟩)))))))))))))
     · refine WO.no rfl rfl (dF hh3) rfl (WO.no rfl rfl (dF hh3) rfl (WO.no rfl rfl (dF hh3) rfl (WO.no rfl rfl (dF hh3) rfl (WO.noU rfl rfl rfl (WO.noU rfl rfl rfl (WO.noU rfl rfl rfl (WO.no rfl rfl (dF hh3) rfl (WO.yes rfl rfl (dF hh2) (WO.o rfl (R.pickF rfl (dF hh3) rfl) (WO.o rfl (R.pickF rfl (dF hh2) rfl) (WO.nil (WX.meet (_) (Sub.of rfl) (⟨by first | (simp only [a2, hh1, hh2, decide_false, Bool.or_false, Bool.false_or]; done) | (simp [a2, hh1, hh2]; done) | (exfalso; omega), hC⟩)))))))))))))
  rintro q x1 ⟨hq1, hX1⟩
  show WX _ _ _ [(1, .pointer (some ⟨b, 0, none⟩)), (30, .bool q)] _
  subst hq1
  replace hE := hE.ext hX1
  replace hbd := hbd.ext stable_int hX1
  replace hB_b := hX1.blk hB_b (fun h => h)
  refine WX.next (WC.bool rfl (fun hh1 => ?_) (fun hh1 => ?_))
  ·
   refine WC.sr (WO.a rfl rfl (WO.nil (WX.next (WC.ret (WX.thenR ?_)))))
   refine WX.ret1 Tryz.results158 rfl ⟨_, rfl, by rw [NB, hh1]; rfl, hE⟩
  ·
   refine WC.ks (WO.o rfl (R.fieldAddr Tryz.runUnderlying86 rfl Tryz.sizeOf80 rfl) (WO.o rfl (R.load Tryz.isAgg80 rfl (hB_b.cells 0 _ rfl)) (WO.o rfl (R.neq rfl rfl) (WO.mv rfl rfl (WO.splitP (d := 34) rfl (fun a6 => ?_) (fun a6 => ?_))))))
   ·
    refine WO.no rfl rfl (dT a6) rfl (WO.no rfl rfl (dT a6) rfl (WO.no rfl rfl (dT a6) rfl (WO.no rfl rfl (dT a6) rfl (WO.no rfl rfl (dT a6) rfl (WO.no rfl rfl (dT a6) rfl (WO.no rfl rfl (dT a6) rfl (WO.no rfl rfl (dT a6) rfl (WO.no rfl rfl (dT a6) rfl (WO.o rfl (R.pickT rfl (dT a6) rfl) (WO.a rfl rfl (WO.nil (WX.next (WC.ret ?_)))))))))))))
    refine WX.ret1 Tryz.results158 rfl ⟨_, rfl, by rw [NB, hh1]; simp [a6], hE⟩
   ·
    have h6 : s.act = 6 := by omega
    have hb0 := hb h6
    obtain ⟨x, hx⟩ : ∃ x, s.bounds[s.bounds.length - 1]? = some x := ⟨_, List.getElem?_eq_getElem (by omega)⟩
    obtain ⟨b_e, o_e, c_e, ha_e, _, hc_e, hR_e⟩ := hbd.at hx
    obtain rfl := hR_e
    have hto : ((s.bounds.length : Int) - 1).toNat = s.bounds.length - 1 := by omega
    refine WO.yes rfl rfl (dF a6) (WO.o rfl (R.fieldAddr Tryz.runUnderlying86 rfl Tryz.sizeOf50 rfl) (WO.yes rfl rfl (dF a6) (WO.o rfl (R.load Tryz.isAgg50 rfl (hB_b.cells 9 _ rfl)) (WO.yes rfl rfl (dF a6) (WO.o rfl (R.fieldAddr Tryz.runUnderlying86 rfl Tryz.sizeOf50 rfl) (WO.yes rfl rfl (dF a6) (WO.o rfl (R.load Tryz.isAgg50 rfl (hB_b.cells 9 _ rfl)) (WO.yes rfl rfl (dF a6) (WO.o rfl (R.lenS rfl Tryz.runUnderlying50 rfl) (WO.yes rfl rfl (dF a6) (WO.o rfl (R.sub rfl rfl (wrap_i64_in (by omega))) (WO.yes rfl rfl (dF a6) (WO.o rfl (R.indexS Tryz.runUnderlying50 Tryz.sizeOf3 rfl rfl ha_e (by omega)) ?_)))))))))))))
    refine WO.yes rfl rfl (dF a6) (WO.o rfl (R.load Tryz.isAgg3 rfl (by rw [hto]; exact hc_e 0 _ rfl)) (WO.yes rfl rfl (dF a6) (WO.o rfl (R.leq rfl rfl) (WO.o rfl (R.pickF rfl (dF a6) rfl) (WO.a rfl rfl (WO.nil (WX.next (WC.ret ?_))))))))
    refine WX.ret1 Tryz.results158 rfl ⟨_, rfl, by rw [NB, hh1, hx]; simp [h6], hE⟩
 ·
  have hct : costTop s.act = 10000 := by rw [costTop, if_neg a2]
  have NB : numberB s = (!((decide (s.cost < 0) || decide (10000 < s.cost) || (decide (s.act = 4) && (decide (s.n < 0) || decide (4096 < s.n))))) && (decide (s.act ≠ 6) || decide (s.bounds[s.bounds.length - 1]?.getD 0 ≤ 67108864))) := by rw [numberB, hct]
  refine WC.skip (WX.next (WC.seq (WC.seq ?_)))
  have hC := Keep.refl (fun _ => False) w_b
  refine WC.cut (σ := Bool) (fun q => [(1, .pointer (some ⟨b, 0, none⟩)), (30, .bool q)]) (fun q => fun w' => q = (decide (s.cost < 0) || decide (10000 < s.cost) || (decide (s.act = 4) && (decide (s.n < 0) || decide (4096 < s.n)))) ∧ Ext w_b w') ?_ ?_
  ·
   refine WC.region (WO.o rfl (R.fieldAddr Tryz.runUnderlying86 rfl Tryz.sizeOf3 rfl) (WO.o rfl (R.load Tryz.isAgg3 rfl (hB_b.cells 1 _ rfl)) (WO.o rfl (R.lss rfl rfl) (WO.mv rfl rfl (WO.splitP (d := 10) rfl (fun hh5 => ?_) (fun hh5 => ?_))))))
   · refine WO.no rfl rfl (dT hh5) rfl (WO.no rfl rfl (dT hh5) rfl (WO.no rfl rfl (dT hh5) rfl (WO.no rfl rfl (dT hh5) rfl (WO.o rfl (R.pickT rfl (dT hh5) rfl) (WO.mv rfl rfl (WO.z rfl (WO.z rfl (WO.z rfl (WO.z rfl (WO.noU rfl rfl rfl (WO.noU rfl rfl rfl (WO.noU rfl rfl rfl (WO.noU rfl rfl rfl (WO.noU rfl rfl rfl (WO.noU rfl rfl rfl (WO.noU rfl rfl rfl (WO.noU rfl rfl rfl (WO.z rfl (WO.o rfl (R.pickT rfl rfl rfl) (WO.nil (WX.meet (_) (Sub.of rfl) (⟨by first | (simp only [hh5, decide_true, Bool.true_or]; done) | (simp [a2, hh5]; done) | (exfalso; omega), hC⟩))))))))))))))))))))))
   ·
    refine WO.yes rfl rfl (dF hh5) (WO.o rfl (R.fieldAddr Tryz.runUnderlying86 rfl Tryz.sizeOf3 rfl) (WO.yes rfl rfl (dF hh5) (WO.o rfl (R.load Tryz.isAgg3 rfl (hB_b.cells 1 _ rfl)) (WO.yes rfl rfl (dF hh5) (WO.mv rfl rfl (WO.yes rfl rfl (dF hh5) (WO.o rfl (R.gtr rfl rfl) (WO.o rfl (R.pickF rfl (dF hh5) rfl) (WO.mv rfl rfl (WO.splitP (d := 16) rfl (fun hh6 => ?_) (fun hh6 => ?_)))))))))))
    · refine WO.no rfl rfl (dT hh6) rfl (WO.no rfl rfl (dT hh6) rfl (WO.no rfl rfl (dT hh6) rfl (WO.no rfl rfl (dT hh6) rfl (WO.noU rfl rfl rfl (WO.noU rfl rfl rfl (WO.noU rfl rfl rfl (WO.noU rfl rfl rfl (WO.noU rfl rfl rfl (WO.noU rfl rfl rfl (WO.noU rfl rfl rfl (WO.noU rfl rfl rfl (WO.no rfl rfl (dT hh6) rfl (WO.o rfl (R.pickT rfl (dT hh6) rfl) (WO.nil (WX.meet (_) (Sub.of rfl) (⟨by first | (simp only [hh5, hh6, decide_true, decide_false, Bool.or_true, Bool.true_or]; done) | (simp [a2, hh5, hh6]; done) | (exfalso; omega), hC⟩))))))))))))))))
    ·
     refine WO.yes rfl rfl (dF hh6) (WO.o rfl (R.fieldAddr Tryz.runUnderlying86 rfl Tryz.sizeOf80 rfl) (WO.yes rfl rfl (dF hh6) (WO.o rfl (R.load Tryz.isAgg80 rfl (hB_b.cells 0 _ rfl)) (WO.yes rfl rfl (dF hh6) (WO.o rfl (R.eql rfl rfl) (WO.yes rfl rfl (dF hh6) (WO.mv rfl rfl (WO.splitP (d := 20) rfl (fun hh7 => ?_) (fun hh7 => ?_)))))))))
     ·
      refine WO.yes rfl rfl (dT hh7) (WO.o rfl (R.fieldAddr Tryz.runUnderlying86 rfl Tryz.sizeOf3 rfl) (WO.yes rfl rfl (dT hh7) (WO.o rfl (R.load Tryz.isAgg3 rfl (hB_b.cells 3 _ rfl)) (WO.yes rfl rfl (dT hh7) (WO.o rfl (R.lss rfl rfl) (WO.yes rfl rfl (dT hh7) (WO.mv rfl rfl (WO.splitP (d := 24) rfl (fun hh8 => ?_) (fun hh8 => ?_)))))))))
      · refine WO.no rfl rfl (dT hh8) rfl (WO.no rfl rfl (dT hh8) rfl (WO.no rfl rfl (dT hh8) rfl (WO.yes rfl rfl (dT hh7) (WO.o rfl (R.pickT rfl (dT hh8) rfl) (WO.yes rfl rfl (dF hh6) (WO.o rfl (R.pickT rfl (dT hh7) rfl) (WO.o rfl (R.pickF rfl (dF hh6) rfl) (WO.nil (WX.meet (_) (Sub.of rfl) (⟨by first | (simp only [hh5, hh6, hh7, hh8, decide_true, decide_false, Bool.and_true, Bool.or_true, Bool.true_or, Bool.or_false]; done) | (simp [a2, hh5, hh6, hh7, hh8]; done) | (exfalso; omega), hC⟩))))))))))
      · refine WO.yes rfl rfl (dF hh8) (WO.o rfl (R.fieldAddr Tryz.runUnderlying86 rfl Tryz.sizeOf3 rfl) (WO.yes rfl rfl (dF hh8) (WO.o rfl (R.load Tryz.isAgg3 rfl (hB_b.cells 3 _ rfl)) (WO.yes rfl rfl (dF hh8) (WO.o rfl (R.gtr rfl rfl) (WO.yes rfl rfl (dT hh7) (WO.o rfl (R.pickF rfl (dF hh8) rfl) (WO.yes rfl rfl (dF hh6) (WO.o rfl (R.pickT rfl (dT hh7) rfl) (WO.o rfl (R.pickF rfl (dF hh6) rfl) (WO.nil (WX.meet (_) (Sub.of rfl) (⟨by first | (simp only [hh5, hh6, hh7, hh8, decide_true, decide_false, Bool.true_and, Bool.or_false, Bool.false_or]; done) | (simp [a2, hh5, hh6, hh7, hh8]; done) | (exfalso; omega), hC⟩)))))))))))))
     · refine WO.no rfl rfl (dF hh7) rfl (WO.no rfl rfl (dF hh7) rfl (WO.no rfl rfl (dF hh7) rfl (WO.no rfl rfl (dF hh7) rfl (WO.noU rfl rfl rfl (WO.noU rfl rfl rfl (WO.noU rfl rfl rfl (WO.no rfl rfl (dF hh7) rfl (WO.yes rfl rfl (dF hh6) (WO.o rfl (R.pickF rfl (dF hh7) rfl) (WO.o rfl (R.pickF rfl (dF hh6) rfl) (WO.nil (WX.meet (_) (Sub.of rfl) (⟨by first | (simp only [hh5, hh6, hh7, decide_false, Bool.false_and, Bool.or_false]; done) | (simp [a2, hh5, hh6, hh7]; done) | (exfalso; omega), hC⟩)))))))))))))
  rintro q x2 ⟨hq2, hX2⟩
  show WX _ _ _ [(1, .pointer (some ⟨b, 0, none⟩)), (30, .bool q)] _
  subst hq2
  replace hE := hE.ext hX2
  replace hbd := hbd.ext stable_int hX2
  replace hB_b := hX2.blk hB_b (fun h => h)
  refine WX.next (WC.bool rfl (fun hh2 => ?_) (fun hh2 => ?_))
  ·
   refine WC.sr (WO.a rfl rfl (WO.nil (WX.next (WC.ret (WX.thenR ?_)))))
   refine WX.ret1 Tryz.results158 rfl ⟨_, rfl, by rw [NB, hh2]; rfl, hE⟩
  ·
   refine WC.ks (WO.o rfl (R.fieldAddr Tryz.runUnderlying86 rfl Tryz.sizeOf80 rfl) (WO.o rfl (R.load Tryz.isAgg80 rfl (hB_b.cells 0 _ rfl)) (WO.o rfl (R.neq rfl rfl) (WO.mv rfl rfl (WO.splitP (d := 34) rfl (fun a6 => ?_) (fun a6 => ?_))))))
   ·
    refine WO.no rfl rfl (dT a6) rfl (WO.no rfl rfl (dT a6) rfl (WO.no rfl rfl (dT a6) rfl (WO.no rfl rfl (dT a6) rfl (WO.no rfl rfl (dT a6) rfl (WO.no rfl rfl (dT a6) rfl (WO.no rfl rfl (dT a6) rfl (WO.no rfl rfl (dT a6) rfl (WO.no rfl rfl (dT a6) rfl (WO.o rfl (R.pickT rfl (dT a6) rfl) (WO.a rfl rfl (WO.nil (WX.next (WC.ret ?_)))))))))))))
    refine WX.ret1 Tryz.results158 rfl ⟨_, rfl, by rw [NB, hh2]; simp [a6], hE⟩
   ·
    have h6 : s.act = 6 := by omega
    have hb0 := hb h6
    obtain ⟨x, hx⟩ : ∃ x, s.bounds[s.bounds.length - 1]? = some x := ⟨_, List.getElem?_eq_getElem (by omega)⟩
    obtain ⟨b_e, o_e, c_e, ha_e, _, hc_e, hR_e⟩ := hbd.at hx
    obtain rfl := hR_e
    have hto : ((s.bounds.length : Int) - 1).toNat = s.bounds.length - 1 := by omega
    refine WO.yes rfl rfl (dF a6) (WO.o rfl (R.fieldAddr Tryz.runUnderlying86 rfl Tryz.sizeOf50 rfl) (WO.yes rfl rfl (dF a6) (WO.o rfl (R.load Tryz.isAgg50 rfl (hB_b.cells 9 _ rfl)) (WO.yes rfl rfl (dF a6) (WO.o rfl (R.fieldAddr Tryz.runUnderlying86 rfl Tryz.sizeOf50 rfl) (WO.yes rfl rfl (dF a6) (WO.o rfl (R.load Tryz.isAgg50 rfl (hB_b.cells 9 _ rfl)) (WO.yes rfl rfl (dF a6) (WO.o rfl (R.lenS rfl Tryz.runUnderlying50 rfl) (WO.yes rfl rfl (dF a6) (WO.o rfl (R.sub rfl rfl (wrap_i64_in (by omega))) (WO.yes rfl rfl (dF a6) (WO.o rfl (R.indexS Tryz.runUnderlying50 Tryz.sizeOf3 rfl rfl ha_e (by omega)) ?_)))))))))))))
    refine WO.yes rfl rfl (dF a6) (WO.o rfl (R.load Tryz.isAgg3 rfl (by rw [hto]; exact hc_e 0 _ rfl)) (WO.yes rfl rfl (dF a6) (WO.o rfl (R.leq rfl rfl) (WO.o rfl (R.pickF rfl (dF a6) rfl) (WO.a rfl rfl (WO.nil (WX.next (WC.ret ?_))))))))
    refine WX.ret1 Tryz.results158 rfl ⟨_, rfl, by rw [NB, hh2, hx]; simp [h6], hE⟩
theorem indexH_ok (vs : List Ht) (vv : Value) (D : Nat → Prop) (w : World) (hvs : SlR 6 RHt D w vv vs) (p : Ht → Bool) (g : FuncId) (cp : Value) (hf : ∀ args w, (callFunc g args).run Tryz.prog w = .ok (.enter g args) w)
  (hc : ∀ x ∈ vs, ∀ kv w', Ext w w' → Calls Tryz.prog g #[.agg #[.string x.name, .int .i64 x.low, .int .i64 x.high, .int .i64 x.term.op, .int .i64 x.term.n, kv], cp] w' (Ret fun r w'' => r = .bool (p x) ∧ Ext w' w'')) :
  Calls Tryz.prog 195 #[vv, .func (.func g) #[] #[cp]] w (Ret fun r w' => (∃ i : Int, r = .int .i64 i ∧ (0 ≤ i ↔ vs.any p = true)) ∧ Ext w w') := by
 have hmx := hvs.max
 obtain ⟨av, nv, rfl⟩ := hvs.form
 refine calls Tryz.func195 rfl [(0, .slice av vs.length nv), (1, .func (.func g) #[] #[cp])] 19 ⟨Nat.le_of_ble_eq_true rfl, Tryz.ntmps195⟩ (argsOk (Sub.of rfl)) ?_
 refine WC.sr (WO.a rfl rfl (WO.nil (WX.next (WC.seq (WC.seq (WC.region ?_))))))
 refine WO.mv rfl rfl (WO.o rfl (R.lenS rfl Tryz.runUnderlying23 rfl) (WO.mv rfl rfl (WO.nil (WX.next (WC.block ?_)))))
 refine WC.loop (σ := Nat) (fun i => [(0, .slice av vs.length nv), (1, .func (.func g) #[] #[cp]), (7, .int .i64 vs.length), (8, .int .i64 i)]) (fun i => fun w' => i ≤ vs.length ∧ (vs.take i).any p = false ∧ Ext w w') (fun i => vs.length - i) (0) (Sub.of rfl) (⟨Nat.zero_le _, rfl, Keep.refl _ _⟩) ?_
 rintro i w1 ⟨hi, hno, hL1⟩
 show WC _ _ _ _ [(0, .slice av vs.length nv), (1, .func (.func g) #[] #[cp]), (7, .int .i64 vs.length), (8, .int .i64 i)] _
 replace hvs := hvs.ext stable_ht hL1
 refine WC.sr (WO.o rfl (R.lss rfl rfl) (WO.nil (WX.next (WC.seq ?_))))
 refine WC.ite rfl (fun hlt => ?_) (fun hlt => ?_)
 ·
  obtain ⟨x, he_x⟩ : ∃ x, vs[i]? = some x := ⟨_, List.getElem?_eq_getElem (by omega)⟩
  have hm_x := List.mem_of_getElem? he_x
  obtain ⟨b_x, o_x, c_x, ha_x, _, hc_x, hR_x⟩ := hvs.at he_x
  have h1_x := RHt.one hR_x
  obtain ⟨v1_x, rfl, hk_x⟩ := hR_x
  obtain ⟨a1_x, n1_x, rfl⟩ := hk_x.form
  have hlt_x : b_x < _ := World.block_lt_of_cell? _ _ (hc_x 0 _ rfl)
  refine WC.skip (WX.next (WC.seq (WC.block (WC.seq (WC.region (WO.mv rfl rfl (WO.a rfl rfl (WO.nr (WO.mv rfl rfl (WO.mv rfl rfl (WO.mv rfl rfl (WO.o rfl (R.indexS Tryz.runUnderlying23 Tryz.sizeOf109 rfl rfl ha_x (by omega)) (WO.o rfl (R.loadK Tryz.isAgg109 Tryz.sizeOf109 rfl (by rfl) hc_x) (WO.call rfl rfl rfl (F.callV (vs := [_]) hf rfl rfl) (hc x hm_x _ _ hL1) ?_))))))))))))))
  rintro _ wz1 ⟨rfl, hz1⟩
  replace hvs := hvs.ext stable_ht hz1
  replace hL1 := hL1.ext hz1
  replace hc_x := hz1.cells hc_x (fun h => h)
  replace hk_x := hk_x.ext stable_tm hz1
  refine WO.nil (WX.next (WC.bool rfl (fun hp => ?_) (fun hp => ?_)))
  ·
   refine WC.sr (WO.mv rfl rfl (WO.a rfl rfl (WO.nil (WX.next (WC.ret (WX.blockR (WX.thenR (WX.thenR (WX.blockR (WX.thenR ?_))))))))))
   refine WX.ret1 Tryz.results195 rfl ⟨_, rfl, ⟨_, rfl, by rw [any_at hm_x hp]; simp⟩, hL1⟩
  · refine WC.skip (WX.blockN (WX.next (WC.region (WO.o rfl (R.add rfl rfl (wrap_i64_in (by omega))) (WO.mv rfl rfl (WO.nil (WX.back (i + 1) (Sub.of rfl) (⟨by omega, any_take_all he_x hno hp, hL1⟩) (by first | omega | (dsimp only; omega)))))))))
 ·
  have : i = vs.length := by omega
  subst this
  rw [List.take_length] at hno
  refine WC.exit (WX.thenE (WX.thenE (WX.hit (WX.next (WC.seq (WC.region (WO.a rfl rfl (WO.nil (WX.next (WC.ret ?_))))))))))
  refine WX.ret1 Tryz.results195 rfl ⟨_, rfl, ⟨_, rfl, by rw [hno]; simp⟩, hL1⟩
theorem containsH_ok (vs : List Ht) (vv : Value) (D : Nat → Prop) (w : World) (hvs : SlR 6 RHt D w vv vs) (p : Ht → Bool) (g : FuncId) (cp : Value) (hf : ∀ args w, (callFunc g args).run Tryz.prog w = .ok (.enter g args) w)
  (hc : ∀ x ∈ vs, ∀ kv w', Ext w w' → Calls Tryz.prog g #[.agg #[.string x.name, .int .i64 x.low, .int .i64 x.high, .int .i64 x.term.op, .int .i64 x.term.n, kv], cp] w' (Ret fun r w'' => r = .bool (p x) ∧ Ext w' w'')) :
  Calls Tryz.prog 155 #[vv, .func (.func g) #[] #[cp]] w (Ret fun r w' => r = .bool (vs.any p) ∧ Ext w w') := by
 have hE := Keep.refl (fun _ => False) w
 refine calls Tryz.func155 rfl [(0, vv), (1, .func (.func g) #[] #[cp])] 9 ⟨Nat.le_of_ble_eq_true rfl, Tryz.ntmps155⟩ (argsOk (Sub.of rfl)) ?_
 refine WC.sr (WO.a rfl rfl (WO.nr (WO.mv rfl rfl (WO.mv rfl rfl (WO.call rfl rfl rfl (F.call (vs := [_, _]) Tryz.call195 rfl) (indexH_ok vs vv D w hvs p g cp hf hc) ?_)))))
 rintro _ wz1 ⟨⟨i, rfl, hi⟩, hz1⟩
 replace hE := hE.ext hz1
 refine WO.o rfl (R.geq rfl rfl) (WO.a rfl rfl (WO.nil (WX.next (WC.ret ?_))))
 refine WX.ret1 Tryz.results155 rfl ⟨_, rfl, by cases h : vs.any p <;> simp [h] at hi ⊢ <;> omega, hE⟩
theorem sameH_ok (h x : Ht) (kv kx : Value) (c : Nat) (w : World) (hB : Blk w c [.string x.name, .int .i64 x.low, .int .i64 x.high, .int .i64 x.term.op, .int .i64 x.term.n, kx] 109) : Calls Tryz.prog 154 #[.agg #[.string h.name, .int .i64 h.low, .int .i64 h.high, .int .i64 h.term.op, .int .i64 h.term.n, kv], .pointer (some ⟨c, 0, none⟩)] w (Ret fun r w' => r = .bool (sameName h.name x.name) ∧ Ext w w') := by
 have hE := Keep.refl (fun _ => False) w
 refine calls Tryz.func154 rfl [(0, .agg #[.string h.name, .int .i64 h.low, .int .i64 h.high, .int .i64 h.term.op, .int .i64 h.term.n, kv]), (1, .pointer (some ⟨c, 0, none⟩))] 9 ⟨Nat.le_of_ble_eq_true rfl, Tryz.ntmps154⟩ (argsOk (Sub.of rfl)) ?_
 refine WC.sr (WO.mem rfl rfl rfl (M.box rfl rfl) ?_)
 rintro _ w_b ⟨b, rfl, hg_b, hs_b, hB_b, hk_b⟩
 have hge_b : _ ≤ b := Nat.le_trans hE.size (Nat.le_of_eq hg_b.symm)
 replace hE := hE.ext hk_b
 replace hB := hk_b.blk hB (fun h => h)
 refine WO.a rfl rfl (WO.nr (WO.o rfl (R.fieldAddr Tryz.runUnderlying109 rfl Tryz.sizeOf9 rfl) (WO.o rfl (R.load Tryz.isAgg9 rfl (hB_b.cells 0 _ rfl)) (WO.o rfl (R.fieldAddr Tryz.runUnderlying109 rfl Tryz.sizeOf9 rfl) (WO.o rfl (R.load Tryz.isAgg9 rfl (hB.cells 0 _ rfl)) (WO.o rfl (R.eqStr rfl rfl) (WO.a rfl rfl (WO.nil (WX.next (WC.ret ?_))))))))))
 refine WX.ret1 Tryz.results154 rfl ⟨_, rfl, rfl, hE⟩
def hatchCode (vs : List Vr) (prev : List Ht) (h : Ht) : Int :=
 if isNm h.name = false then 7
 else if prev.any (fun u => sameName u.name h.name) = true then 8
 else if bndB h.low h.high = false then 3
 else termCodeN vs true h.term
def hatchAt (vs : List Vr) (hs : List Ht) (i : Nat) : Int := match hs[i]? with
 | some h => hatchCode vs (hs.take i) h
 | none => 0
theorem hatchAt_eq {vs : List Vr} {hs : List Ht} {i : Nat} {h : Ht} (e : hs[i]? = some h) : hatchAt vs hs i = hatchCode vs (hs.take i) h := by simp [hatchAt, e]
def hatchesCodeN (vs : List Vr) (hs : List Ht) : Int := firstBad (hatchAt vs hs) 0 hs.length
theorem hatchesCode_ok (f : Fl) (v1 v2 v3 : Value) (D : Nat → Prop) (w : World) (hf : RFl D w f v1 v2 v3) (hg : ∀ v ∈ f.vars, Good (v.low, v.high)) (hsz : ∀ h ∈ f.hatches, h.term.nodes ≤ 1000000) (hlen : f.hatches.length ≤ 1000000) : Calls Tryz.prog 103 #[.agg #[v1, v2, v3]] w (Ret fun r w' => r = .int .i64 (hatchesCodeN f.vars f.hatches) ∧ Ext w w') := by
 have hvs := hf.vars
 have hhs := hf.hatches
 obtain ⟨av, nv, rfl⟩ := hhs.form
 have hlc := hhs.len_cap.2
 have hE := Keep.refl (fun _ => False) w
 refine calls Tryz.func103 rfl [(0, .agg #[v1, .slice av f.hatches.length nv, v3])] 44 ⟨Nat.le_of_ble_eq_true rfl, Tryz.ntmps103⟩ (argsOk (Sub.of rfl)) ?_
 refine WC.sr (WO.mem rfl rfl rfl (M.box rfl rfl) ?_)
 rintro _ w_b ⟨b, rfl, hg_b, hs_b, hB_b, hk_b⟩
 have hge_b : _ ≤ b := Nat.le_trans hE.size (Nat.le_of_eq hg_b.symm)
 replace hvs := hvs.ext stable_vr hk_b
 replace hhs := hhs.ext stable_ht hk_b
 replace hE := hE.ext hk_b
 refine WO.a rfl rfl (WO.nil (WX.next (WC.seq (WC.seq (WC.region ?_)))))
 refine WO.o rfl (R.fieldAddr Tryz.runUnderlying26 rfl Tryz.sizeOf23 rfl) (WO.o rfl (R.load Tryz.isAgg23 rfl (hB_b.cells 1 _ rfl)) (WO.o rfl (R.lenS rfl Tryz.runUnderlying23 rfl) (WO.mv rfl rfl (WO.nil (WX.next (WC.block ?_))))))
 refine WC.loop (σ := Nat) (fun i => [(1, .pointer (some ⟨b, 0, none⟩)), (8, .slice av f.hatches.length nv), (9, .int .i64 f.hatches.length), (10, .int .i64 i)]) (fun i => fun w' => i ≤ f.hatches.length ∧ (∀ j, j < i → hatchAt f.vars f.hatches j = 0) ∧ Ext w_b w') (fun i => f.hatches.length - i) (0) (Sub.of rfl) (⟨Nat.zero_le _, fun j h => absurd h (Nat.not_lt_zero _), Keep.refl _ _⟩) ?_
 rintro i w1 ⟨hi, hall, hL1⟩
 show WC _ _ _ _ [(1, .pointer (some ⟨b, 0, none⟩)), (8, .slice av f.hatches.length nv), (9, .int .i64 f.hatches.length), (10, .int .i64 i)] _
 replace hvs := hvs.ext stable_vr hL1
 replace hhs := hhs.ext stable_ht hL1
 replace hE := hE.ext hL1
 replace hB_b := hL1.blk hB_b (fun h => h)
 refine WC.sr (WO.o rfl (R.lss rfl rfl) (WO.nil (WX.next (WC.seq ?_))))
 refine WC.ite rfl (fun hlt => ?_) (fun hlt => ?_)
 ·
  obtain ⟨x, he_x⟩ : ∃ x, f.hatches[i]? = some x := ⟨_, List.getElem?_eq_getElem (by omega)⟩
  have hm_x := List.mem_of_getElem? he_x
  obtain ⟨b_x, o_x, c_x, ha_x, _, hc_x, hR_x⟩ := hhs.at he_x
  have h1_x := RHt.one hR_x
  obtain ⟨v1_x, rfl, hk_x⟩ := hR_x
  obtain ⟨a1_x, n1_x, rfl⟩ := hk_x.form
  have hlt_x : b_x < _ := World.block_lt_of_cell? _ _ (hc_x 0 _ rfl)
  have hat := hatchAt_eq (vs := f.vars) he_x
  have hbad : ∀ c : Int, hatchCode f.vars (f.hatches.take i) x = c → c ≠ 0 → hatchesCodeN f.vars f.hatches = c := by
   intro c h1 h2
   have h3 : hatchAt f.vars f.hatches i ≠ 0 := by rw [hat, h1]; exact h2
   rw [hatchesCodeN, firstBad_at hall (by omega) h3, hat, h1]
  have hnext : hatchCode f.vars (f.hatches.take i) x = 0 → ∀ j, j < i + 1 → hatchAt f.vars f.hatches j = 0 := by
   intro h j hj
   by_cases e : j = i
   · subst e; rw [hat, h]
   · exact hall j (by omega)
  refine WC.skip (WX.next (WC.seq (WC.block (WC.seq (WC.region (WO.mv rfl rfl (WO.o rfl (R.indexS Tryz.runUnderlying23 Tryz.sizeOf109 rfl rfl ha_x (by omega)) (WO.o rfl (R.loadK Tryz.isAgg109 Tryz.sizeOf109 rfl (by rfl) hc_x) (WO.mem rfl rfl rfl (M.alloc (cs := _) Tryz.zeroValue109 rfl) ?_)))))))))
  rintro _ wa1 ⟨c, rfl, hg_c, hs_c, hB_c, hk_c⟩
  refine WO.a rfl rfl (WO.mem0 rfl rfl (M.storeK Tryz.sizeOf109 rfl rfl rfl rfl h1_x hB_c (by simp)) ?_)
  rintro w_c ⟨_, hB_c, hkk_c⟩
  replace hk_c := hk_c.trans hkk_c (fun q hq h => by have h : q = c := h; omega)
  have hn_b_c : b ≠ c := by have := hB_b.lt; omega
  have hge_c : _ ≤ c := Nat.le_trans hE.size (Nat.le_of_eq hg_c.symm)
  replace hvs := hvs.ext stable_vr hk_c
  replace hhs := hhs.ext stable_ht hk_c
  replace hE := hE.ext hk_c
  replace hB_b := hk_c.blk hB_b (fun h => h)
  replace hL1 := hL1.ext hk_c
  replace hc_x := hk_c.cells hc_x (fun h => h)
  replace hk_x := hk_x.ext stable_tm hk_c
  refine WO.nr (WO.o rfl (R.makeFunc (fs := []) (cs := [_]) rfl rfl) (WO.a rfl rfl (WO.nil (WX.next (WC.seq (WC.block (WC.seq (WC.region ?_))))))))
  refine WO.o rfl (R.fieldAddr Tryz.runUnderlying109 rfl Tryz.sizeOf9 rfl) (WO.o rfl (R.load Tryz.isAgg9 rfl (hB_c.cells 0 _ rfl)) (WO.call rfl rfl rfl (F.call (vs := [_]) Tryz.call150 rfl) (flatIsName_ok x.name _) ?_))
  rintro _ wz2 ⟨rfl, hz2⟩
  replace hvs := hvs.ext stable_vr hz2
  replace hhs := hhs.ext stable_ht hz2
  replace hE := hE.ext hz2
  replace hB_b := hz2.blk hB_b (fun h => h)
  replace hL1 := hL1.ext hz2
  replace hc_x := hz2.cells hc_x (fun h => h)
  replace hk_x := hk_x.ext stable_tm hz2
  replace hB_c := hz2.blk hB_c (fun h => h)
  refine WO.o rfl (R.notU rfl (by first | exact not_decide_eq | rfl)) (WO.a rfl rfl (WO.nil (WX.next ?_)))
  refine WC.bool rfl (fun n0 => ?_) (fun n0 => ?_)
  ·
   have n0' : isNm x.name = false := by simpa using n0
   refine WC.sr (WO.a rfl rfl (WO.nil (WX.next (WC.ret (WX.blockR (WX.thenR (WX.blockR (WX.thenR (WX.thenR (WX.blockR (WX.thenR ?_)))))))))))
   refine WX.ret1 Tryz.results103 rfl ⟨_, rfl, by rw [hbad 7 (by rw [hatchCode, if_pos n0']) (by decide)], hE⟩
  ·
   have n0' : ¬ isNm x.name = false := by simpa using n0
   refine WC.sr (WO.o rfl (R.fieldAddr Tryz.runUnderlying26 rfl Tryz.sizeOf23 rfl) (WO.o rfl (R.load Tryz.isAgg23 rfl (hB_b.cells 1 _ rfl)) (WO.mv rfl rfl (WO.o rfl (R.cutHi Tryz.runUnderlying23 Tryz.sizeOf109 rfl rfl (by omega)) (WO.mv rfl rfl ?_)))))
   have htk := hhs.take i (by omega)
   refine WO.call rfl rfl rfl (F.call (vs := [_, _]) Tryz.call155 rfl) (containsH_ok (f.hatches.take i) _ D _ htk (fun u => sameName u.name x.name) 154 (.pointer (some ⟨c, 0, none⟩)) Tryz.call154 (fun y _ kv w' hw' => sameH_ok y x kv _ c w' (hw'.blk hB_c (fun h => h)))) ?_
   rintro _ wz3 ⟨rfl, hz3⟩
   replace hvs := hvs.ext stable_vr hz3
   replace hhs := hhs.ext stable_ht hz3
   replace hE := hE.ext hz3
   replace hB_b := hz3.blk hB_b (fun h => h)
   replace hL1 := hL1.ext hz3
   replace hc_x := hz3.cells hc_x (fun h => h)
   replace hk_x := hk_x.ext stable_tm hz3
   replace hB_c := hz3.blk hB_c (fun h => h)
   refine WO.a rfl rfl (WO.nil (WX.next ?_))
   refine WC.bool rfl (fun d0 => ?_) (fun d0 => ?_)
   ·
    refine WC.sr (WO.a rfl rfl (WO.nil (WX.next (WC.ret (WX.blockR (WX.thenR (WX.blockR (WX.thenR (WX.thenR (WX.blockR (WX.thenR ?_)))))))))))
    refine WX.ret1 Tryz.results103 rfl ⟨_, rfl, by rw [hbad 8 (by rw [hatchCode, if_neg n0', if_pos d0]) (by decide)], hE⟩
   ·
    have n1 : ¬ (f.hatches.take i).any (fun u => sameName u.name x.name) = true := by rw [d0]; decide
    refine WC.sr (WO.o rfl (R.fieldAddr Tryz.runUnderlying109 rfl Tryz.sizeOf3 rfl) (WO.o rfl (R.load Tryz.isAgg3 rfl (hB_c.cells 1 _ rfl)) (WO.o rfl (R.fieldAddr Tryz.runUnderlying109 rfl Tryz.sizeOf3 rfl) (WO.o rfl (R.load Tryz.isAgg3 rfl (hB_c.cells 2 _ rfl)) (WO.call rfl rfl rfl (F.call (vs := [_, _]) Tryz.call152 rfl) (flatBounded_ok x.low x.high _) ?_)))))
    rintro _ wz4 ⟨rfl, hz4⟩
    replace hvs := hvs.ext stable_vr hz4
    replace hhs := hhs.ext stable_ht hz4
    replace hE := hE.ext hz4
    replace hB_b := hz4.blk hB_b (fun h => h)
    replace hL1 := hL1.ext hz4
    replace hc_x := hz4.cells hc_x (fun h => h)
    replace hk_x := hk_x.ext stable_tm hz4
    replace hB_c := hz4.blk hB_c (fun h => h)
    refine WO.o rfl (R.notU rfl (by first | exact not_decide_eq | rfl)) (WO.a rfl rfl (WO.nil (WX.next ?_)))
    refine WC.bool rfl (fun n3 => ?_) (fun n3 => ?_)
    ·
     have n3' : bndB x.low x.high = false := by simpa using n3
     refine WC.sr (WO.a rfl rfl (WO.nil (WX.next (WC.ret (WX.blockR (WX.thenR (WX.blockR (WX.thenR (WX.thenR (WX.blockR (WX.thenR ?_)))))))))))
     refine WX.ret1 Tryz.results103 rfl ⟨_, rfl, by rw [hbad 3 (by rw [hatchCode, if_neg n0', if_neg n1, if_pos n3']) (by decide)], hE⟩
    ·
     have n3' : ¬ bndB x.low x.high = false := by simpa using n3
     have hcc : hatchCode f.vars (f.hatches.take i) x = termCodeN f.vars true x.term := by rw [hatchCode, if_neg n0', if_neg n1, if_neg n3']
     refine WC.skip (WX.blockN (WX.next (WC.seq (WC.region (WO.o rfl (R.fieldAddr Tryz.runUnderlying26 rfl Tryz.sizeOf22 rfl) (WO.o rfl (R.load Tryz.isAgg22 rfl (hB_b.cells 0 _ rfl)) (WO.o rfl (R.fieldAddr Tryz.runUnderlying109 rfl Tryz.sizeOf84 rfl) (WO.o rfl (R.loadK Tryz.isAgg84 Tryz.sizeOf84 rfl (by rfl) (hB_c.cells.sub 3 3)) (WO.call rfl rfl rfl (F.call (vs := [_, _, _]) Tryz.call156 rfl) (termCode_ok f.vars true v1 _ D D _ x.term hg hvs (RTm.put hk_x) (hsz x hm_x)) ?_)))))))))
     rintro _ wz5 ⟨rfl, hz5⟩
     replace hvs := hvs.ext stable_vr hz5
     replace hhs := hhs.ext stable_ht hz5
     replace hE := hE.ext hz5
     replace hB_b := hz5.blk hB_b (fun h => h)
     replace hL1 := hL1.ext hz5
     replace hc_x := hz5.cells hc_x (fun h => h)
     replace hk_x := hk_x.ext stable_tm hz5
     replace hB_c := hz5.blk hB_c (fun h => h)
     refine WO.a rfl rfl (WO.nr (WO.mv rfl rfl (WO.o rfl (R.neq rfl rfl) (WO.nil (WX.next ?_)))))
     refine WC.ite rfl (fun tz => ?_) (fun tz => ?_)
     ·
      refine WC.sr (WO.mv rfl rfl (WO.a rfl rfl (WO.nil (WX.next (WC.ret (WX.blockR (WX.thenR (WX.thenR (WX.blockR (WX.thenR ?_))))))))))
      refine WX.ret1 Tryz.results103 rfl ⟨_, rfl, by rw [hbad _ hcc tz], hE⟩
     · refine WC.skip (WX.blockN (WX.next (WC.region (WO.o rfl (R.add rfl rfl (wrap_i64_in (by omega))) (WO.mv rfl rfl (WO.nil (WX.back (i + 1) (Sub.of rfl) (⟨by omega, hnext (by rw [hcc]; omega), hL1⟩) (by first | omega | (dsimp only; omega)))))))))
 ·
  have hii : i = f.hatches.length := by omega
  subst hii
  refine WC.exit (WX.thenE (WX.thenE (WX.hit (WX.next (WC.seq (WC.region (WO.a rfl rfl (WO.nil (WX.next (WC.ret ?_))))))))))
  refine WX.ret1 Tryz.results103 rfl ⟨_, rfl, by rw [hatchesCodeN, firstBad_zero hall], hE⟩
mutual
def stepCodeN (vs : List Vr) (nh : Nat) : St → Bool → Int
 | .mk a c v n t f g bs, last =>
  if shapedB vs nh (.mk a c v n t f g bs) last = false then 1
  else if numberB (.mk a c v n t f g bs) = false then 3
  else if termCodeN vs false t ≠ 0 then termCodeN vs false t
  else if stepsCodeN vs nh f false ≠ 0 then stepsCodeN vs nh f false
  else stepsCodeN vs nh g false
def stepsCodeN (vs : List Vr) (nh : Nat) : List St → Bool → Int
 | [], _ => 0
 | s :: r, top => if stepCodeN vs nh s (top && r.isEmpty) ≠ 0 then stepCodeN vs nh s (top && r.isEmpty) else stepsCodeN vs nh r top
end
theorem stepCode_eq (vs : List Vr) (nh : Nat) (s : St) (last : Bool) : stepCodeN vs nh s last =
  if shapedB vs nh s last = false then 1 else if numberB s = false then 3 else if termCodeN vs false s.term ≠ 0 then termCodeN vs false s.term
  else if stepsCodeN vs nh s.thn false ≠ 0 then stepsCodeN vs nh s.thn false else stepsCodeN vs nh s.els false := by
 cases s; rw [stepCodeN]; rfl
theorem stepsCode_drop (vs : List Vr) (nh : Nat) (top : Bool) (l : List St) (i : Nat) (x : St) (h : l[i]? = some x) :
  stepsCodeN vs nh (l.drop i) top = if stepCodeN vs nh x (top && decide (i = l.length - 1)) ≠ 0 then stepCodeN vs nh x (top && decide (i = l.length - 1)) else stepsCodeN vs nh (l.drop (i + 1)) top := by
 obtain ⟨hi, hx⟩ := List.getElem?_eq_some_iff.1 h
 rw [List.drop_eq_getElem_cons hi, hx, stepsCodeN]
 have : (l.drop (i + 1)).isEmpty = decide (i = l.length - 1) := by
  rw [Bool.eq_iff_iff]; simp; omega
 rw [this]
theorem shaped_groups {vs : List Vr} {nh : Nat} {s : St} {last : Bool} (h : shapedB vs nh s last = true) : s.act = 6 → 0 < s.bounds.length := by
 intro h6
 rw [shapedB_iff] at h
 simp [h6, groupsB] at h
 omega
theorem stepsCode_ok (f : Fl) (v1 v2 v3 : Value) (hg : ∀ v ∈ f.vars, Good (v.low, v.high)) (Df : Nat → Prop) (l : List St) : ∀ (v : Value) (D : Nat → Prop) (w : World) (top : Bool), RFl Df w f v1 v2 v3 → SlR 10 RSt D w v l → sbulk l ≤ 1000000 → Calls Tryz.prog 104 #[.agg #[v1, v2, v3], v, .bool top] w (Ret fun r w' => r = .int .i64 (stepsCodeN f.vars f.hatches.length l top) ∧ Ext w w') := by
 induction l using Sts.ind with
 | h l ih =>
 intro v D w top hf hl hb
 obtain ⟨hvs, hhs, hbd⟩ := hf
 have hmx := hl.max
 obtain ⟨av, nv, rfl⟩ := hl.form
 have hE := Keep.refl (fun _ => False) w
 refine calls Tryz.func104 rfl [(0, .agg #[v1, v2, v3]), (1, .slice av l.length nv), (2, .bool top)] 61 ⟨Nat.le_of_ble_eq_true rfl, Tryz.ntmps104⟩ (argsOk (Sub.of rfl)) ?_
 refine WC.sr (WO.mem rfl rfl rfl (M.box rfl rfl) ?_)
 rintro _ w_b ⟨b, rfl, hg_b, hs_b, hB_b, hk_b⟩
 have hge_b : _ ≤ b := Nat.le_trans hE.size (Nat.le_of_eq hg_b.symm)
 replace hE := hE.ext hk_b
 replace hvs := hvs.ext stable_vr hk_b
 replace hhs := hhs.ext stable_ht hk_b
 replace hbd := hbd.ext stable_st hk_b
 replace hl := hl.ext stable_st hk_b
 refine WO.a rfl rfl (WO.nil (WX.next (WC.seq (WC.seq (WC.region ?_)))))
 refine WO.mv rfl rfl (WO.o rfl (R.lenS rfl Tryz.runUnderlying24 rfl) (WO.mv rfl rfl (WO.nil (WX.next (WC.block ?_)))))
 refine WC.loop (σ := Nat) (fun i => [(1, .slice av l.length nv), (2, .bool top), (3, .pointer (some ⟨b, 0, none⟩)), (13, .slice av l.length nv), (14, .int .i64 l.length), (15, .int .i64 i)]) (fun i => fun w' => i ≤ l.length ∧ stepsCodeN f.vars f.hatches.length l top = stepsCodeN f.vars f.hatches.length (l.drop i) top ∧ Ext w_b w') (fun i => l.length - i) (0) (Sub.of rfl) (⟨Nat.zero_le _, rfl, Keep.refl _ _⟩) ?_
 rintro i w1 ⟨hi, hall, hL1⟩
 show WC _ _ _ _ [(1, .slice av l.length nv), (2, .bool top), (3, .pointer (some ⟨b, 0, none⟩)), (13, .slice av l.length nv), (14, .int .i64 l.length), (15, .int .i64 i)] _
 replace hE := hE.ext hL1
 replace hvs := hvs.ext stable_vr hL1
 replace hhs := hhs.ext stable_ht hL1
 replace hbd := hbd.ext stable_st hL1
 replace hl := hl.ext stable_st hL1
 replace hB_b := hL1.blk hB_b (fun h => h)
 refine WC.sr (WO.o rfl (R.lss rfl rfl) (WO.nil (WX.next (WC.seq ?_))))
 refine WC.ite rfl (fun hlt => ?_) (fun hlt => ?_)
 ·
  obtain ⟨x, he_x⟩ : ∃ x, l[i]? = some x := ⟨_, List.getElem?_eq_getElem (by omega)⟩
  have hm_x := List.mem_of_getElem? he_x
  obtain ⟨b_x, o_x, c_x, ha_x, _, hc_x, hR_x⟩ := hl.at he_x
  have h1_x := RSt.one hR_x
  obtain ⟨v1_x, v2_x, v3_x, v4_x, rfl, hk_x, ht_x, hs_x, hb_x⟩ := hR_x.get
  obtain ⟨a1_x, n1_x, rfl⟩ := hk_x.form
  obtain ⟨a2_x, n2_x, rfl⟩ := ht_x.form
  obtain ⟨a3_x, n3_x, rfl⟩ := hs_x.form
  obtain ⟨a4_x, n4_x, rfl⟩ := hb_x.form
  have hlt_x : b_x < _ := World.block_lt_of_cell? _ _ (hc_x 0 _ rfl)
  have hst := stepsCode_drop f.vars f.hatches.length top l i x he_x
  refine WC.skip (WX.next (WC.seq (WC.block (WC.seq (WC.region (WO.mv rfl rfl (WO.o rfl (R.indexS Tryz.runUnderlying24 Tryz.sizeOf86 rfl rfl ha_x (by omega)) (WO.o rfl (R.loadK Tryz.isAgg86 Tryz.sizeOf86 rfl (by rfl) hc_x) (WO.mem rfl rfl rfl (M.alloc (cs := _) Tryz.zeroValue86 rfl) ?_)))))))))
  rintro _ wa1 ⟨c, rfl, hg_c, hs_c, hB_c, hk_c⟩
  refine WO.a rfl rfl (WO.mem0 rfl rfl (M.storeK Tryz.sizeOf86 rfl rfl rfl rfl h1_x hB_c (by simp)) ?_)
  rintro w_c ⟨_, hB_c, hkk_c⟩
  replace hk_c := hk_c.trans hkk_c (fun q hq h => by have h : q = c := h; omega)
  have hn_b_c : b ≠ c := by have := hB_b.lt; omega
  have hge_c : _ ≤ c := Nat.le_trans hE.size (Nat.le_of_eq hg_c.symm)
  replace hE := hE.ext hk_c
  replace hvs := hvs.ext stable_vr hk_c
  replace hhs := hhs.ext stable_ht hk_c
  replace hbd := hbd.ext stable_st hk_c
  replace hl := hl.ext stable_st hk_c
  replace hB_b := hk_c.blk hB_b (fun h => h)
  replace hL1 := hL1.ext hk_c
  replace hc_x := hk_c.cells hc_x (fun h => h)
  replace hk_x := hk_x.ext stable_tm hk_c
  replace ht_x := ht_x.ext stable_st hk_c
  replace hs_x := hs_x.ext stable_st hk_c
  replace hb_x := hb_x.ext stable_int hk_c
  have hnl : ((l.length : Int) - 1 = ((l.length - 1 : Nat) : Int)) := by omega
  refine WO.nil (WX.next (WC.seq (WC.seq ?_)))
  have hC := Keep.refl (fun _ => False) w_c
  refine WC.cut (σ := Bool) (fun q => [(1, .slice av l.length nv), (2, .bool top), (3, .pointer (some ⟨b, 0, none⟩)), (7, .int .i64 i), (8, .pointer (some ⟨c, 0, none⟩)), (13, .slice av l.length nv), (14, .int .i64 l.length), (15, .int .i64 i), (31, .bool q)]) (fun q => fun w' => q = !(shapedB f.vars f.hatches.length x (top && decide (i = l.length - 1))) ∧ Ext w_c w') ?_ ?_
  ·
   refine WC.region (WO.o rfl (R.loadK Tryz.isAgg26 Tryz.sizeOf26 rfl (by rfl) hB_b.cells) (WO.o rfl (R.loadK Tryz.isAgg86 Tryz.sizeOf86 rfl (by rfl) hB_c.cells) (WO.mv rfl rfl (WO.mv rfl rfl (WO.splitB (d := 23) rfl (fun tt => ?_) (fun tt => ?_))))))
   ·
    refine WO.yes rfl rfl tt (WO.mv rfl rfl (WO.yes rfl rfl tt (WO.mv rfl rfl (WO.yes rfl rfl tt (WO.o rfl (R.lenS rfl Tryz.runUnderlying24 rfl) (WO.yes rfl rfl tt (WO.o rfl (R.sub rfl rfl (wrap_i64_in (by omega))) (WO.yes rfl rfl tt (WO.o rfl (R.eql rfl rfl) (WO.o rfl (R.pickT rfl tt rfl) (WO.call rfl rfl rfl (F.call (vs := [_, _, _]) Tryz.call157 rfl) (flatShaped_ok f x _ v1 v2 v3 _ _ _ _ ⟨hvs, hhs, hbd⟩ (RSt.put hk_x ht_x hs_x hb_x)) ?_)))))))))))
    rintro _ wz2 ⟨rfl, hz2⟩
    replace hE := hE.ext hz2
    replace hvs := hvs.ext stable_vr hz2
    replace hhs := hhs.ext stable_ht hz2
    replace hbd := hbd.ext stable_st hz2
    replace hl := hl.ext stable_st hz2
    replace hB_b := hz2.blk hB_b (fun h => h)
    replace hL1 := hL1.ext hz2
    replace hc_x := hz2.cells hc_x (fun h => h)
    replace hk_x := hk_x.ext stable_tm hz2
    replace ht_x := ht_x.ext stable_st hz2
    replace hs_x := hs_x.ext stable_st hz2
    replace hb_x := hb_x.ext stable_int hz2
    replace hB_c := hz2.blk hB_c (fun h => h)
    replace hC := hC.ext hz2
    refine WO.o rfl (R.notU rfl (by first | exact not_decide_eq | rfl)) (WO.nil (WX.meet (_) (Sub.of rfl) (⟨by rw [tt, Bool.true_and]; congr 2; simp only [decide_eq_decide]; omega, hC⟩)))
   ·
    refine WO.no rfl rfl tt rfl (WO.no rfl rfl tt rfl (WO.no rfl rfl tt rfl (WO.no rfl rfl tt rfl (WO.no rfl rfl tt rfl (WO.o rfl (R.pickF rfl tt rfl) (WO.call rfl rfl rfl (F.call (vs := [_, _, _]) Tryz.call157 rfl) (flatShaped_ok f x _ v1 v2 v3 _ _ _ _ ⟨hvs, hhs, hbd⟩ (RSt.put hk_x ht_x hs_x hb_x)) ?_))))))
    rintro _ wz3 ⟨rfl, hz3⟩
    replace hE := hE.ext hz3
    replace hvs := hvs.ext stable_vr hz3
    replace hhs := hhs.ext stable_ht hz3
    replace hbd := hbd.ext stable_st hz3
    replace hl := hl.ext stable_st hz3
    replace hB_b := hz3.blk hB_b (fun h => h)
    replace hL1 := hL1.ext hz3
    replace hc_x := hz3.cells hc_x (fun h => h)
    replace hk_x := hk_x.ext stable_tm hz3
    replace ht_x := ht_x.ext stable_st hz3
    replace hs_x := hs_x.ext stable_st hz3
    replace hb_x := hb_x.ext stable_int hz3
    replace hB_c := hz3.blk hB_c (fun h => h)
    replace hC := hC.ext hz3
    refine WO.o rfl (R.notU rfl (by first | exact not_decide_eq | rfl)) (WO.nil (WX.meet (_) (Sub.of rfl) (⟨by rw [tt, Bool.false_and], hC⟩)))
  rintro q x1 ⟨hq, hX1⟩
  show WX _ _ _ [(1, .slice av l.length nv), (2, .bool top), (3, .pointer (some ⟨b, 0, none⟩)), (7, .int .i64 i), (8, .pointer (some ⟨c, 0, none⟩)), (13, .slice av l.length nv), (14, .int .i64 l.length), (15, .int .i64 i), (31, .bool q)] _
  subst hq
  replace hE := hE.ext hX1
  replace hvs := hvs.ext stable_vr hX1
  replace hhs := hhs.ext stable_ht hX1
  replace hbd := hbd.ext stable_st hX1
  replace hl := hl.ext stable_st hX1
  replace hB_b := hX1.blk hB_b (fun h => h)
  replace hL1 := hL1.ext hX1
  replace hc_x := hX1.cells hc_x (fun h => h)
  replace hk_x := hk_x.ext stable_tm hX1
  replace ht_x := ht_x.ext stable_st hX1
  replace hs_x := hs_x.ext stable_st hX1
  replace hb_x := hb_x.ext stable_int hX1
  replace hB_c := hX1.blk hB_c (fun h => h)
  generalize hlast : (top && decide (i = l.length - 1)) = last at *
  refine WX.next (WC.bool rfl (fun hsh => ?_) (fun hsh => ?_))
  ·
   have hsh' : shapedB f.vars f.hatches.length x last = false := by simpa using hsh
   refine WC.sr (WO.a rfl rfl (WO.nil (WX.next (WC.ret (WX.thenR (WX.blockR (WX.thenR (WX.thenR (WX.blockR (WX.thenR ?_))))))))))
   refine WX.ret1 Tryz.results104 rfl ⟨_, rfl, by rw [hall, hst, stepCode_eq, if_pos hsh']; rfl, hE⟩
  ·
   have hsh' : shapedB f.vars f.hatches.length x last = true := by simpa using hsh
   have hshn : ¬ shapedB f.vars f.hatches.length x last = false := by rw [hsh']; decide
   refine WC.skip (WX.next (WC.seq (WC.seq (WC.region (WO.o rfl (R.loadK Tryz.isAgg86 Tryz.sizeOf86 rfl (by rfl) hB_c.cells) (WO.call rfl rfl rfl (F.call (vs := [_]) Tryz.call158 rfl) (numbered_ok x _ D _ (RSt.put hk_x ht_x hs_x hb_x) (shaped_groups hsh')) ?_))))))
   rintro _ wz4 ⟨rfl, hz4⟩
   replace hE := hE.ext hz4
   replace hvs := hvs.ext stable_vr hz4
   replace hhs := hhs.ext stable_ht hz4
   replace hbd := hbd.ext stable_st hz4
   replace hl := hl.ext stable_st hz4
   replace hB_b := hz4.blk hB_b (fun h => h)
   replace hL1 := hL1.ext hz4
   replace hc_x := hz4.cells hc_x (fun h => h)
   replace hk_x := hk_x.ext stable_tm hz4
   replace ht_x := ht_x.ext stable_st hz4
   replace hs_x := hs_x.ext stable_st hz4
   replace hb_x := hb_x.ext stable_int hz4
   replace hB_c := hz4.blk hB_c (fun h => h)
   refine WO.o rfl (R.notU rfl (by first | exact not_decide_eq | rfl)) (WO.nil (WX.next ?_))
   refine WC.bool rfl (fun hnu => ?_) (fun hnu => ?_)
   ·
    have hnu' : numberB x = false := by simpa using hnu
    refine WC.sr (WO.a rfl rfl (WO.nil (WX.next (WC.ret (WX.thenR (WX.blockR (WX.thenR (WX.thenR (WX.blockR (WX.thenR ?_))))))))))
    refine WX.ret1 Tryz.results104 rfl ⟨_, rfl, by rw [hall, hst, stepCode_eq, if_neg hshn, if_pos hnu']; rfl, hE⟩
   ·
    have hnu' : ¬ numberB x = false := by simpa using hnu
    refine WC.skip (WX.next (WC.seq (WC.seq (WC.region (WO.o rfl (R.fieldAddr Tryz.runUnderlying26 rfl Tryz.sizeOf22 rfl) (WO.o rfl (R.load Tryz.isAgg22 rfl (hB_b.cells 0 _ rfl)) (WO.o rfl (R.fieldAddr Tryz.runUnderlying86 rfl Tryz.sizeOf84 rfl) (WO.o rfl (R.loadK Tryz.isAgg84 Tryz.sizeOf84 rfl (by rfl) (hB_c.cells.sub 4 3)) ?_))))))))
    have hbx := sbulk_mem hm_x
    rw [St.bulk_eq] at hbx
    refine WO.call rfl rfl rfl (F.call (vs := [_, _, _]) Tryz.call156 rfl) (termCode_ok f.vars false v1 _ _ _ _ x.term hg hvs (RTm.put hk_x) (by omega)) ?_
    rintro _ wz5 ⟨rfl, hz5⟩
    replace hE := hE.ext hz5
    replace hvs := hvs.ext stable_vr hz5
    replace hhs := hhs.ext stable_ht hz5
    replace hbd := hbd.ext stable_st hz5
    replace hl := hl.ext stable_st hz5
    replace hB_b := hz5.blk hB_b (fun h => h)
    replace hL1 := hL1.ext hz5
    replace hc_x := hz5.cells hc_x (fun h => h)
    replace hk_x := hk_x.ext stable_tm hz5
    replace ht_x := ht_x.ext stable_st hz5
    replace hs_x := hs_x.ext stable_st hz5
    replace hb_x := hb_x.ext stable_int hz5
    replace hB_c := hz5.blk hB_c (fun h => h)
    refine WO.a rfl rfl (WO.nr (WO.mv rfl rfl (WO.o rfl (R.neq rfl rfl) (WO.nil (WX.next ?_)))))
    refine WC.ite rfl (fun tz => ?_) (fun tz => ?_)
    ·
     refine WC.sr (WO.mv rfl rfl (WO.a rfl rfl (WO.nil (WX.next (WC.ret (WX.thenR (WX.blockR (WX.thenR (WX.thenR (WX.blockR (WX.thenR ?_)))))))))))
     refine WX.ret1 Tryz.results104 rfl ⟨_, rfl, by rw [hall, hst, stepCode_eq, if_neg hshn, if_neg hnu', if_pos tz, if_pos tz], hE⟩
    ·
     have hcode : stepCodeN f.vars f.hatches.length x last = if stepsCodeN f.vars f.hatches.length x.thn false ≠ 0 then stepsCodeN f.vars f.hatches.length x.thn false else stepsCodeN f.vars f.hatches.length x.els false := by rw [stepCode_eq, if_neg hshn, if_neg hnu', if_neg tz]
     refine WC.ks (WO.o rfl (R.fieldAddr Tryz.runUnderlying86 rfl Tryz.sizeOf24 rfl) (WO.o rfl (R.load Tryz.isAgg24 rfl (hB_c.cells 7 _ rfl)) (WO.o rfl (R.fieldAddr Tryz.runUnderlying86 rfl Tryz.sizeOf24 rfl) (WO.o rfl (R.load Tryz.isAgg24 rfl (hB_c.cells 8 _ rfl)) (WO.mem rfl rfl rfl (M.buildSlice (cs := [.slice a2_x x.thn.length n2_x, .slice a3_x x.els.length n3_x]) [(0, _), (1, _)] Tryz.runUnderlying144 Tryz.sizeOf24 Tryz.zeroValue24 (by decide) rfl (by kernel_rfl)) ?_)))))
     rintro _ w3 ⟨b3, rfl, hg_b3, hs_b3, hB_b3, hk_b3⟩
     replace hE := hE.ext hk_b3
     replace hvs := hvs.ext stable_vr hk_b3
     replace hhs := hhs.ext stable_ht hk_b3
     replace hbd := hbd.ext stable_st hk_b3
     replace hl := hl.ext stable_st hk_b3
     replace hB_b := hk_b3.blk hB_b (fun h => h)
     replace hL1 := hL1.ext hk_b3
     replace hc_x := hk_b3.cells hc_x (fun h => h)
     replace hk_x := hk_x.ext stable_tm hk_b3
     replace ht_x := ht_x.ext stable_st hk_b3
     replace hs_x := hs_x.ext stable_st hk_b3
     replace hb_x := hb_x.ext stable_int hk_b3
     replace hB_c := hk_b3.blk hB_c (fun h => h)
     refine WO.o rfl (R.lenS rfl Tryz.runUnderlying144 rfl) (WO.mv rfl rfl (WO.nil (WX.next (WC.block ?_))))
     refine WC.loop (σ := Nat) (fun k => [(1, .slice av l.length nv), (2, .bool top), (3, .pointer (some ⟨b, 0, none⟩)), (7, .int .i64 i), (8, .pointer (some ⟨c, 0, none⟩)), (13, .slice av l.length nv), (14, .int .i64 l.length), (15, .int .i64 i), (47, .slice (some ⟨b3, 0, none⟩) 2 2), (48, .int .i64 2), (49, .int .i64 k)]) (fun k => fun w' => k ≤ 2 ∧ (1 ≤ k → stepsCodeN f.vars f.hatches.length x.thn false = 0) ∧ (2 ≤ k → stepsCodeN f.vars f.hatches.length x.els false = 0) ∧ Ext w3 w') (fun k => 2 - k) (0) (Sub.of rfl) (⟨Nat.zero_le _, fun h => absurd h (by decide), fun h => absurd h (by decide), Keep.refl _ _⟩) ?_
     rintro k w4 ⟨hk2, hk0, hk1, hL2⟩
     show WC _ _ _ _ [(1, .slice av l.length nv), (2, .bool top), (3, .pointer (some ⟨b, 0, none⟩)), (7, .int .i64 i), (8, .pointer (some ⟨c, 0, none⟩)), (13, .slice av l.length nv), (14, .int .i64 l.length), (15, .int .i64 i), (47, .slice (some ⟨b3, 0, none⟩) 2 2), (48, .int .i64 2), (49, .int .i64 k)] _
     replace hE := hE.ext hL2
     replace hvs := hvs.ext stable_vr hL2
     replace hhs := hhs.ext stable_ht hL2
     replace hbd := hbd.ext stable_st hL2
     replace hl := hl.ext stable_st hL2
     replace hB_b := hL2.blk hB_b (fun h => h)
     replace hL1 := hL1.ext hL2
     replace hc_x := hL2.cells hc_x (fun h => h)
     replace hk_x := hk_x.ext stable_tm hL2
     replace ht_x := ht_x.ext stable_st hL2
     replace hs_x := hs_x.ext stable_st hL2
     replace hb_x := hb_x.ext stable_int hL2
     replace hB_c := hL2.blk hB_c (fun h => h)
     replace hB_b3 := hL2.blk hB_b3 (fun h => h)
     refine WC.sr (WO.o rfl (R.lss rfl rfl) (WO.nil (WX.next (WC.seq ?_))))
     refine WC.ite rfl (fun klt => ?_) (fun klt => ?_)
     ·
      rcases (show k = 0 ∨ k = 1 by omega) with rfl | rfl
      ·
       refine WC.skip (WX.next (WC.seq (WC.block (WC.seq (WC.region (WO.o rfl (R.indexS Tryz.runUnderlying144 Tryz.sizeOf24 rfl rfl rfl (by omega)) (WO.o rfl (R.load Tryz.isAgg24 rfl (hB_b3.cells 0 _ rfl)) (WO.a rfl rfl (WO.nr (WO.o rfl (R.loadK Tryz.isAgg26 Tryz.sizeOf26 rfl (by rfl) hB_b.cells) (WO.mv rfl rfl (WO.call rfl rfl rfl (F.call (vs := [_, _, _]) Tryz.call104 rfl) ((ih x hm_x).1 _ _ _ false ⟨hvs, hhs, hbd⟩ ht_x (by omega)) ?_))))))))))))
       rintro _ wz6 ⟨rfl, hz6⟩
       replace hE := hE.ext hz6
       replace hvs := hvs.ext stable_vr hz6
       replace hhs := hhs.ext stable_ht hz6
       replace hbd := hbd.ext stable_st hz6
       replace hl := hl.ext stable_st hz6
       replace hB_b := hz6.blk hB_b (fun h => h)
       replace hL1 := hL1.ext hz6
       replace hc_x := hz6.cells hc_x (fun h => h)
       replace hk_x := hk_x.ext stable_tm hz6
       replace ht_x := ht_x.ext stable_st hz6
       replace hs_x := hs_x.ext stable_st hz6
       replace hb_x := hb_x.ext stable_int hz6
       replace hB_c := hz6.blk hB_c (fun h => h)
       replace hB_b3 := hz6.blk hB_b3 (fun h => h)
       replace hL2 := hL2.ext hz6
       refine WO.a rfl rfl (WO.nr (WO.mv rfl rfl (WO.o rfl (R.neq rfl rfl) (WO.nil (WX.next ?_)))))
       refine WC.ite rfl (fun tz1 => ?_) (fun tz1 => ?_)
       ·
        refine WC.sr (WO.mv rfl rfl (WO.a rfl rfl (WO.nil (WX.next (WC.ret (WX.blockR (WX.thenR (WX.thenR (WX.blockR (WX.blockR (WX.thenR (WX.thenR (WX.blockR (WX.thenR ?_))))))))))))))
        refine WX.ret1 Tryz.results104 rfl ⟨_, rfl, by rw [hall, hst, hcode, if_pos tz1, if_pos tz1], hE⟩
       · refine WC.skip (WX.blockN (WX.next (WC.region (WO.o rfl (R.add rfl rfl (wrap_i64_in (by omega))) (WO.mv rfl rfl (WO.nil (WX.back (1) (Sub.of rfl) (⟨by omega, fun _ => by omega, fun h => absurd h (by decide), hL2⟩) (by first | omega | (dsimp only; omega)))))))))
      ·
       refine WC.skip (WX.next (WC.seq (WC.block (WC.seq (WC.region (WO.o rfl (R.indexS Tryz.runUnderlying144 Tryz.sizeOf24 rfl rfl rfl (by omega)) (WO.o rfl (R.load Tryz.isAgg24 rfl (hB_b3.cells 1 _ rfl)) (WO.a rfl rfl (WO.nr (WO.o rfl (R.loadK Tryz.isAgg26 Tryz.sizeOf26 rfl (by rfl) hB_b.cells) (WO.mv rfl rfl (WO.call rfl rfl rfl (F.call (vs := [_, _, _]) Tryz.call104 rfl) ((ih x hm_x).2 _ _ _ false ⟨hvs, hhs, hbd⟩ hs_x (by omega)) ?_))))))))))))
       rintro _ wz7 ⟨rfl, hz7⟩
       replace hE := hE.ext hz7
       replace hvs := hvs.ext stable_vr hz7
       replace hhs := hhs.ext stable_ht hz7
       replace hbd := hbd.ext stable_st hz7
       replace hl := hl.ext stable_st hz7
       replace hB_b := hz7.blk hB_b (fun h => h)
       replace hL1 := hL1.ext hz7
       replace hc_x := hz7.cells hc_x (fun h => h)
       replace hk_x := hk_x.ext stable_tm hz7
       replace ht_x := ht_x.ext stable_st hz7
       replace hs_x := hs_x.ext stable_st hz7
       replace hb_x := hb_x.ext stable_int hz7
       replace hB_c := hz7.blk hB_c (fun h => h)
       replace hB_b3 := hz7.blk hB_b3 (fun h => h)
       replace hL2 := hL2.ext hz7
       refine WO.a rfl rfl (WO.nr (WO.mv rfl rfl (WO.o rfl (R.neq rfl rfl) (WO.nil (WX.next ?_)))))
       have hthn := hk0 (Nat.le_refl _)
       have hcode2 : stepCodeN f.vars f.hatches.length x last = stepsCodeN f.vars f.hatches.length x.els false := by rw [hcode, if_neg (by simp [hthn])]
       refine WC.ite rfl (fun tz1 => ?_) (fun tz1 => ?_)
       ·
        refine WC.sr (WO.mv rfl rfl (WO.a rfl rfl (WO.nil (WX.next (WC.ret (WX.blockR (WX.thenR (WX.thenR (WX.blockR (WX.blockR (WX.thenR (WX.thenR (WX.blockR (WX.thenR ?_))))))))))))))
        refine WX.ret1 Tryz.results104 rfl ⟨_, rfl, by rw [hall, hst, hcode2, if_pos tz1], hE⟩
       · refine WC.skip (WX.blockN (WX.next (WC.region (WO.o rfl (R.add rfl rfl (wrap_i64_in (by omega))) (WO.mv rfl rfl (WO.nil (WX.back (2) (Sub.of rfl) (⟨by omega, fun _ => hthn, fun _ => by omega, hL2⟩) (by first | omega | (dsimp only; omega)))))))))
     ·
      have hx0 : stepCodeN f.vars f.hatches.length x last = 0 := by rw [hcode, if_neg (by simp [hk0 (by omega)]), hk1 (by omega)]
      refine WC.exit (WX.thenE (WX.thenE (WX.hit (WX.blockN (WX.next (WC.region (WO.o rfl (R.add rfl rfl (wrap_i64_in (by omega))) (WO.mv rfl rfl (WO.nil (WX.back (i + 1) (Sub.of rfl) (⟨by omega, by rw [hall, hst, hx0, if_neg (by decide)], hL1⟩) (by first | omega | (dsimp only; omega))))))))))))
 ·
  have hii : i = l.length := by omega
  subst hii
  refine WC.exit (WX.thenE (WX.thenE (WX.hit (WX.next (WC.seq (WC.region (WO.a rfl rfl (WO.nil (WX.next (WC.ret ?_))))))))))
  refine WX.ret1 Tryz.results104 rfl ⟨_, rfl, by rw [hall, List.drop_length]; rfl, hE⟩
end Go.Proofs.YtldhllpogdikdaaGreat
