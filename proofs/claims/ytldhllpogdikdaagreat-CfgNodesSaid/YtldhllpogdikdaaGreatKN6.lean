/-
  Contracts and the mathematics that the proof needs. Nothing here is a claim.
-/
import Derived.Test.YtldhllpogdikdaaGreatKN5
namespace Go.Proofs.YtldhllpogdikdaaGreat
open Go.GL
theorem reaching_ok (f : Fl) (g : List Nd) (v1 v2 v3 gv : Value) (D0 Dg0 : Nat → Prop) (w : World) (hf0 : RFl D0 w f v1 v2 v3) (hg0 : SlR 4 RNd Dg0 w gv g) (hsz : snodes f.body + hnodes f.hatches ≤ 1024) (hbk : sbulk f.body ≤ 1000000) :
  Calls Tryz.prog 34 #[.agg #[v1, v2, v3], .agg #[gv]] w (Ret fun rr w' => (∃ rv, rr = .tuple #[rv, .int .i64 (gcheckN f g)] ∧ (gcheckN f g ≠ 0 → rv = .slice none 0 0) ∧ (gcheckN f g = 0 → ∃ rows, RchRows f (cfgN f) rows ∧ SlR 1 (RSl 1 RInt) (fun b => w.heap.size ≤ b) w' rv rows)) ∧ Ext w w') := by
 have hf := hf0.narrow
 have hg := hg0.narrow (by decide) narrow_nd
 generalize hDD : (fun b => D0 b ∧ b < w.heap.size) = D at hf
 generalize hGG : (fun b => Dg0 b ∧ b < w.heap.size) = Dg at hg
 have hDw : ∀ q, D q → q < w.heap.size := fun q h => by rw [← hDD] at h; exact h.2
 have hGw : ∀ q, Dg q → q < w.heap.size := fun q h => by rw [← hGG] at h; exact h.2
 obtain ⟨ag, cg, rfl⟩ := hg.form
 have hE := Keep.refl (fun _ => False) w
 refine calls Tryz.func34 rfl [(0, .agg #[v1, v2, v3]), (1, .agg #[.slice ag g.length cg])] 129 ⟨Nat.le_of_ble_eq_true rfl, Tryz.ntmps34⟩ (argsOk (Sub.of rfl)) ?_
 refine WC.sr (WO.mem rfl rfl rfl (M.box rfl rfl) ?_)
 rintro _ w_b ⟨b, rfl, hg_b, hs_b, hB_b, hk_b⟩
 have hge_b : _ ≤ b := Nat.le_trans hE.size (Nat.le_of_eq hg_b.symm)
 replace hE := hE.ext hk_b
 replace hf := RFl.ext hf hk_b
 replace hg := hg.ext stable_nd hk_b
 refine WO.mem rfl rfl rfl (M.box rfl rfl) ?_
 rintro _ w_bg ⟨bg, rfl, hg_bg, hs_bg, hB_bg, hk_bg⟩
 have hn_b_bg : b ≠ bg := by have := hB_b.lt; omega
 have hge_bg : _ ≤ bg := Nat.le_trans hE.size (Nat.le_of_eq hg_bg.symm)
 replace hE := hE.ext hk_bg
 replace hf := RFl.ext hf hk_bg
 replace hg := hg.ext stable_nd hk_bg
 replace hB_b := hk_bg.blk hB_b (fun h => h)
 refine WO.a rfl rfl (WO.a rfl rfl (WO.nil (WX.next (WC.seq (WC.seq (WC.region ?_))))))
 refine WO.o rfl (R.loadK Tryz.isAgg26 Tryz.sizeOf26 rfl (by rfl) hB_b.cells) (WO.o rfl (R.loadK Tryz.isAgg31 Tryz.sizeOf31 rfl (by rfl) hB_bg.cells) (WO.call rfl rfl rfl (F.call (vs := [_, _]) Tryz.call18 rfl) (cfgCheck_ok f g _ _ _ _ D Dg _ hf hg hsz hbk) ?_))
 rintro _ wz1 ⟨rfl, hz1⟩
 replace hE := hE.ext hz1
 replace hf := RFl.ext hf hz1
 replace hg := hg.ext stable_nd hz1
 replace hB_b := hz1.blk hB_b (fun h => h)
 replace hB_bg := hz1.blk hB_bg (fun h => h)
 refine WO.a rfl rfl (WO.nr (WO.mv rfl rfl (WO.o rfl (R.neq rfl rfl) (WO.nil (WX.next ?_)))))
 refine WC.ite rfl (fun e0 => ?_) (fun e0 => ?_)
 ·
  refine WC.sr (WO.mv rfl rfl (WO.a rfl rfl (WO.a rfl rfl (WO.nil (WX.next (WC.ret (WX.thenR ?_)))))))
  refine WX.ret2 Tryz.results34 rfl rfl ⟨_, rfl, ⟨_, rfl, fun _ => rfl, fun h => absurd h e0⟩, hE⟩
 ·
  have e0' : gcheckN f g = 0 := by omega
  have hck : checkN f = 0 := by
   unfold gcheckN at e0'
   split at e0'
   · rename_i h; exact absurd e0' h
   · rename_i h; omega
  have hgg : cfgN f = g := by
   unfold gcheckN at e0'
   rw [if_neg (by omega)] at e0'
   split at e0'
   · assumption
   · cases e0'
  have V : Valid f := ⟨hck, hsz, hbk⟩
  subst hgg
  have hl64 := V.lens
  have hss := V.ssize
  have hpl : (preL f.body).length ≤ 1024 := by rw [preL_len]; exact hss
  have hlen := cfgN_len f V.plain
  have hwl := widL_le f.body
  have hn : (cfgN f).length ≤ 2050 := by omega
  refine WC.ks (WO.o rfl (R.fieldAddr Tryz.runUnderlying26 rfl Tryz.sizeOf24 rfl) (WO.o rfl (R.load Tryz.isAgg24 rfl (hB_b.cells 2 _ rfl)) (WO.call rfl rfl rfl (F.call (vs := [_]) Tryz.call80 rfl) (flatten_ok f.body _ D _ hf.body (fun q hq => by have := hDw q hq; have := hE.size; omega) (by omega)) ?_)))
  rintro sv u1 ⟨hOw, hOf, uk1⟩
  replace hE := hE.ext uk1
  replace hf := RFl.ext hf uk1
  replace hg := hg.ext stable_nd uk1
  replace hB_b := uk1.blk hB_b (fun h => h)
  replace hB_bg := uk1.blk hB_bg (fun h => h)
  obtain ⟨sa, sc, rfl, _, _⟩ := hOw.form
  refine WO.mem rfl rfl rfl (M.alloc (cs := _) Tryz.zeroValue24 rfl) ?_
  rintro _ wa2 ⟨bs, rfl, hg_bs, hs_bs, hB_bs, hk_bs⟩
  refine WO.mem0 rfl rfl (M.store Tryz.sizeOf24 rfl rfl rfl rfl hB_bs (by simp)) ?_
  rintro w_bs ⟨_, hB_bs, hkk_bs⟩
  replace hk_bs := hk_bs.trans hkk_bs (fun q hq h => by have h : q = bs := h; omega)
  have hn_b_bs : b ≠ bs := by have := hB_b.lt; omega
  have hn_bg_bs : bg ≠ bs := by have := hB_bg.lt; omega
  have hge_bs : _ ≤ bs := Nat.le_trans hE.size (Nat.le_of_eq hg_bs.symm)
  replace hE := hE.ext hk_bs
  replace hf := RFl.ext hf hk_bs
  replace hg := hg.ext stable_nd hk_bs
  replace hB_b := hk_bs.blk hB_b (fun h => h)
  replace hB_bg := hk_bs.blk hB_bg (fun h => h)
  refine WO.nr (WO.o rfl (R.fieldAddr Tryz.runUnderlying31 rfl Tryz.sizeOf29 rfl) (WO.o rfl (R.load Tryz.isAgg29 rfl (hB_bg.cells 0 _ rfl)) (WO.o rfl (R.lenS rfl Tryz.runUnderlying29 rfl) ?_)))
  have hgs := hg
  refine WO.mem rfl rfl rfl (M.make Tryz.underlying134 Tryz.el135 rfl rfl (by omega) (by omega) (made1 _ (cfgN f).length rfl)) ?_
  rintro _ w1 ⟨gb, rfl, hgb, hs1, hB1, hk1⟩
  replace hE := hE.ext hk1
  replace hf := RFl.ext hf hk1
  replace hg := hg.ext stable_nd hk1
  replace hB_b := hk1.blk hB_b (fun h => h)
  replace hB_bg := hk1.blk hB_bg (fun h => h)
  replace hB_bs := hk1.blk hB_bs (fun h => h)
  refine WO.mem rfl rfl rfl (M.alloc (cs := _) Tryz.zeroValue134 rfl) ?_
  rintro _ wa3 ⟨B, rfl, hg_B, hs_B, hB_B, hk_B⟩
  refine WO.mem0 rfl rfl (M.store Tryz.sizeOf134 rfl rfl rfl rfl hB_B (by simp)) ?_
  rintro w_B ⟨_, hB_B, hkk_B⟩
  replace hk_B := hk_B.trans hkk_B (fun q hq h => by have h : q = B := h; omega)
  have hn_b_B : b ≠ B := by have := hB_b.lt; omega
  have hn_bg_B : bg ≠ B := by have := hB_bg.lt; omega
  have hn_bs_B : bs ≠ B := by have := hB_bs.lt; omega
  have hge_B : _ ≤ B := Nat.le_trans hE.size (Nat.le_of_eq hg_B.symm)
  replace hE := hE.ext hk_B
  replace hf := RFl.ext hf hk_B
  replace hg := hg.ext stable_nd hk_B
  replace hB_b := hk_B.blk hB_b (fun h => h)
  replace hB_bg := hk_B.blk hB_bg (fun h => h)
  replace hB_bs := hk_B.blk hB_bs (fun h => h)
  replace hB1 := hk_B.blk hB1 (fun h => h)
  refine WO.nil (WX.next (WC.seq (WC.seq (WC.region (WO.o rfl (R.load Tryz.isAgg134 rfl (hB_B.cells 0 _ rfl)) (WO.o rfl (R.lenS rfl Tryz.runUnderlying134 rfl) (WO.mv rfl rfl (WO.nil (WX.next (WC.block ?_))))))))))
  have hgb0 : w.heap.size ≤ gb := by have := uk1.size; have := hE.size; omega
  have hBne : B ≠ gb := hB_B.ne hB1 (by decide)
  have hsne : bs ≠ gb := hB_bs.ne hB1 (by decide)
  have hbne : b ≠ gb := hB_b.ne hB1 (by decide)
  have hgne : bg ≠ gb := hB_bg.ne hB1 (by decide)
  have hOw1 := (hOw.ext stable_st hk_bs).ext stable_st (hk1.ext hk_B)
  refine WC.loop (σ := Nat × List Nat) (fun ⟨i, ms⟩ => [(2, .pointer (some ⟨b, 0, none⟩)), (3, .pointer (some ⟨bg, 0, none⟩)), (7, .pointer (some ⟨bs, 0, none⟩)), (8, .pointer (some ⟨B, 0, none⟩)), (38, .int .i64 (cfgN f).length), (39, .int .i64 i)]) (fun ⟨i, ms⟩ => fun w' => i ≤ (cfgN f).length ∧ ms.length = i ∧ ms.Nodup ∧ (∀ m ∈ ms, MapI w' m [] ∧ w.heap.size ≤ m) ∧ Blk w' gb ((ms.map fun m => Value.map (some m)) ++ List.replicate ((cfgN f).length - i) (.map none)) 135 ∧ Keep (fun q => q = gb) w_B w') (fun ⟨i, ms⟩ => (cfgN f).length - i) ((0, [])) (Sub.of rfl) (⟨Nat.zero_le _, rfl, List.Pairwise.nil, by simp, hB1, Keep.refl _ _⟩) ?_
  rintro ⟨i, ms⟩ x1 ⟨hi, hml, hmn, hmm, hBg, xK⟩
  show WC _ _ _ _ [(2, .pointer (some ⟨b, 0, none⟩)), (3, .pointer (some ⟨bg, 0, none⟩)), (7, .pointer (some ⟨bs, 0, none⟩)), (8, .pointer (some ⟨B, 0, none⟩)), (38, .int .i64 (cfgN f).length), (39, .int .i64 i)] _
  refine WC.sr (WO.o rfl (R.lss rfl rfl) (WO.nil (WX.next (WC.seq ?_))))
  refine WC.ite rfl (fun i1 => ?_) (fun i1 => ?_)
  ·
   refine WC.skip (WX.next (WC.seq (WC.block (WC.seq (WC.region (WO.mv rfl rfl (WO.a rfl rfl (WO.nil (WX.next (WC.region ?_))))))))))
   refine WO.o rfl (R.load Tryz.isAgg134 rfl ((xK.blk hB_B hBne).cells 0 _ rfl)) (WO.mv rfl rfl (WO.mem rfl rfl rfl (M.makeMap) ?_))
   rintro _ x2 ⟨m, rfl, hm, hms, hM, xk2⟩
   refine WO.o rfl (R.indexS Tryz.runUnderlying134 Tryz.sizeOf135 rfl rfl rfl (by omega)) ?_
   have hBg2 := xk2.blk hBg (fun h => h)
   refine WO.mem0 rfl rfl (M.store Tryz.sizeOf135 rfl rfl rfl rfl hBg2 (by rw [List.length_append, List.length_map, List.length_replicate, Int.toNat_natCast]; omega)) ?_
   rintro x3 hW3
   rw [Int.toNat_natCast, Nat.mul_one, Nat.zero_add, set_filled _ _ _ _ _ (by rw [List.length_map]; exact hml) (by omega)] at hW3
   have hne : ∀ m' : Nat, ∀ l, MapI x2 m' l → m' ≠ gb := fun m' l h e => h.ne hBg2 e.symm
   refine WO.nil (WX.blockN (WX.next (WC.region (WO.o rfl (R.add rfl rfl (wrap_i64_in (by omega))) (WO.mv rfl rfl (WO.nil (WX.back ((i + 1, ms ++ [m])) (Sub.of rfl) (⟨by omega, by rw [List.length_append, hml]; rfl, ?_, fun m' hm' => ?_, by rw [List.map_append]; exact hW3.2.1, (xK.ext xk2).trans hW3.2.2 (fun _ _ h => h)⟩) (by first | omega | (dsimp only; omega)))))))))
   ·
    rw [List.nodup_append]
    refine ⟨hmn, by simp, fun a ha c hc => ?_⟩
    rw [List.mem_singleton] at hc
    have := (hmm a ha).1.lt
    omega
   ·
    rcases List.mem_append.1 hm' with h | h
    · exact ⟨((hmm m' h).1.ext xk2).keep hW3.2.2 (hne _ _ ((hmm m' h).1.ext xk2)), (hmm m' h).2⟩
    ·
     rw [List.mem_singleton] at h
     subst h
     refine ⟨hM.keep hW3.2.2 (hne _ _ hM), ?_⟩
     have := xK.size; have := hE.size; omega
  ·
   obtain rfl : i = (cfgN f).length := by omega
   rw [Nat.sub_self, List.replicate_zero, List.append_nil] at hBg
   have hE1 : Ext w x1 := Keep.trans hE xK (fun q hq (h : q = gb) => by omega)
   have hRm : RmS x1 B gb ms (List.replicate ms.length []) := by
    refine ⟨List.length_replicate, by rw [hml]; exact xK.blk hB_B hBne, hBg, hmn, fun j m l hm hl => ?_⟩
    rw [List.eq_of_mem_replicate (List.mem_of_getElem? hl)]
    exact (hmm m (List.mem_of_getElem? hm)).1
   have hBb1 := xK.blk hB_b hbne
   have hBg1 := xK.blk hB_bg hgne
   have hBs1 := xK.blk hB_bs hsne
   have hf1 := rflKeepD hf xK (fun q hq (h : q = gb) => by have := hDw q hq; omega)
   have hg1 := hg.keep stable_nd xK (fun q hq _ (h : q = gb) => by have := hGw q hq; omega)
   have hO1 := hOw1.keep stable_st xK (fun q hq _ (h : q = gb) => by have := hDw q hq; omega) (fun gg hgg h => by obtain ⟨cs, hB⟩ := hOw1.ty hgg; exact hB.ne hB1 (by decide) h)
   have hmw : ∀ m ∈ ms, w.heap.size ≤ m := fun m hm => (hmm m hm).2
   refine WC.exit (WX.thenE (WX.thenE (WX.hit (WX.next (WC.seq (WC.region (WO.o rfl (R.makeFunc (fs := []) (cs := [_]) rfl rfl) (WO.mem rfl rfl rfl (M.alloc (cs := _) Tryz.zeroValue136 rfl) ?_))))))))
   rintro _ wa4 ⟨bv, rfl, hg_bv, hs_bv, hB_bv, hk_bv⟩
   refine WO.mem0 rfl rfl (M.store Tryz.sizeOf136 rfl rfl rfl rfl hB_bv (by simp)) ?_
   rintro w_bv ⟨_, hB_bv, hkk_bv⟩
   replace hk_bv := hk_bv.trans hkk_bv (fun q hq h => by have h : q = bv := h; omega)
   replace hE1 := hE1.ext hk_bv
   replace hRm := RmS.ext hRm hk_bv
   replace hBb1 := hk_bv.blk hBb1 (fun h => h)
   replace hBg1 := hk_bv.blk hBg1 (fun h => h)
   replace hBs1 := hk_bv.blk hBs1 (fun h => h)
   replace hf1 := RFl.ext hf1 hk_bv
   replace hg1 := hg1.ext stable_nd hk_bv
   replace hO1 := hO1.ext stable_st hk_bv
   refine WO.nr (WO.o rfl (R.makeFunc (fs := []) (cs := [_, _, _, _, _]) rfl rfl) (WO.a rfl rfl (WO.nil (WX.next (WC.seq (WC.seq (WC.region ?_)))))))
   refine WO.a rfl rfl (WO.nil (WX.next (WC.block ?_)))
   have hC0 : RcE D Dg f (cfgN f) w_bv b bg bs bv v1 v2 v3 (.slice ag (cfgN f).length cg) (.slice sa (preL f.body).length sc) := ⟨hBb1, hBg1, hBs1, hB_bv, hf1, hg1, hO1⟩
   obtain ⟨mx, hMM⟩ : ∃ mx, mx = (preL f.body).length + f.vars.length := ⟨_, rfl⟩
   have hrep : ∀ l ∈ List.replicate ms.length ([] : List (Int × Value)), l = [] := fun l hl => List.eq_of_mem_replicate hl
   refine WC.loop (σ := Sets × Bool) (fun ⟨Ls, ch⟩ => [(2, .pointer (some ⟨b, 0, none⟩)), (3, .pointer (some ⟨bg, 0, none⟩)), (7, .pointer (some ⟨bs, 0, none⟩)), (8, .pointer (some ⟨B, 0, none⟩)), (10, .pointer (some ⟨bv, 0, none⟩)), (11, .func (.func 82) #[] #[.pointer (some ⟨bg, 0, none⟩), .pointer (some ⟨b, 0, none⟩), .pointer (some ⟨bs, 0, none⟩), .pointer (some ⟨B, 0, none⟩), .pointer (some ⟨bv, 0, none⟩)]), (12, .bool ch)]) (fun ⟨Ls, ch⟩ => fun w' => KeysOk mx Ls ∧ SoundK f (cfgN f) Ls ∧ RmS w' B gb ms Ls ∧ RcE D Dg f (cfgN f) w' b bg bs bv v1 v2 v3 (.slice ag (cfgN f).length cg) (.slice sa (preL f.body).length sc) ∧ Ext w w' ∧ (ch = false → ∀ i, i < (cfgN f).length → ClosedAt f (cfgN f) Ls i)) (fun ⟨Ls, ch⟩ => 2 * ((cfgN f).length * mx - totL Ls) + (if ch then 1 else 0)) ((List.replicate ms.length [], true)) (Sub.of rfl) (⟨fun l hl => by rw [hrep l hl]; exact ⟨List.Pairwise.nil, by simp⟩, fun i l hl d hd => by rw [hrep l (List.mem_of_getElem? hl)] at hd; simp at hd, hRm, hC0, hE1, fun h => by cases h⟩) ?_
   rintro ⟨Ls, ch⟩ y0 ⟨hKo, hSo, hR, hC, hEy, hcl⟩
   show WC _ _ _ _ [(2, .pointer (some ⟨b, 0, none⟩)), (3, .pointer (some ⟨bg, 0, none⟩)), (7, .pointer (some ⟨bs, 0, none⟩)), (8, .pointer (some ⟨B, 0, none⟩)), (10, .pointer (some ⟨bv, 0, none⟩)), (11, .func (.func 82) #[] #[.pointer (some ⟨bg, 0, none⟩), .pointer (some ⟨b, 0, none⟩), .pointer (some ⟨bs, 0, none⟩), .pointer (some ⟨B, 0, none⟩), .pointer (some ⟨bv, 0, none⟩)]), (12, .bool ch)] _
   have hLl := hR.len
   have htot := totL_le hKo
   rw [hLl, hml] at htot
   refine WC.seq (WC.seq (WC.region (WO.mv rfl rfl (WO.nil (WX.next ?_)))))
   refine WC.bool rfl (fun c0 => ?_) (fun c0 => ?_)
   ·
    refine WC.skip (WX.next (WC.block (WC.seq (WC.region (WO.a rfl rfl (WO.nr (WO.o rfl (R.fieldAddr Tryz.runUnderlying31 rfl Tryz.sizeOf29 rfl) (WO.o rfl (R.load Tryz.isAgg29 rfl (hC.gbox.cells 0 _ rfl)) (WO.o rfl (R.lenS rfl Tryz.runUnderlying29 rfl) (WO.mv rfl rfl (WO.nil (WX.next (WC.block ?_)))))))))))))
    refine WC.loop (σ := Nat × Sets × Bool) (fun ⟨i, L1, c1⟩ => [(2, .pointer (some ⟨b, 0, none⟩)), (3, .pointer (some ⟨bg, 0, none⟩)), (7, .pointer (some ⟨bs, 0, none⟩)), (8, .pointer (some ⟨B, 0, none⟩)), (10, .pointer (some ⟨bv, 0, none⟩)), (11, .func (.func 82) #[] #[.pointer (some ⟨bg, 0, none⟩), .pointer (some ⟨b, 0, none⟩), .pointer (some ⟨bs, 0, none⟩), .pointer (some ⟨B, 0, none⟩), .pointer (some ⟨bv, 0, none⟩)]), (12, .bool c1), (51, .slice ag (cfgN f).length cg), (52, .int .i64 (cfgN f).length), (53, .int .i64 i)]) (fun ⟨i, L1, c1⟩ => fun w' => i ≤ (cfgN f).length ∧ KeysOk mx L1 ∧ SoundK f (cfgN f) L1 ∧ RmS w' B gb ms L1 ∧ RcE D Dg f (cfgN f) w' b bg bs bv v1 v2 v3 (.slice ag (cfgN f).length cg) (.slice sa (preL f.body).length sc) ∧ Ext w w' ∧ ProgK Ls L1 c1 (∀ j, j < i → ClosedAt f (cfgN f) Ls j)) (fun ⟨i, L1, c1⟩ => (cfgN f).length - i) ((0, Ls, false)) (Sub.of rfl) (⟨Nat.zero_le _, hKo, hSo, hR, hC, hEy, Nat.le_refl _, fun _ => ⟨rfl, fun j h => absurd h (Nat.not_lt_zero _)⟩, fun h => by cases h⟩) ?_
    rintro ⟨i, L1, c1⟩ y1 ⟨hi1, hK1, hS1, hR1, hC1, hE1, hP1⟩
    show WC _ _ _ _ [(2, .pointer (some ⟨b, 0, none⟩)), (3, .pointer (some ⟨bg, 0, none⟩)), (7, .pointer (some ⟨bs, 0, none⟩)), (8, .pointer (some ⟨B, 0, none⟩)), (10, .pointer (some ⟨bv, 0, none⟩)), (11, .func (.func 82) #[] #[.pointer (some ⟨bg, 0, none⟩), .pointer (some ⟨b, 0, none⟩), .pointer (some ⟨bs, 0, none⟩), .pointer (some ⟨B, 0, none⟩), .pointer (some ⟨bv, 0, none⟩)]), (12, .bool c1), (51, .slice ag (cfgN f).length cg), (52, .int .i64 (cfgN f).length), (53, .int .i64 i)] _
    refine WC.sr (WO.o rfl (R.lss rfl rfl) (WO.nil (WX.next (WC.seq ?_))))
    refine WC.ite rfl (fun i2 => ?_) (fun i2 => ?_)
    ·
     obtain ⟨x, hx⟩ : ∃ x, (cfgN f)[i]? = some x := ⟨_, List.getElem?_eq_getElem (by omega)⟩
     obtain ⟨xb, xo, xc, hxa, _, hxc, rfl⟩ := hC1.gs.at hx
     have hx1 : ∀ u ∈ [Value.int .i64 x.kind, .int .i64 x.at_, .int .i64 x.next, .int .i64 x.other], u.oneCell' = true := by simp [Value.oneCell']
     have hedge := V.edge hx
     obtain ⟨m0, l0, hm0, hl0, hM0⟩ := hR1.at (i := i) (by omega)
     have hl0K := hK1 l0 (List.mem_of_getElem? hl0)
     have hl0n := nodup_bound hl0K.1 (fun p hp => (hl0K.2 p hp).2)
     have hml1 := hR1.len
     refine WC.skip (WX.next (WC.seq (WC.block (WC.seq (WC.region (WO.mv rfl rfl (WO.o rfl (R.indexS Tryz.runUnderlying29 Tryz.sizeOf40 rfl rfl hxa (by omega)) (WO.o rfl (R.loadK Tryz.isAgg40 Tryz.sizeOf40 rfl (by rfl) hxc) (WO.mem rfl rfl rfl (M.alloc (cs := _) Tryz.zeroValue40 rfl) ?_)))))))))
     rintro _ wa5 ⟨c, rfl, hg_c, hs_c, hB_c, hk_c⟩
     refine WO.a rfl rfl (WO.mem0 rfl rfl (M.storeK Tryz.sizeOf40 rfl rfl rfl rfl hx1 hB_c (by simp)) ?_)
     rintro w_c ⟨_, hB_c, hkk_c⟩
     replace hk_c := hk_c.trans hkk_c (fun q hq h => by have h : q = c := h; omega)
     replace hE1 := hE1.ext hk_c
     replace hR1 := RmS.ext hR1 hk_c
     replace hC1 := RcE.ext hC1 hk_c
     refine WO.nr (WO.mv rfl rfl (WO.mv rfl rfl ?_))
     have hEc := Keep.refl (fun _ => False) w_c
     have hszc : ∀ m ∈ ms, m < w_c.heap.size := fun m hm => by obtain ⟨l, h⟩ := hR1.isMap hm; exact h.lt
     refine WO.call rfl rfl rfl (F.callV (vs := [_]) Tryz.call82 rfl rfl) (after_ok f (cfgN f) D Dg _ b bg bs bv B gb v1 v2 v3 _ _ ms L1 i x l0 hC1 hR1 hx hl0 (fun p hp => by have := (hl0K.2 p hp).2; omega) (by omega) (by omega) (by omega) hedge.2) ?_
     rintro _ wz6 ⟨⟨l, hlo, hlf, hlm, hll⟩, hz6⟩
     replace hE1 := hE1.ext hz6
     replace hR1 := RmS.ext hR1 hz6
     replace hC1 := RcE.ext hC1 hz6
     replace hB_c := hz6.blk hB_c (fun h => h)
     replace hEc := hEc.ext hz6
     obtain ⟨la, lc, rfl, _⟩ := own_slice hlo
     have hlsl0 : SlR 1 RInt (fun q => w_c.heap.size ≤ q) _ (.slice la l.length lc) l := SlR.ofRow1 encI1 (fun x _ => rfl) hlo hlf
     have hlmx := hlsl0.max
     refine WO.a rfl rfl (WO.nr (WO.o rfl (R.fieldAddr Tryz.runUnderlying40 rfl Tryz.sizeOf3 rfl) (WO.o rfl (R.load Tryz.isAgg3 rfl (hB_c.cells 2 _ rfl)) (WO.o rfl (R.fieldAddr Tryz.runUnderlying40 rfl Tryz.sizeOf3 rfl) (WO.o rfl (R.load Tryz.isAgg3 rfl (hB_c.cells 3 _ rfl)) ?_)))))
     have hsEc := hEc.size
     refine WO.mem rfl rfl rfl (M.buildSlice (cs := [.int .i64 x.next, .int .i64 x.other]) [(0, _), (1, _)] Tryz.runUnderlying50 Tryz.sizeOf3 Tryz.zeroValue3 (by decide) rfl (by kernel_rfl)) ?_
     rintro _ w_g2 ⟨g2, rfl, hg_g2, hs_g2, hB_g2, hk_g2⟩
     have hn_c_g2 : c ≠ g2 := by have := hB_c.lt; omega
     replace hE1 := hE1.ext hk_g2
     replace hR1 := RmS.ext hR1 hk_g2
     replace hC1 := RcE.ext hC1 hk_g2
     replace hB_c := hk_g2.blk hB_c (fun h => h)
     replace hEc := hEc.ext hk_g2
     replace hlsl0 := hlsl0.ext stable_int hk_g2
     have htsl0 : SlR 1 RInt (fun q => w_c.heap.size ≤ q) w_g2 (.slice (some ⟨g2, 0, none⟩) 2 2) [x.next, x.other] := SlR.ofRow1 encI1 (fun x _ => rfl) (own_blk (k := 1) (n := 2) (cap := 2) hB_g2 (Nat.le_refl _) (by decide) rfl) (fun q hq => by obtain rfl : g2 = q := Option.some.inj hq; omega)
     have hfact : ∀ to, (to = x.next ∨ to = x.other) → 0 ≤ to → ∀ d ∈ l, Rch f (cfgN f) to d := fun to ht h0 d hd => Rch.step hx ht h0 (((hlm d).1 hd).imp id (fun h => ⟨hS1 i l0 hl0 d h.1, h.2⟩))
     have hrange : ∀ d ∈ l, 0 ≤ d ∧ d < mx := fun d hd => by
      rcases (hlm d).1 hd with (h | h) | h
      · omega
      ·
       have h2 : x.kind = 2 := by have := h.2.1; unfold asgB at this; simp at this; exact this.1
       have := hedge.2 h2
       have := h.2.2
       omega
      ·
       obtain ⟨p, hp, e⟩ := List.mem_map.1 h.1
       rw [← e]; exact (hl0K.2 p hp).2
     have hclo : L1 = Ls → (∀ to ∈ [x.next, x.other], 0 ≤ to → ∀ d ∈ l, HasK Ls to d) → ClosedAt f (cfgN f) Ls i := fun e h y hy to ht h0 d hd => by
      rw [hx] at hy; cases hy
      refine h to (by simp; exact ht) h0 d ((hlm d).2 (hd.imp id (fun h => ⟨?_, h.2⟩)))
      obtain ⟨q, hq, hdq⟩ := h.1
      rw [Int.toNat_natCast, ← e, hl0] at hq
      cases hq; exact hdq
     refine WO.o rfl (R.lenS rfl Tryz.runUnderlying50 rfl) (WO.mv rfl rfl (WO.nil (WX.next (WC.block ?_))))
     refine WC.loop (σ := Nat × Sets × Bool) (fun ⟨j, L2, c2⟩ => [(2, .pointer (some ⟨b, 0, none⟩)), (3, .pointer (some ⟨bg, 0, none⟩)), (7, .pointer (some ⟨bs, 0, none⟩)), (8, .pointer (some ⟨B, 0, none⟩)), (10, .pointer (some ⟨bv, 0, none⟩)), (11, .func (.func 82) #[] #[.pointer (some ⟨bg, 0, none⟩), .pointer (some ⟨b, 0, none⟩), .pointer (some ⟨bs, 0, none⟩), .pointer (some ⟨B, 0, none⟩), .pointer (some ⟨bv, 0, none⟩)]), (12, .bool c2), (15, .slice la l.length lc), (51, .slice ag (cfgN f).length cg), (52, .int .i64 (cfgN f).length), (53, .int .i64 i), (65, .slice (some ⟨g2, 0, none⟩) 2 2), (66, .int .i64 2), (67, .int .i64 j)]) (fun ⟨j, L2, c2⟩ => fun w' => j ≤ 2 ∧ KeysOk mx L2 ∧ SoundK f (cfgN f) L2 ∧ RmS w' B gb ms L2 ∧ RcE D Dg f (cfgN f) w' b bg bs bv v1 v2 v3 (.slice ag (cfgN f).length cg) (.slice sa (preL f.body).length sc) ∧ Ext w w' ∧ SlR 1 RInt (fun q => w_c.heap.size ≤ q) w' (.slice la l.length lc) l ∧ SlR 1 RInt (fun q => w_c.heap.size ≤ q) w' (.slice (some ⟨g2, 0, none⟩) 2 2) [x.next, x.other] ∧ ProgK Ls L2 c2 (L1 = Ls ∧ (∀ k, k < i → ClosedAt f (cfgN f) Ls k) ∧ ∀ to ∈ [x.next, x.other].take j, 0 ≤ to → ∀ d ∈ l, HasK Ls to d)) (fun ⟨j, L2, c2⟩ => 2 - j) ((0, L1, c1)) (Sub.of rfl) (⟨by omega, hK1, hS1, hR1, hC1, hE1, hlsl0, htsl0, hP1.imp (fun e _ h => ⟨e, h, by simp⟩)⟩) ?_
     rintro ⟨j, L2, c2⟩ y2 ⟨hj, hK2, hS2, hR2, hC2, hE2, hls2, hts2, hP2⟩
     show WC _ _ _ _ [(2, .pointer (some ⟨b, 0, none⟩)), (3, .pointer (some ⟨bg, 0, none⟩)), (7, .pointer (some ⟨bs, 0, none⟩)), (8, .pointer (some ⟨B, 0, none⟩)), (10, .pointer (some ⟨bv, 0, none⟩)), (11, .func (.func 82) #[] #[.pointer (some ⟨bg, 0, none⟩), .pointer (some ⟨b, 0, none⟩), .pointer (some ⟨bs, 0, none⟩), .pointer (some ⟨B, 0, none⟩), .pointer (some ⟨bv, 0, none⟩)]), (12, .bool c2), (15, .slice la l.length lc), (51, .slice ag (cfgN f).length cg), (52, .int .i64 (cfgN f).length), (53, .int .i64 i), (65, .slice (some ⟨g2, 0, none⟩) 2 2), (66, .int .i64 2), (67, .int .i64 j)] _
     refine WC.sr (WO.o rfl (R.lss rfl rfl) (WO.nil (WX.next (WC.seq ?_))))
     refine WC.ite rfl (fun j2 => ?_) (fun j2 => ?_)
     ·
      obtain ⟨to, hto⟩ : ∃ to, [x.next, x.other][j]? = some to := ⟨_, List.getElem?_eq_getElem (by simp; omega)⟩
      have htm : to = x.next ∨ to = x.other := by have := List.mem_of_getElem? hto; simpa using this
      have htr := hedge.1 to htm
      obtain ⟨tb, tof, tc, hta, _, htc, htr'⟩ := hts2.at hto
      obtain rfl := htr'
      refine WC.skip (WX.next (WC.seq (WC.block (WC.seq (WC.region (WO.o rfl (R.indexS Tryz.runUnderlying50 Tryz.sizeOf3 rfl rfl hta (by omega)) (WO.o rfl (R.load Tryz.isAgg3 rfl (htc 0 _ rfl)) (WO.a rfl rfl (WO.nr (WO.mv rfl rfl (WO.o rfl (R.lenS rfl Tryz.runUnderlying50 rfl) (WO.mv rfl rfl (WO.nil (WX.next (WC.block ?_)))))))))))))))
      refine WC.loop (σ := Nat × Sets × Bool) (fun ⟨k, L3, c3⟩ => [(2, .pointer (some ⟨b, 0, none⟩)), (3, .pointer (some ⟨bg, 0, none⟩)), (7, .pointer (some ⟨bs, 0, none⟩)), (8, .pointer (some ⟨B, 0, none⟩)), (10, .pointer (some ⟨bv, 0, none⟩)), (11, .func (.func 82) #[] #[.pointer (some ⟨bg, 0, none⟩), .pointer (some ⟨b, 0, none⟩), .pointer (some ⟨bs, 0, none⟩), .pointer (some ⟨B, 0, none⟩), .pointer (some ⟨bv, 0, none⟩)]), (12, .bool c3), (15, .slice la l.length lc), (51, .slice ag (cfgN f).length cg), (52, .int .i64 (cfgN f).length), (53, .int .i64 i), (65, .slice (some ⟨g2, 0, none⟩) 2 2), (66, .int .i64 2), (67, .int .i64 j), (17, .int .i64 to), (71, .slice la l.length lc), (72, .int .i64 l.length), (73, .int .i64 k)]) (fun ⟨k, L3, c3⟩ => fun w' => k ≤ l.length ∧ KeysOk mx L3 ∧ SoundK f (cfgN f) L3 ∧ RmS w' B gb ms L3 ∧ RcE D Dg f (cfgN f) w' b bg bs bv v1 v2 v3 (.slice ag (cfgN f).length cg) (.slice sa (preL f.body).length sc) ∧ Ext w w' ∧ SlR 1 RInt (fun q => w_c.heap.size ≤ q) w' (.slice la l.length lc) l ∧ SlR 1 RInt (fun q => w_c.heap.size ≤ q) w' (.slice (some ⟨g2, 0, none⟩) 2 2) [x.next, x.other] ∧ ProgK Ls L3 c3 ((L1 = Ls ∧ (∀ k, k < i → ClosedAt f (cfgN f) Ls k) ∧ ∀ to ∈ [x.next, x.other].take j, 0 ≤ to → ∀ d ∈ l, HasK Ls to d) ∧ ∀ d ∈ l.take k, 0 ≤ to → HasK Ls to d)) (fun ⟨k, L3, c3⟩ => l.length - k) ((0, L2, c2)) (Sub.of rfl) (⟨Nat.zero_le _, hK2, hS2, hR2, hC2, hE2, hls2, hts2, hP2.imp (fun e _ h => ⟨h, by simp⟩)⟩) ?_
      rintro ⟨k, L3, c3⟩ y3 ⟨hk, hK3, hS3, hR3, hC3, hE3, hls3, hts3, hP3⟩
      show WC _ _ _ _ [(2, .pointer (some ⟨b, 0, none⟩)), (3, .pointer (some ⟨bg, 0, none⟩)), (7, .pointer (some ⟨bs, 0, none⟩)), (8, .pointer (some ⟨B, 0, none⟩)), (10, .pointer (some ⟨bv, 0, none⟩)), (11, .func (.func 82) #[] #[.pointer (some ⟨bg, 0, none⟩), .pointer (some ⟨b, 0, none⟩), .pointer (some ⟨bs, 0, none⟩), .pointer (some ⟨B, 0, none⟩), .pointer (some ⟨bv, 0, none⟩)]), (12, .bool c3), (15, .slice la l.length lc), (51, .slice ag (cfgN f).length cg), (52, .int .i64 (cfgN f).length), (53, .int .i64 i), (65, .slice (some ⟨g2, 0, none⟩) 2 2), (66, .int .i64 2), (67, .int .i64 j), (17, .int .i64 to), (71, .slice la l.length lc), (72, .int .i64 l.length), (73, .int .i64 k)] _
      refine WC.sr (WO.o rfl (R.lss rfl rfl) (WO.nil (WX.next (WC.seq ?_))))
      refine WC.ite rfl (fun k2 => ?_) (fun k2 => ?_)
      ·
       obtain ⟨d, hd⟩ : ∃ d, l[k]? = some d := ⟨_, List.getElem?_eq_getElem (by omega)⟩
       have hdm := List.mem_of_getElem? hd
       have hdr := hrange d hdm
       obtain ⟨db, dof, dc, hda, _, hdc, hdr'⟩ := hls3.at hd
       obtain rfl := hdr'
       have htake : ∀ {X : Prop}, (∀ e ∈ l.take k, X → HasK Ls to e) → (X → HasK Ls to d) → ∀ e ∈ l.take (k + 1), X → HasK Ls to e := fun h1 h2 e he hX => by
        rw [take_get hd, List.mem_append, List.mem_singleton] at he
        rcases he with he | he
        · exact h1 e he hX
        · rw [he]; exact h2 hX
       refine WC.skip (WX.next (WC.seq (WC.block (WC.seq (WC.region (WO.o rfl (R.indexS Tryz.runUnderlying50 Tryz.sizeOf3 rfl rfl hda (by omega)) (WO.o rfl (R.load Tryz.isAgg3 rfl (hdc 0 _ rfl)) (WO.a rfl rfl (WO.nr (WO.mv rfl rfl (WO.o rfl (R.geq rfl rfl) (WO.mv rfl rfl (WO.splitP (d := 79) rfl (fun p1 => ?_) (fun p1 => ?_))))))))))))))
       ·
        have hR3l := hR3.len
        obtain ⟨mt, lt, hmt, hlt, hMt⟩ := hR3.at (i := to.toNat) (by omega)
        have hgetm := getM_true hK3 (List.mem_of_getElem? hlt) d
        refine WO.yes rfl rfl (dT p1) (WO.o rfl (R.load Tryz.isAgg134 rfl (hR3.box.cells 0 _ rfl)) (WO.yes rfl rfl (dT p1) (WO.mv rfl rfl (WO.yes rfl rfl (dT p1) (WO.o rfl (R.indexS Tryz.runUnderlying134 Tryz.sizeOf135 rfl rfl rfl (by omega)) (WO.yes rfl rfl (dT p1) (WO.o rfl (R.load Tryz.isAgg135 rfl (hR3.cell (k := to) hmt)) (WO.yes rfl rfl (dT p1) (WO.mv rfl rfl (WO.yes rfl rfl (dT p1) (WO.o rfl (R.lookupI hMt Tryz.underlying135 Tryz.underlying3 Tryz.zeroValue4 rfl rfl) ?_)))))))))))
        rw [hgetm]
        refine WO.yes rfl rfl (dT p1) (WO.o rfl (R.notU rfl (by first | exact not_decide_eq | rfl)) (WO.o rfl (R.pickT rfl (dT p1) rfl) (WO.nil (WX.next ?_))))
        refine WC.bool rfl (fun q1 => ?_) (fun q1 => ?_)
        ·
         have hnd : d ∉ lt.map (·.1) := by simpa using q1
         have hadd := addK (f := f) (g := cfgN f) hlt hnd hK3 hS3 hdr (by rw [show ((to.toNat : Nat) : Int) = to by omega]; exact hfact to htm p1 d hdm)
         refine WC.sr (WO.o rfl (R.load Tryz.isAgg134 rfl (hR3.box.cells 0 _ rfl)) (WO.mv rfl rfl (WO.o rfl (R.indexS Tryz.runUnderlying134 Tryz.sizeOf135 rfl rfl rfl (by omega)) (WO.o rfl (R.load Tryz.isAgg135 rfl (hR3.cell (k := to) hmt)) (WO.mv rfl rfl (WO.mem0 rfl rfl (M.update hMt Tryz.underlying135 Tryz.underlying3 rfl rfl rfl) ?_))))))
         rintro z1 ⟨hMt2, zk1, zs1⟩
         have hmtm := List.mem_of_getElem? hmt
         have hmtw := hmw mt hmtm
         have hmtc := hszc mt hmtm
         refine WO.nil (WX.next (WC.region (WO.a rfl rfl (WO.nil (WX.blockN (WX.next (WC.region ?_)))))))
         refine WO.o rfl (R.add rfl rfl (wrap_i64_in (by omega))) (WO.mv rfl rfl (WO.nil (WX.back ((k + 1, L3.set to.toNat (setM lt d (.bool true)), true)) (Sub.of rfl) (⟨by omega, hadd.1, hadd.2.1, hR3.upd hmt hlt hMt2 zk1, hC3.keep zk1 (fun q hq (h : q = mt) => by have := hDw q hq; omega) (fun q hq (h : q = mt) => by have := hGw q hq; omega) (fun q (h : q = mt) => ⟨lt, by rw [h]; exact hMt⟩), Keep.trans hE3 zk1 (fun q hq (h : q = mt) => by omega), hls3.keep stable_int zk1 (fun q hq _ (h : q = mt) => by omega), hts3.keep stable_int zk1 (fun q hq _ (h : q = mt) => by omega), hP3.grow hadd.2.2⟩) (by first | omega | (dsimp only; omega)))))
        ·
         have hin : d ∈ lt.map (·.1) := by simpa using q1
         refine WC.skip (WX.blockN (WX.next (WC.region (WO.o rfl (R.add rfl rfl (wrap_i64_in (by omega))) (WO.mv rfl rfl (WO.nil (WX.back ((k + 1, L3, c3)) (Sub.of rfl) (⟨by omega, hK3, hS3, hR3, hC3, hE3, hls3, hts3, hP3.imp (fun e _ h => ⟨h.1, htake h.2 (fun _ => ⟨lt, by rw [← e]; exact hlt, hin⟩)⟩)⟩) (by first | omega | (dsimp only; omega)))))))))
       ·
        refine WO.no rfl rfl (dF p1) rfl (WO.no rfl rfl (dF p1) rfl (WO.no rfl rfl (dF p1) rfl (WO.no rfl rfl (dF p1) rfl (WO.no rfl rfl (dF p1) rfl (WO.no rfl rfl (dF p1) rfl (WO.no rfl rfl (dF p1) rfl (WO.o rfl (R.pickF rfl (dF p1) rfl) (WO.nil (WX.next ?_)))))))))
        refine WC.ff rfl (rfl) (WC.skip (WX.blockN (WX.next (WC.region ?_))))
        refine WO.o rfl (R.add rfl rfl (wrap_i64_in (by omega))) (WO.mv rfl rfl (WO.nil (WX.back ((k + 1, L3, c3)) (Sub.of rfl) (⟨by omega, hK3, hS3, hR3, hC3, hE3, hls3, hts3, hP3.imp (fun e _ h => ⟨h.1, htake h.2 (fun h0 => absurd h0 (by omega))⟩)⟩) (by first | omega | (dsimp only; omega)))))
      ·
       obtain rfl : k = l.length := by omega
       refine WC.exit (WX.thenE (WX.thenE (WX.hit (WX.blockN (WX.next (WC.region (WO.o rfl (R.add rfl rfl (wrap_i64_in (by omega))) (WO.mv rfl rfl (WO.nil (WX.back ((j + 1, L3, c3)) (Sub.of rfl) (⟨by omega, hK3, hS3, hR3, hC3, hE3, hls3, hts3, hP3.imp (fun e _ h => ⟨h.1.1, h.1.2.1, fun t ht h0 e he => ?_⟩)⟩) (by first | omega | (dsimp only; omega))))))))))))
       rw [take_get hto, List.mem_append, List.mem_singleton] at ht
       rcases ht with ht | ht
       · exact h.1.2.2 t ht h0 e he
       ·
        rw [ht] at h0 ⊢
        exact h.2 e (by rw [List.take_length]; exact he) h0
     ·
      obtain rfl : j = 2 := by omega
      refine WC.exit (WX.thenE (WX.thenE (WX.hit (WX.blockN (WX.next (WC.region (WO.o rfl (R.add rfl rfl (wrap_i64_in (by omega))) (WO.mv rfl rfl (WO.nil (WX.back ((i + 1, L2, c2)) (Sub.of rfl) (⟨by omega, hK2, hS2, hR2, hC2, hE2, hP2.imp (fun e _ h => fun k hk => ?_)⟩) (by first | omega | (dsimp only; omega))))))))))))
      rcases Nat.lt_or_ge k i with h3 | h3
      · exact h.2.1 k h3
      ·
       obtain rfl : k = i := by omega
       exact hclo h.1 h.2.2
    ·
     obtain rfl : i = (cfgN f).length := by omega
     have hml1 := hR1.len
     have htot1 := totL_le hK1
     rw [hml1, hml] at htot1
     refine WC.exit (WX.thenE (WX.thenE (WX.hit (WX.blockN ?_))))
     have hmu : 2 * ((cfgN f).length * mx - totL L1) + (if c1 then 1 else 0) < 2 * ((cfgN f).length * mx - totL Ls) + (if ch then 1 else 0) := by
      have h1 := hP1.1
      rw [c0]
      cases hc : c1 with
      | false => have := (hP1.2.1 hc).1; rw [this]; simp
      | true => have := hP1.2.2 hc; simp; omega
     refine WX.back ((L1, c1)) (Sub.of rfl) (⟨hK1, hS1, hR1, hC1, hE1, fun h => ?_⟩) (hmu)
     obtain ⟨e, h2⟩ := hP1.2.1 h
     rw [e]; exact h2
   ·
    have hall := hcl c0
    have hmsw : ∀ m ∈ ms, m < y0.heap.size := fun m hm => by obtain ⟨l, h⟩ := hR.isMap hm; exact h.lt
    have hRk : ∀ {w' : World}, Keep (fun q => y0.heap.size ≤ q) y0 w' → RmS w' B gb ms Ls := fun hk => hR.keep hk (fun h => by have := hR.box.lt; omega) (fun h => by have := hR.row.lt; omega) (fun m hm h => by have := hmsw m hm; omega)
    have hy0w := hEy.size
    refine WC.exit (WX.thenE (WX.thenE (WX.hit (WX.next (WC.seq (WC.region (WO.o rfl (R.load Tryz.isAgg134 rfl (hR.box.cells 0 _ rfl)) (WO.o rfl (R.lenS rfl Tryz.runUnderlying134 rfl) (WO.mem rfl rfl rfl (M.make Tryz.underlying70 Tryz.el50 rfl rfl (by omega) (by omega) (made1 _ ms.length rfl)) ?_)))))))))
    rintro _ z1 ⟨bo, rfl, hbo, hs1', hBo, zk1⟩
    have hMt1 : Mat (Value.int .i64) 3 50 y0.heap.size z1 bo (List.replicate ms.length (.slice none 0 0)) (List.replicate ms.length ([] : List Int)) := Mat.start hBo
    have hKz1 : Keep (fun q => y0.heap.size ≤ q) y0 z1 := Keep.mono zk1 (fun _ _ h => h.elim)
    refine WO.a rfl rfl (WO.nil (WX.next (WC.seq (WC.seq (WC.region ?_)))))
    refine WO.o rfl (R.load Tryz.isAgg134 rfl ((hRk hKz1).box.cells 0 _ rfl)) (WO.o rfl (R.lenS rfl Tryz.runUnderlying134 rfl) (WO.mv rfl rfl (WO.nil (WX.next (WC.block ?_)))))
    refine WC.loop (σ := Nat × List Value × List (List Int)) (fun ⟨i, rv, rows⟩ => [(20, .slice (some ⟨bo, 0, none⟩) ms.length ms.length), (99, .slice (some ⟨gb, 0, none⟩) ms.length ms.length), (100, .int .i64 ms.length), (101, .int .i64 i)]) (fun ⟨i, rv, rows⟩ => fun w' => i ≤ ms.length ∧ rows.length = ms.length ∧ Mat (Value.int .i64) 3 50 y0.heap.size w' bo rv rows ∧ Keep (fun q => y0.heap.size ≤ q) y0 w' ∧ (∀ (j : Nat) r, rows[j]? = some r → (j < i → r.Pairwise (· < ·) ∧ ∀ d, d ∈ r ↔ Rch f (cfgN f) j d) ∧ (i ≤ j → r = []))) (fun ⟨i, rv, rows⟩ => ms.length - i) ((0, List.replicate ms.length (.slice none 0 0), List.replicate ms.length [])) (Sub.of rfl) (⟨Nat.zero_le _, List.length_replicate, hMt1, hKz1, fun j r hr => ⟨fun h => absurd h (Nat.not_lt_zero _), fun _ => List.eq_of_mem_replicate (List.mem_of_getElem? hr)⟩⟩) ?_
    rintro ⟨i, rv, rows⟩ z2 ⟨hi2, hrl, hMt, hKz, hrows⟩
    show WC _ _ _ _ [(20, .slice (some ⟨bo, 0, none⟩) ms.length ms.length), (99, .slice (some ⟨gb, 0, none⟩) ms.length ms.length), (100, .int .i64 ms.length), (101, .int .i64 i)] _
    have hRz := hRk hKz
    refine WC.sr (WO.o rfl (R.lss rfl rfl) (WO.nil (WX.next (WC.seq ?_))))
    refine WC.ite rfl (fun i3 => ?_) (fun i3 => ?_)
    ·
     obtain ⟨m, l, hm, hl, hM⟩ := hRz.at (i := i) (by omega)
     have hlK := hKo l (List.mem_of_getElem? hl)
     have hln := nodup_bound hlK.1 (fun p hp => (hlK.2 p hp).2)
     obtain ⟨r0, hr0⟩ : ∃ r0, rows[i]? = some r0 := ⟨_, List.getElem?_eq_getElem (by omega)⟩
     obtain rfl := (hrows i r0 hr0).2 (Nat.le_refl _)
     refine WC.skip (WX.next (WC.seq (WC.block (WC.seq (WC.region (WO.mv rfl rfl (WO.o rfl (R.indexS Tryz.runUnderlying134 Tryz.sizeOf135 rfl rfl rfl (by omega)) (WO.o rfl (R.load Tryz.isAgg135 rfl (hRz.cell (k := (i : Int)) hm)) (WO.a rfl rfl (WO.a rfl rfl (WO.nil (WX.next (WC.seq (WC.seq (WC.region ?_)))))))))))))))
     refine WO.mv rfl rfl (WO.mem rfl rfl rfl (M.range hM Tryz.underlying135 rfl) ?_)
     rintro _ z3 ⟨it, rfl, hit, hRan, zk3, zs3⟩
     have hitw : y0.heap.size ≤ it := by have := hKz.size; omega
     have hKz3 := hKz.ext zk3
     refine WO.nil (WX.next (WC.block (WC.loop (σ := List Int × Option (Int × Value) × List Value) (fun ⟨seen, cur, rv1⟩ => [(20, .slice (some ⟨bo, 0, none⟩) ms.length ms.length), (21, .int .i64 i), (99, .slice (some ⟨gb, 0, none⟩) ms.length ms.length), (100, .int .i64 ms.length), (101, .int .i64 i), (107, .pointer (some ⟨it, 0, none⟩))]) (fun ⟨seen, cur, rv1⟩ => fun w' => RanI w' it m l seen cur ∧ Mat (Value.int .i64) 3 50 y0.heap.size w' bo rv1 (rows.set i seen) ∧ Keep (fun q => y0.heap.size ≤ q) y0 w') (fun ⟨seen, cur, rv1⟩ => l.length - seen.length) (([], none, rv)) (Sub.of rfl) (⟨hRan, by rw [set_self_at hr0]; exact hMt.ext zk3, hKz3⟩) ?_)))
     rintro ⟨seen, cur, rv1⟩ z4 ⟨hRn, hMt4, hKz4⟩
     show WC _ _ _ _ [(20, .slice (some ⟨bo, 0, none⟩) ms.length ms.length), (21, .int .i64 i), (99, .slice (some ⟨gb, 0, none⟩) ms.length ms.length), (100, .int .i64 ms.length), (101, .int .i64 i), (107, .pointer (some ⟨it, 0, none⟩))] _
     have hsl0 := hRn.len
     have hset : (rows.set i seen)[i]? = some seen := List.getElem?_set_self (by omega)
     obtain ⟨v, r', hv, hr'⟩ := hMt4.at (i := i) (by rw [List.length_set]; omega)
     have hMne : ∀ (j : Nat) u q, rv1[j]? = some u → u.ownBlock = some q → q ≠ it := fun j u q hu hq h => by
      obtain ⟨r, hr⟩ : ∃ r, (rows.set i seen)[j]? = some r := ⟨_, List.getElem?_eq_getElem (by rw [← hMt4.len]; exact (List.getElem?_eq_some_iff.1 hu).1)⟩
      obtain ⟨cs', hb'⟩ := own_blkty (hMt4.row j u r hu hr) hq
      exact hRn.neB hb' h
     have hown := hMt4.row i v seen hv hset
     obtain ⟨va, vc, rfl, _⟩ := own_slice hown
     refine WC.sr (WO.mem rfl rfl rfl (M.next hRn rfl) ?_)
     rintro u z5 (⟨rfl, rfl, hallk⟩ | ⟨k, v5, rfl, hgk, hns, hR5, zk5, zs5⟩)
     ·
      refine WO.o rfl (R.extract rfl rfl) (WO.nil (WX.next (WC.seq ?_)))
      refine WC.ff rfl (rfl) (WC.exit (WX.thenE (WX.thenE (WX.hit (WX.next (WC.region ?_))))))
      refine WO.mv rfl rfl (WO.mv rfl rfl (WO.o rfl (R.indexS Tryz.runUnderlying70 Tryz.sizeOf50 rfl rfl rfl (by omega)) (WO.o rfl (R.load Tryz.isAgg50 rfl (by have := hMt4.out.cells i _ hv; rw [Int.toNat_natCast, Nat.mul_one]; exact this)) (WO.call rfl rfl rfl (F.call (vs := [_]) Tryz.call83 rfl) (sortI_ok seen _ _ _ hown (by omega)) ?_))))
      rintro _ z6 ⟨rfl, ho6, zk6⟩
      have hMt6 := hMt4.inplace (r' := sortL seen) hv (by rw [sortL_len]; exact ho6) zk6
      rw [List.set_set] at hMt6
      have hfar : ∀ q, Value.ownBlock (.slice va seen.length vc) = some q → y0.heap.size ≤ q := fun q hq => (hMt4.far i _ q hv hq).1
      refine WO.nil (WX.blockN (WX.next (WC.region (WO.o rfl (R.add rfl rfl (wrap_i64_in (by omega))) (WO.mv rfl rfl (WO.nil (WX.back ((i + 1, rv1, rows.set i (sortL seen))) (Sub.of rfl) (⟨by omega, by rw [List.length_set]; exact hrl, hMt6, hKz4.trans zk6 (fun q _ hq => hfar q hq), fun j r hr => ?_⟩) (by first | omega | (dsimp only; omega)))))))))
      by_cases hij : i = j
      ·
       subst hij
       rw [List.getElem?_set_self (by omega)] at hr
       cases hr
       refine ⟨fun _ => ⟨strict_of (sortL_sorted seen) ?_, fun d => ?_⟩, fun h => absurd h (by omega)⟩
       ·
        obtain ⟨es, c, since, sb, c0', h1, h2, h3, h4, h5, h6, h7, h8, h9, h10, _⟩ := hRn
        exact (List.mergeSort_perm seen _).nodup_iff.2 h10
       ·
        rw [sortL_mem]
        constructor
        ·
         intro h
         exact hSo i l hl d (ran_seen hRn h)
        ·
         intro h
         obtain ⟨q, hq, hdq⟩ := closed_all hall h
         rw [Int.toNat_natCast, hl] at hq
         cases hq
         obtain ⟨p, hp, e⟩ := List.mem_map.1 hdq
         rw [← e]; exact hallk p hp
      ·
       rw [List.getElem?_set_ne hij] at hr
       have := hrows j r hr
       exact ⟨fun h => this.1 (by omega), fun h => this.2 (by omega)⟩
     ·
      refine WO.o rfl (R.extract rfl rfl) (WO.nil (WX.next (WC.seq ?_)))
      refine WC.tt rfl (rfl) (WC.skip (WX.next (WC.block (WC.seq (WC.region ?_)))))
      refine WO.o rfl (R.entry hR5 rfl) ?_
      have hR5l := hR5.len
      rw [List.length_append, List.length_singleton] at hR5l
      have hMt5 := hMt4.keep zk5 (fun (h : bo = it) => hRn.neB hMt4.out h) (fun j u q hu hq h => hMne j u q hu hq h)
      have hown5 := hMt5.row i _ seen hv hset
      refine WO.o rfl (R.extract rfl rfl) (WO.a rfl rfl (WO.nil (WX.next (WC.region ?_))))
      refine WO.mv rfl rfl (WO.mv rfl rfl (WO.mv rfl rfl (WO.mv rfl rfl (WO.o rfl (R.indexS Tryz.runUnderlying70 Tryz.sizeOf50 rfl rfl rfl (by omega)) (WO.o rfl (R.load Tryz.isAgg50 rfl (by have := hMt5.out.cells i _ hv; rw [Int.toNat_natCast, Nat.mul_one]; exact this)) (WO.mv rfl rfl (WO.mem rfl rfl rfl (M.buildSlice (cs := [.int .i64 k]) [(0, _)] Tryz.runUnderlying50 Tryz.sizeOf3 Tryz.zeroValue3 (by decide) rfl (by kernel_rfl)) ?_)))))))
      rintro _ z6 ⟨g6, rfl, hg6, hs6, hB6, zk6⟩
      have hMt6 := hMt5.ext zk6
      have hown6 := hMt6.row i _ seen hv hset
      have hR6 := hR5.keep zk6 (fun h => h) (fun h => h)
      refine WO.mem rfl rfl rfl (M.append Tryz.underlying50 Tryz.el3 rfl (by decide) rfl rfl hown6 rfl (Cells.add hB6.cells) (by simp [Value.oneCell']) (by omega) (by omega)) ?_
      rintro vo' z7 ⟨ho7, hf7, zk7, _⟩
      obtain ⟨oa, oc, rfl, _⟩ := own_slice ho7
      refine WO.o rfl (R.indexS Tryz.runUnderlying70 Tryz.sizeOf50 rfl rfl rfl (by omega)) ?_
      have hfar : ∀ q, Value.ownBlock (.slice va seen.length vc) = some q → y0.heap.size ≤ q ∧ q ≠ bo := fun q hq => hMt4.far i _ q hv hq
      have hmy := hmsw m (List.mem_of_getElem? hm)
      refine WO.mem0 rfl rfl (M.store Tryz.sizeOf50 rfl rfl rfl rfl (zk7.blk hMt6.out (fun h => (hfar bo h).2 rfl)) (by rw [hMt6.len, List.length_set]; omega)) ?_
      rintro z8 hW8
      rw [show 0 + ((i : Int)).toNat * 1 = i by omega] at hW8
      have hMt8 := hMt6.push (by have := hKz4.size; have := zk5.size; have := zk6.size; omega) hv hset ho7 hf7 zk7 hW8
      rw [List.set_set] at hMt8
      refine WO.nil (WX.blockN (WX.back ((seen ++ [k], some (k, v5), rv1.set i (.slice oa (seen.length + 1) oc))) (Sub.of rfl) (⟨(hR6.keep zk7 (fun h => by have := (hfar _ h).1; omega) (fun h => hMne i _ _ hv h rfl)).keep hW8.2.2 (fun (h : m = bo) => by omega) (fun (h : it = bo) => hRn.neB hMt4.out h.symm), hMt8, (((hKz4.trans zk5 (fun q _ (h : q = it) => by omega)).ext zk6).trans zk7 (fun q _ hq => (hfar q hq).1)).trans hW8.2.2 (fun q _ (h : q = bo) => by omega)⟩) (by dsimp only; rw [List.length_append, List.length_singleton]; omega)))
    ·
     obtain rfl : i = ms.length := by omega
     refine WC.exit (WX.thenE (WX.thenE (WX.hit (WX.next (WC.seq (WC.region (WO.mv rfl rfl (WO.a rfl rfl (WO.a rfl rfl (WO.nil (WX.next (WC.ret ?_))))))))))))
     refine WX.ret2 Tryz.results34 rfl rfl ⟨_, rfl, ⟨_, by rw [e0'], fun h => absurd e0' h, fun _ => ⟨rows, ⟨by rw [hrl, hml], fun j r hr => (hrows j r hr).1 (by rw [← hrl]; exact (List.getElem?_eq_some_iff.1 hr).1)⟩, hMt.sl (fun x => rfl) (by omega) (fun j u q hu hq => by have := (hMt.far j u q hu hq).1; omega) hrl.symm (by omega) (by omega)⟩⟩, Keep.trans hEy hKz (fun q hq h => by omega)⟩
def exX : Tm := .mk 24 0 []
def exY : Tm := .mk 24 1 []
def exO : Tm := .mk 0 1 []
def exS1 : St := .mk 0 0 1 0 exO [] [] []
def exS2 : St := .mk 1 0 0 0 exY [] [] []
def exS3 : St := .mk 3 0 0 0 exX [exS1] [] []
def exS4 : St := .mk 4 0 0 2 exY [exS2] [] []
def exF20 : Fl := ⟨[⟨⟨#[120]⟩, 1, 0, 1, 0⟩, ⟨⟨#[121]⟩, 0, 0, 1, 0⟩], [], [exS3, exS4]⟩
theorem exOne (D : Nat → Prop) (w : World) (s : St) (b : Nat) (cs : List Value) (hB : Blk w b cs 86) (hD : D b) (hl : cs.length = 10) (h : RSt D w s cs) : SlR 10 RSt D w (.slice (some ⟨b, 0, none⟩) 1 1) [s] :=
 SlR.ofBlk hB hD rfl (Nat.le_refl _) (by decide) (fun i x hx => by
  cases i with
  | zero => simp at hx; subst hx; exact ⟨cs, hl, fun j u hu => by simpa using hu, h⟩
  | succ i => simp at hx)
theorem example20_ok (w : World) : Calls Tryz.prog 56 #[] w (Ret fun r w' => (∃ v1 v2 v3, r = .agg #[v1, v2, v3] ∧ RFl (fun b => w.heap.size ≤ b) w' exF20 v1 v2 v3) ∧ Ext w w') := by
 have hE := Keep.refl (fun _ => False) w
 refine calls Tryz.func56 rfl [] 22 ⟨Nat.le_of_ble_eq_true rfl, Tryz.ntmps56⟩ argsOk0 ?_
 refine WC.sr (WO.mem rfl rfl rfl (M.alloc (cs := [.slice none 0 0, .slice none 0 0, .slice none 0 0]) Tryz.zeroValue26 rfl) ?_)
 rintro _ w_r ⟨r, rfl, hg_r, hs_r, hB_r, hk_r⟩
 have hge_r : _ ≤ r := Nat.le_trans hE.size (Nat.le_of_eq hg_r.symm)
 replace hE := hE.ext hk_r
 refine WO.nr (WO.o rfl (R.build (v := .agg #[.int .i64 24, .int .i64 0, .slice none 0 0]) [(0, _)] rfl (fun _ => by kernel_rfl)) (WO.o rfl (R.build (v := .agg #[.int .i64 24, .int .i64 1, .slice none 0 0]) [(0, _), (1, _)] rfl (fun _ => by kernel_rfl)) (WO.o rfl (R.build (v := .agg #[.int .i64 0, .int .i64 1, .slice none 0 0]) [(1, _)] rfl (fun _ => by kernel_rfl)) (WO.mem rfl rfl rfl (M.alloc (cs := [.int .i64 0, .int .i64 0, .slice none 0 0]) Tryz.zeroValue84 rfl) ?_))))
 rintro _ w_x ⟨x, rfl, hg_x, hs_x, hB_x, hk_x⟩
 have hn_r_x : r ≠ x := by have := hB_r.lt; omega
 have hge_x : _ ≤ x := Nat.le_trans hE.size (Nat.le_of_eq hg_x.symm)
 replace hE := hE.ext hk_x
 replace hB_r := hk_x.blk hB_r (fun h => h)
 refine WO.mem rfl rfl rfl (M.alloc (cs := [.int .i64 0, .int .i64 0, .slice none 0 0]) Tryz.zeroValue84 rfl) ?_
 rintro _ w_y ⟨y, rfl, hg_y, hs_y, hB_y, hk_y⟩
 have hn_r_y : r ≠ y := by have := hB_r.lt; omega
 have hn_x_y : x ≠ y := by have := hB_x.lt; omega
 have hge_y : _ ≤ y := Nat.le_trans hE.size (Nat.le_of_eq hg_y.symm)
 replace hE := hE.ext hk_y
 replace hB_r := hk_y.blk hB_r (fun h => h)
 replace hB_x := hk_y.blk hB_x (fun h => h)
 refine WO.mem rfl rfl rfl (M.alloc (cs := [.int .i64 0, .int .i64 0, .slice none 0 0]) Tryz.zeroValue84 rfl) ?_
 rintro _ w_o ⟨o, rfl, hg_o, hs_o, hB_o, hk_o⟩
 have hn_r_o : r ≠ o := by have := hB_r.lt; omega
 have hn_x_o : x ≠ o := by have := hB_x.lt; omega
 have hn_y_o : y ≠ o := by have := hB_y.lt; omega
 have hge_o : _ ≤ o := Nat.le_trans hE.size (Nat.le_of_eq hg_o.symm)
 replace hE := hE.ext hk_o
 replace hB_r := hk_o.blk hB_r (fun h => h)
 replace hB_x := hk_o.blk hB_x (fun h => h)
 replace hB_y := hk_o.blk hB_y (fun h => h)
 have hxl := hB_x.lt
 have hyl := hB_y.lt
 have hrl := hB_r.lt
 have hn1 : x ≠ y := by omega
 have hn2 : x ≠ o := by omega
 have hn3 : y ≠ o := by omega
 refine WO.mem0 rfl rfl (M.storeK Tryz.sizeOf84 rfl rfl rfl rfl (by simp [Value.oneCell']) hB_x (by simp)) ?_
 rintro w1 ⟨hs1, hB1, hk1⟩
 refine WO.mem0 rfl rfl (M.storeK Tryz.sizeOf84 rfl rfl rfl rfl (by simp [Value.oneCell']) (hk1.blk hB_y (fun h => hn1 h.symm)) (by simp)) ?_
 rintro w2 ⟨hs2, hB2, hk2⟩
 refine WO.mem0 rfl rfl (M.storeK Tryz.sizeOf84 rfl rfl rfl rfl (by simp [Value.oneCell']) (hk2.blk (hk1.blk hB_o (fun h => hn2 h.symm)) (fun h => hn3 h.symm)) (by simp)) ?_
 rintro w3 ⟨hs3, hB3, hk3⟩
 have hX : Blk w3 x [.int .i64 24, .int .i64 0, .slice none 0 0] 84 := hk3.blk (hk2.blk hB1 hn1) hn2
 have hY : Blk w3 y [.int .i64 24, .int .i64 1, .slice none 0 0] 84 := hk3.blk hB2 hn3
 have hO : Blk w3 o [.int .i64 0, .int .i64 1, .slice none 0 0] 84 := hB3
 have hRr := hk3.blk (hk2.blk (hk1.blk hB_r (fun h => by have h : r = x := h; omega)) (fun h => by have h : r = y := h; omega)) (fun h => by have h : r = o := h; omega)
 have hE3 : Ext w w3 := Keep.trans (Keep.trans (Keep.trans hE hk1 (fun q hq h => by have h : q = x := h; omega)) hk2 (fun q hq h => by have h : q = y := h; omega)) hk3 (fun q hq h => by have h : q = o := h; omega)
 have hs0 := hE.size
 refine WO.nr (WO.o rfl (R.build (v := .agg #[.string ⟨#[120]⟩, .int .i64 1, .int .i64 0, .int .i64 1, .int .i64 0]) [(0, _), (1, _), (3, _)] rfl (fun _ => by kernel_rfl)) (WO.o rfl (R.build (v := .agg #[.string ⟨#[121]⟩, .int .i64 0, .int .i64 0, .int .i64 1, .int .i64 0]) [(0, _), (3, _)] rfl (fun _ => by kernel_rfl)) (WO.mem rfl rfl rfl (M.buildSlice (cs := [.string ⟨#[120]⟩, .int .i64 1, .int .i64 0, .int .i64 1, .int .i64 0, .string ⟨#[121]⟩, .int .i64 0, .int .i64 0, .int .i64 1, .int .i64 0]) [(0, _), (1, _)] Tryz.runUnderlying22 Tryz.sizeOf125 Tryz.zeroValue125 (by decide) rfl (by kernel_rfl)) ?_)))
 have hsz_vs := hE3.size
 rintro _ w_vs ⟨vs, rfl, hg_vs, hs_vs, hB_vs, hk_vs⟩
 replace hX := hk_vs.blk hX (fun h => h)
 replace hY := hk_vs.blk hY (fun h => h)
 replace hO := hk_vs.blk hO (fun h => h)
 replace hRr := hk_vs.blk hRr (fun h => h)
 replace hE3 := hE3.ext hk_vs
 refine WO.o rfl (R.loadK Tryz.isAgg84 Tryz.sizeOf84 rfl (by rfl) hX.cells) (WO.o rfl (R.loadK Tryz.isAgg84 Tryz.sizeOf84 rfl (by rfl) hO.cells) (WO.o rfl (R.build (v := .agg #[.int .i64 0, .int .i64 0, .int .i64 1, .int .i64 0, .int .i64 0, .int .i64 1, .slice none 0 0, .slice none 0 0, .slice none 0 0, .slice none 0 0]) [(0, _), (2, _), (4, _)] rfl (fun _ => by kernel_rfl)) (WO.mem rfl rfl rfl (M.buildSlice (cs := [.int .i64 0, .int .i64 0, .int .i64 1, .int .i64 0, .int .i64 0, .int .i64 1, .slice none 0 0, .slice none 0 0, .slice none 0 0, .slice none 0 0]) [(0, _)] Tryz.runUnderlying24 Tryz.sizeOf86 Tryz.zeroValue86 (by decide) rfl (by kernel_rfl)) ?_)))
 have hsz_g1 := hE3.size
 rintro _ w_g1 ⟨g1, rfl, hg_g1, hs_g1, hB_g1, hk_g1⟩
 replace hX := hk_g1.blk hX (fun h => h)
 replace hY := hk_g1.blk hY (fun h => h)
 replace hO := hk_g1.blk hO (fun h => h)
 replace hRr := hk_g1.blk hRr (fun h => h)
 replace hE3 := hE3.ext hk_g1
 replace hB_vs := hk_g1.blk hB_vs (fun h => h)
 refine WO.o rfl (R.build (v := .agg #[.int .i64 3, .int .i64 0, .int .i64 0, .int .i64 0, .int .i64 24, .int .i64 0, .slice none 0 0, .slice (some ⟨g1, 0, none⟩) 1 1, .slice none 0 0, .slice none 0 0]) [(0, _), (4, _), (5, _)] rfl (fun _ => by kernel_rfl)) (WO.o rfl (R.loadK Tryz.isAgg84 Tryz.sizeOf84 rfl (by rfl) hY.cells) (WO.o rfl (R.loadK Tryz.isAgg84 Tryz.sizeOf84 rfl (by rfl) hY.cells) (WO.o rfl (R.build (v := .agg #[.int .i64 1, .int .i64 0, .int .i64 0, .int .i64 0, .int .i64 24, .int .i64 1, .slice none 0 0, .slice none 0 0, .slice none 0 0, .slice none 0 0]) [(0, _), (4, _)] rfl (fun _ => by kernel_rfl)) ?_)))
 refine WO.mem rfl rfl rfl (M.buildSlice (cs := [.int .i64 1, .int .i64 0, .int .i64 0, .int .i64 0, .int .i64 24, .int .i64 1, .slice none 0 0, .slice none 0 0, .slice none 0 0, .slice none 0 0]) [(0, _)] Tryz.runUnderlying24 Tryz.sizeOf86 Tryz.zeroValue86 (by decide) rfl (by kernel_rfl)) ?_
 have hsz_g2 := hE3.size
 rintro _ w_g2 ⟨g2, rfl, hg_g2, hs_g2, hB_g2, hk_g2⟩
 replace hX := hk_g2.blk hX (fun h => h)
 replace hY := hk_g2.blk hY (fun h => h)
 replace hO := hk_g2.blk hO (fun h => h)
 replace hRr := hk_g2.blk hRr (fun h => h)
 replace hE3 := hE3.ext hk_g2
 replace hB_vs := hk_g2.blk hB_vs (fun h => h)
 replace hB_g1 := hk_g2.blk hB_g1 (fun h => h)
 refine WO.o rfl (R.build (v := .agg #[.int .i64 4, .int .i64 0, .int .i64 0, .int .i64 2, .int .i64 24, .int .i64 1, .slice none 0 0, .slice (some ⟨g2, 0, none⟩) 1 1, .slice none 0 0, .slice none 0 0]) [(0, _), (3, _), (4, _), (5, _)] rfl (fun _ => by kernel_rfl)) (WO.mem rfl rfl rfl (M.buildSlice (cs := [.int .i64 3, .int .i64 0, .int .i64 0, .int .i64 0, .int .i64 24, .int .i64 0, .slice none 0 0, .slice (some ⟨g1, 0, none⟩) 1 1, .slice none 0 0, .slice none 0 0, .int .i64 4, .int .i64 0, .int .i64 0, .int .i64 2, .int .i64 24, .int .i64 1, .slice none 0 0, .slice (some ⟨g2, 0, none⟩) 1 1, .slice none 0 0, .slice none 0 0]) [(0, _), (1, _)] Tryz.runUnderlying24 Tryz.sizeOf86 Tryz.zeroValue86 (by decide) rfl (by kernel_rfl)) ?_)
 have hsz_g3 := hE3.size
 rintro _ w_g3 ⟨g3, rfl, hg_g3, hs_g3, hB_g3, hk_g3⟩
 replace hX := hk_g3.blk hX (fun h => h)
 replace hY := hk_g3.blk hY (fun h => h)
 replace hO := hk_g3.blk hO (fun h => h)
 replace hRr := hk_g3.blk hRr (fun h => h)
 replace hE3 := hE3.ext hk_g3
 replace hB_vs := hk_g3.blk hB_vs (fun h => h)
 replace hB_g1 := hk_g3.blk hB_g1 (fun h => h)
 replace hB_g2 := hk_g3.blk hB_g2 (fun h => h)
 refine WO.o rfl (R.build (v := .agg #[.slice (some ⟨vs, 0, none⟩) 2 2, .slice none 0 0, .slice (some ⟨g3, 0, none⟩) 2 2]) [(0, _), (2, _)] rfl (fun _ => by kernel_rfl)) (WO.mem0 rfl rfl (M.storeK Tryz.sizeOf26 rfl rfl rfl rfl (by simp [Value.oneCell']) hRr (by simp)) ?_)
 rintro wf ⟨_, hBf, hkf⟩
 refine WO.nil (WX.next (WC.ret (WX.retC Tryz.results56 rfl (run_loadK Tryz.isAgg26 Tryz.sizeOf26 rfl hBf.cells) ?_)))
 have hvr : vs ≠ r := hB_vs.ne hRr (by decide)
 have h1r : g1 ≠ r := hB_g1.ne hRr (by decide)
 have h2r : g2 ≠ r := hB_g2.ne hRr (by decide)
 have h3r : g3 ≠ r := hB_g3.ne hRr (by decide)
 have hS1 : RSt (fun q => w.heap.size ≤ q ∧ q ≠ r) w_g3 exS1 [.int .i64 0, .int .i64 0, .int .i64 1, .int .i64 0, .int .i64 0, .int .i64 1, .slice none 0 0, .slice none 0 0, .slice none 0 0, .slice none 0 0] := RSt.put (s := exS1) SlR.nil SlR.nil SlR.nil SlR.nil
 have hS2 : RSt (fun q => w.heap.size ≤ q ∧ q ≠ r) w_g3 exS2 [.int .i64 1, .int .i64 0, .int .i64 0, .int .i64 0, .int .i64 24, .int .i64 1, .slice none 0 0, .slice none 0 0, .slice none 0 0, .slice none 0 0] := RSt.put (s := exS2) SlR.nil SlR.nil SlR.nil SlR.nil
 have hL1 := exOne _ _ _ _ _ hB_g1 (show w.heap.size ≤ g1 ∧ g1 ≠ r from ⟨by omega, h1r⟩) rfl hS1
 have hL2 := exOne _ _ _ _ _ hB_g2 (show w.heap.size ≤ g2 ∧ g2 ≠ r from ⟨by omega, h2r⟩) rfl hS2
 have hS3 : RSt (fun q => w.heap.size ≤ q ∧ q ≠ r) w_g3 exS3 [.int .i64 3, .int .i64 0, .int .i64 0, .int .i64 0, .int .i64 24, .int .i64 0, .slice none 0 0, .slice (some ⟨g1, 0, none⟩) 1 1, .slice none 0 0, .slice none 0 0] := RSt.put (s := exS3) SlR.nil hL1 SlR.nil SlR.nil
 have hS4 : RSt (fun q => w.heap.size ≤ q ∧ q ≠ r) w_g3 exS4 [.int .i64 4, .int .i64 0, .int .i64 0, .int .i64 2, .int .i64 24, .int .i64 1, .slice none 0 0, .slice (some ⟨g2, 0, none⟩) 1 1, .slice none 0 0, .slice none 0 0] := RSt.put (s := exS4) SlR.nil hL2 SlR.nil SlR.nil
 have hVs : SlR 5 RVr (fun q => w.heap.size ≤ q ∧ q ≠ r) w_g3 (.slice (some ⟨vs, 0, none⟩) 2 2) exF20.vars := SlR.ofBlk hB_vs ⟨by omega, hvr⟩ rfl (Nat.le_refl _) (by decide) (fun i x hx => by
  match i, hx with
  | 0, hx => cases hx; exact ⟨[.string ⟨#[120]⟩, .int .i64 1, .int .i64 0, .int .i64 1, .int .i64 0], rfl, fun j u hu => by
    match j, hu with
    | 0, hu => exact hu
    | 1, hu => exact hu
    | 2, hu => exact hu
    | 3, hu => exact hu
    | 4, hu => exact hu
    | j + 5, hu => simp at hu, rfl⟩
  | 1, hx => cases hx; exact ⟨[.string ⟨#[121]⟩, .int .i64 0, .int .i64 0, .int .i64 1, .int .i64 0], rfl, fun j u hu => by
    match j, hu with
    | 0, hu => exact hu
    | 1, hu => exact hu
    | 2, hu => exact hu
    | 3, hu => exact hu
    | 4, hu => exact hu
    | j + 5, hu => simp at hu, rfl⟩
  | i + 2, hx => simp [exF20] at hx)
 have hBd : SlR 10 RSt (fun q => w.heap.size ≤ q ∧ q ≠ r) w_g3 (.slice (some ⟨g3, 0, none⟩) 2 2) exF20.body := SlR.ofBlk hB_g3 ⟨by omega, h3r⟩ rfl (Nat.le_refl _) (by decide) (fun i x hx => by
  match i, hx with
  | 0, hx => cases hx; exact ⟨_, rfl, fun j u hu => by
    match j, hu with
    | 0, hu => exact hu
    | 1, hu => exact hu
    | 2, hu => exact hu
    | 3, hu => exact hu
    | 4, hu => exact hu
    | 5, hu => exact hu
    | 6, hu => exact hu
    | 7, hu => exact hu
    | 8, hu => exact hu
    | 9, hu => exact hu
    | j + 10, hu => simp at hu, hS3⟩
  | 1, hx => cases hx; exact ⟨_, rfl, fun j u hu => by
    match j, hu with
    | 0, hu => exact hu
    | 1, hu => exact hu
    | 2, hu => exact hu
    | 3, hu => exact hu
    | 4, hu => exact hu
    | 5, hu => exact hu
    | 6, hu => exact hu
    | 7, hu => exact hu
    | 8, hu => exact hu
    | 9, hu => exact hu
    | j + 10, hu => simp at hu, hS4⟩
  | i + 2, hx => simp [exF20] at hx)
 have hFl : RFl (fun q => w.heap.size ≤ q ∧ q ≠ r) w_g3 exF20 (.slice (some ⟨vs, 0, none⟩) 2 2) (.slice none 0 0) (.slice (some ⟨g3, 0, none⟩) 2 2) := ⟨hVs, SlR.nil, hBd⟩
 exact ⟨_, rfl, ⟨_, _, _, rfl, rflWide (rflKeepD hFl hkf (fun q hq h => hq.2 h)) (fun q hq => hq.1)⟩, Keep.trans hE3 hkf (fun q hq h => by have h : q = r := h; omega)⟩
def walkCode (f : Fl) (g : List Nd) (r : Ins) : Int := if gcheckN f g ≠ 0 then gcheckN f g else startCode f.vars r
abbrev hatsOf (f : Fl) (r : Ins) : List Int := hatV (startVals f.vars r) f.hatches
abbrev sigOf (f : Fl) (r : Ins) : Sg := ⟨startVals f.vars r, [], 0⟩
abbrev mcOf (f : Fl) (r : Ins) : Mc := ⟨0, sigOf f r, fun _ => 0⟩
def finOf (f : Fl) (r : Ins) : Sg := exL f (hatsOf f r) f.body (sigOf f r)
def pathOf (f : Fl) (r : Ins) (K : Nat) : List Int := (List.range (K + 1)).map fun i => (iterM f (hatsOf f r) (cfgN f) i (mcOf f r)).at_
def GoesAll (f : Fl) (r : Ins) (K : Nat) : Prop := ∃ rd', Goes f (hatsOf f r) (cfgN f) 0 ((cfgN f).length - 1) K (mcOf f r) ⟨((cfgN f).length : Int) - 1, finOf f r, rd'⟩
theorem GoesAll.unique {f : Fl} {r : Ins} {K K' : Nat} (h : GoesAll f r K) (h' : GoesAll f r K') : K = K' := by
 obtain ⟨_, h1, h2⟩ := h
 obtain ⟨_, h3, h4⟩ := h'
 rcases Nat.lt_trichotomy K K' with hh | hh | hh
 · have := (h4 K hh).2; rw [h1] at this; dsimp only at this; omega
 · exact hh
 · have := (h2 K' hh).2; rw [h3] at this; dsimp only at this; omega
theorem cfgWalk_ok (f : Fl) (g : List Nd) (r : Ins) (v1 v2 v3 gv s1 s2 s3 : Value) (D0 Dg : Nat → Prop) (w : World) (hf : RFl D0 w f v1 v2 v3) (hg : SlR 4 RNd Dg w gv g) (hi1 : SlR 1 RInt D0 w s1 r.secret) (hi2 : SlR 1 RInt D0 w s2 r.pub) (hi3 : SlR 1 RInt D0 w s3 r.random) (hsz : snodes f.body + hnodes f.hatches ≤ 1024) (hbk : sbulk f.body ≤ 1000000) :
  Calls Tryz.prog 27 #[.agg #[v1, v2, v3], .agg #[gv], .agg #[s1, s2, s3]] w (Ret fun rr w' => (∃ pv, rr = .tuple #[pv, .int .i64 (walkCode f g r)] ∧ (walkCode f g r ≠ 0 → pv = .slice none 0 0) ∧ (walkCode f g r = 0 → ∃ K, GoesAll f r K ∧ SlR 1 RInt (fun b => w.heap.size ≤ b) w' pv (pathOf f r K))) ∧ Ext w w') := by
 obtain ⟨ag, cg, rfl⟩ := hg.form
 have hE := Keep.refl (fun _ => False) w
 refine calls Tryz.func27 rfl [(0, .agg #[v1, v2, v3]), (1, .agg #[.slice ag g.length cg]), (2, .agg #[s1, s2, s3])] 21 ⟨Nat.le_of_ble_eq_true rfl, Tryz.ntmps27⟩ (argsOk (Sub.of rfl)) ?_
 refine WC.sr (WO.mem rfl rfl rfl (M.box rfl rfl) ?_)
 rintro _ w_b ⟨b, rfl, hg_b, hs_b, hB_b, hk_b⟩
 have hge_b : _ ≤ b := Nat.le_trans hE.size (Nat.le_of_eq hg_b.symm)
 replace hE := hE.ext hk_b
 replace hf := RFl.ext hf hk_b
 replace hg := hg.ext stable_nd hk_b
 refine WO.mem rfl rfl rfl (M.box rfl rfl) ?_
 rintro _ w_bg ⟨bg, rfl, hg_bg, hs_bg, hB_bg, hk_bg⟩
 have hn_b_bg : b ≠ bg := by have := hB_b.lt; omega
 have hge_bg : _ ≤ bg := Nat.le_trans hE.size (Nat.le_of_eq hg_bg.symm)
 replace hE := hE.ext hk_bg
 replace hf := RFl.ext hf hk_bg
 replace hg := hg.ext stable_nd hk_bg
 replace hB_b := hk_bg.blk hB_b (fun h => h)
 refine WO.mem rfl rfl rfl (M.box rfl rfl) ?_
 rintro _ w_bi ⟨bi, rfl, hg_bi, hs_bi, hB_bi, hk_bi⟩
 have hn_b_bi : b ≠ bi := by have := hB_b.lt; omega
 have hn_bg_bi : bg ≠ bi := by have := hB_bg.lt; omega
 have hge_bi : _ ≤ bi := Nat.le_trans hE.size (Nat.le_of_eq hg_bi.symm)
 replace hE := hE.ext hk_bi
 replace hf := RFl.ext hf hk_bi
 replace hg := hg.ext stable_nd hk_bi
 replace hB_b := hk_bi.blk hB_b (fun h => h)
 replace hB_bg := hk_bi.blk hB_bg (fun h => h)
 refine WO.a rfl rfl (WO.a rfl rfl (WO.nr (WO.o rfl (R.loadK Tryz.isAgg26 Tryz.sizeOf26 rfl (by rfl) hB_b.cells) (WO.o rfl (R.loadK Tryz.isAgg31 Tryz.sizeOf31 rfl (by rfl) hB_bg.cells) (WO.o rfl (R.loadK Tryz.isAgg52 Tryz.sizeOf52 rfl (by rfl) hB_bi.cells) ?_)))))
 have hsE := hE.size
 refine WO.call rfl rfl rfl (F.call (vs := [_, _, _]) Tryz.call73 rfl) (walk_ok f g r _ _ _ _ _ _ _ D0 Dg _ hf hg (hi1.ext stable_int hE) (hi2.ext stable_int hE) (hi3.ext stable_int hE) hsz hbk) ?_
 rintro _ w2 ⟨⟨pv, ov, t, e, rfl, he, h1, h2⟩, hk2⟩
 have hE2 := hE.ext hk2
 have hov : ov.oneCell' = true := by
  by_cases h : e = 0
  ·
   obtain ⟨_, _, _, _, h3, _⟩ := h2 h
   exact h3.one
  · rw [(h1 h).2.1]; rfl
 have hov2 : ∃ a n c, ov = .slice a n c := by
  by_cases h : e = 0
  ·
   obtain ⟨_, _, _, _, h3, _⟩ := h2 h
   obtain ⟨a, c, h4⟩ := h3.form
   exact ⟨_, _, _, h4⟩
  · exact ⟨_, _, _, (h1 h).2.1⟩
 obtain ⟨oa, on, oc, rfl⟩ := hov2
 refine WO.mv rfl rfl (WO.o rfl (R.extract rfl rfl) (WO.o rfl (R.extract rfl rfl) (WO.o rfl (R.extract rfl rfl) (WO.mem rfl rfl rfl (M.alloc (cs := [.slice none 0 0, .int .i64 0]) Tryz.zeroValue64 rfl) ?_))))
 rintro _ w3 ⟨c, rfl, hc, hs3, hB3, hk3⟩
 refine WO.a rfl rfl (WO.mem0 rfl rfl (M.storeK Tryz.sizeOf64 rfl rfl rfl rfl (by simp [Value.oneCell']) hB3 (by simp)) ?_)
 rintro w4 ⟨_, hB4, hk4⟩
 have hk34 : Ext w2 w4 := hk3.trans hk4 (fun q hq h => by have h : q = c := h; omega)
 have hcode : e = walkCode f g r := he
 subst hcode
 refine WO.a rfl rfl (WO.nr (WO.mv rfl rfl (WO.mv rfl rfl (WO.a rfl rfl (WO.a rfl rfl (WO.nil (WX.next (WC.ret ?_))))))))
 refine WX.ret2 Tryz.results27 rfl rfl ⟨_, rfl, ⟨pv, rfl, fun h => (h1 h).1, fun h => ?_⟩, hE2.ext hk34⟩
 obtain ⟨K, rd', hgo, hp, _⟩ := h2 h
 exact ⟨K, ⟨rd', hgo⟩, (hp.wide stable_int (fun q hq => by omega)).ext stable_int hk34⟩
def exG20 : List Nd := [⟨0, -1, 1, -1⟩, ⟨3, 0, 2, 3⟩, ⟨2, 1, 3, -1⟩, ⟨4, 2, 4, -1⟩, ⟨5, 2, 5, 6⟩, ⟨2, 3, 4, -1⟩, ⟨1, -1, -1, -1⟩]
def exI20 : Ins := ⟨[1], [], []⟩
theorem ex_check : checkN exF20 = 0 := by decide +kernel
theorem ex_graph : cfgN exF20 = exG20 := by rfl
theorem ex_size : snodes exF20.body + hnodes exF20.hatches ≤ 1024 := by decide +kernel
theorem ex_bulk : sbulk exF20.body ≤ 1000000 := by decide +kernel
theorem ex_nodeAt : nodeAtN exF20 3 = (5, 0) := by decide +kernel
theorem ex_start : startCode exF20.vars exI20 = 0 := by decide +kernel
theorem ex_gcheck : gcheckN exF20 exG20 = 0 := by
 unfold gcheckN
 rw [if_neg (by rw [ex_check]; exact fun h => h rfl), if_pos ex_graph]
theorem ex_walkCode : walkCode exF20 exG20 exI20 = 0 := by
 unfold walkCode
 rw [if_neg (by rw [ex_gcheck]; exact fun h => h rfl), ex_start]
theorem ex_goes : GoesAll exF20 exI20 9 := by
 refine ⟨(iterM exF20 (hatsOf exF20 exI20) (cfgN exF20) 9 (mcOf exF20 exI20)).rd, ?_, ?_⟩
 · rfl
 ·
  have h : ∀ j : Fin 9, 0 ≤ (iterM exF20 (hatsOf exF20 exI20) (cfgN exF20) j.1 (mcOf exF20 exI20)).at_ ∧ (iterM exF20 (hatsOf exF20 exI20) (cfgN exF20) j.1 (mcOf exF20 exI20)).at_ < ((cfgN exF20).length : Int) - 1 := by decide +kernel
  exact fun j hj => h ⟨j, hj⟩
theorem ex_path : pathOf exF20 exI20 9 = [0, 1, 2, 3, 4, 5, 4, 5, 4, 6] := by decide +kernel
def exT20 : List (List Int) := [[], [4, 5], [4, 5], [1, 4, 5], [1, 4, 5], [1, 4, 5], [1, 4, 5]]
def thruB (f : Fl) (x : Nd) (d : Int) : Bool := decide (x.kind ≠ 0) && (!asgB f x || decide (varD f d ≠ (stAt f x.at_).var))
theorem thruB_of {f : Fl} {x : Nd} {d : Int} (h : ThruD f x d) : thruB f x d = true := by
 unfold thruB
 cases ha : asgB f x with
 | false => simp [h.1]
 | true => simp [h.1, h.2 ha]
def genB (f : Fl) (x : Nd) (d : Int) : Bool := (decide (x.kind = 0) && decide (((preL f.body).length : Int) ≤ d) && decide (d < (preL f.body).length + f.vars.length)) || (decide (x.kind ≠ 0) && asgB f x && decide (d = x.at_))
theorem genB_iff {f : Fl} {x : Nd} {d : Int} : GenD f x d ↔ genB f x d = true := by
 unfold genB GenD
 simp only [Bool.or_eq_true, Bool.and_eq_true, decide_eq_true_eq]
 constructor
 ·
  rintro (h | h)
  · exact .inl ⟨⟨h.1, h.2.1⟩, h.2.2⟩
  · exact .inr ⟨⟨h.1, h.2.1⟩, h.2.2⟩
 ·
  rintro (h | h)
  · exact .inl ⟨h.1.1, h.1.2, h.2⟩
  · exact .inr ⟨h.1.1, h.1.2, h.2⟩
def tabOk (f : Fl) (g : List Nd) (T : List (List Int)) : Bool := (List.range g.length).all fun i => [(ndAt g i).next, (ndAt g i).other].all fun to => decide (to < 0) ||
 (((List.range ((preL f.body).length + f.vars.length)).all fun d : Nat => !genB f (ndAt g i) d || ((T[to.toNat]?.getD []).contains (d : Int))) && ((T[i]?.getD []).all fun d => !thruB f (ndAt g i) d || ((T[to.toNat]?.getD []).contains d)))
theorem gen_range {f : Fl} {x : Nd} {d : Int} (h : GenD f x d) (hx : x.kind = 2 → 0 ≤ x.at_ ∧ x.at_ < (preL f.body).length) : 0 ≤ d ∧ d < (preL f.body).length + f.vars.length := by
 rcases h with h | h
 · omega
 ·
  have h2 : x.kind = 2 := by have := h.2.1; unfold asgB at this; simp at this; exact this.1
  have := hx h2
  omega
theorem tab_all {f : Fl} {g : List Nd} {T : List (List Int)} (hT : tabOk f g T = true) (hx : ∀ (i : Nat) x, g[i]? = some x → x.kind = 2 → 0 ≤ x.at_ ∧ x.at_ < (preL f.body).length) {to d : Int} (h : Rch f g to d) : d ∈ T[to.toNat]?.getD [] := by
 unfold tabOk at hT
 rw [List.all_eq_true] at hT
 induction h with
 | @gen i x to d he ht h0 hg =>
  have h1 := hT i (List.mem_range.2 (List.getElem?_eq_some_iff.1 he).1)
  rw [ndAt_eq he, List.all_eq_true] at h1
  have h2 := h1 to (by simpa using ht)
  rw [decide_eq_false (by omega), Bool.false_or, Bool.and_eq_true, List.all_eq_true] at h2
  have hr := gen_range hg (hx i x he)
  have h3 := h2.1 d.toNat (List.mem_range.2 (by omega))
  rw [show ((d.toNat : Nat) : Int) = d by omega, genB_iff.1 hg] at h3
  simpa using h3
 | @thru i x to d he ht h0 _ hk ih =>
  have h1 := hT i (List.mem_range.2 (List.getElem?_eq_some_iff.1 he).1)
  rw [ndAt_eq he, List.all_eq_true] at h1
  have h2 := h1 to (by simpa using ht)
  rw [decide_eq_false (by omega), Bool.false_or, Bool.and_eq_true, List.all_eq_true] at h2
  have h4 := List.all_eq_true.1 h2.2 d (by simpa using ih)
  rw [thruB_of hk] at h4
  simpa using h4
theorem ex_tab : tabOk exF20 exG20 exT20 = true := by decide +kernel
theorem ex_row {rows : List (List Int)} (h : RchRows exF20 exG20 rows) : ∃ r, rows[4]? = some r ∧ r = [1, 4, 5] := by
 obtain ⟨r, hr⟩ : ∃ r, rows[4]? = some r := ⟨_, List.getElem?_eq_getElem (by rw [h.1]; decide)⟩
 refine ⟨r, hr, ?_⟩
 obtain ⟨hs, hm⟩ := h.2 4 r hr
 have hg : ∀ d : Int, d = 4 ∨ d = 5 → Rch exF20 exG20 1 d := fun d hd => Rch.gen (i := 0) rfl (.inl rfl) (by decide) (genB_iff.2 (by rcases hd with rfl | rfl <;> decide +kernel))
 have hthru : ∀ (x : Nd) d, x.kind ≠ 0 → asgB exF20 x = false → ThruD exF20 x d := fun x d h1 h2 => ⟨h1, fun h => by rw [h2] at h; cases h⟩
 have h3 : ∀ d : Int, d = 1 ∨ d = 4 ∨ d = 5 → Rch exF20 exG20 3 d := fun d hd => by
  rcases hd with rfl | hd
  · exact Rch.gen (i := 2) rfl (.inl rfl) (by decide) (genB_iff.2 (by decide +kernel))
  · exact Rch.thru (i := 1) rfl (.inr rfl) (by decide) (hg d hd) (hthru _ _ (by decide) (by decide +kernel))
 have h4 : ∀ d : Int, d = 1 ∨ d = 4 ∨ d = 5 → Rch exF20 exG20 4 d := fun d hd => Rch.thru (i := 3) rfl (.inl rfl) (by decide) (h3 d hd) (hthru _ _ (by decide) (by decide +kernel))
 have hx : ∀ (i : Nat) x, exG20[i]? = some x → x.kind = 2 → 0 ≤ x.at_ ∧ x.at_ < ((preL exF20.body).length : Int) := by
  have hh : ∀ x ∈ exG20, x.kind = 2 → 0 ≤ x.at_ ∧ x.at_ < ((preL exF20.body).length : Int) := by
   have : ∀ x ∈ exG20.map (fun x => (x.kind, x.at_)), x.1 = 2 → 0 ≤ x.2 ∧ x.2 < ((preL exF20.body).length : Int) := by decide +kernel
   exact fun x hx => this _ (List.mem_map_of_mem hx)
  exact fun i x h => hh x (List.mem_of_getElem? h)
 refine strict_ext hs (by decide) (fun d => ?_)
 rw [hm]
 constructor
 ·
  intro h5
  exact tab_all ex_tab hx h5
 ·
  intro h5
  exact h4 d (by simpa using h5)
theorem equal_ok (xs ys : List Int) (u v : Value) (D D' : Nat → Prop) (w : World) (hx : SlR 1 RInt D w u xs) (hy : SlR 1 RInt D' w v ys) : Calls Tryz.prog 30 #[u, v] w (Ret fun r w' => r = .bool (decide (xs = ys)) ∧ Ext w w') := by
 obtain ⟨ao, cx, rfl, hxc, hxm, hxe⟩ := hx
 obtain ⟨bo, cy, rfl, hyc, hym, hye⟩ := hy
 refine calls Tryz.func30 rfl [(0, .slice ao xs.length cx), (1, .slice bo ys.length cy)] 26 ⟨Nat.le_of_ble_eq_true rfl, Tryz.ntmps30⟩ (argsOk (Sub.of rfl)) ?_
 refine WC.sr (WO.a rfl rfl (WO.nil (WX.next (WC.seq (WC.seq (WC.region ?_))))))
 refine WO.mv rfl rfl (WO.o rfl (R.lenS rfl Tryz.runUnderlying50 rfl) (WO.mv rfl rfl (WO.o rfl (R.lenS rfl Tryz.runUnderlying50 rfl) (WO.o rfl (R.neq rfl rfl) (WO.nil (WX.next ?_))))))
 refine WC.ite rfl (fun hne => ?_) (fun heq => ?_)
 ·
  refine WC.sr (WO.a rfl rfl (WO.nil (WX.next (WC.ret (WX.thenR ?_)))))
  have : ¬ xs = ys := fun h => hne (by rw [h])
  refine WX.ret1 Tryz.results30 rfl ⟨_, rfl, by rw [decide_eq_false this], Keep.refl _ _⟩
 ·
  have hl : xs.length = ys.length := by omega
  refine WC.skip (WX.next (WC.seq (WC.seq (WC.region (WO.mv rfl rfl (WO.o rfl (R.lenS rfl Tryz.runUnderlying50 rfl) (WO.mv rfl rfl (WO.nil (WX.next (WC.block ?_))))))))))
  refine WC.loop (σ := Nat) (fun k => [(0, .slice ao xs.length cx), (1, .slice bo ys.length cy), (11, .slice ao xs.length cx), (12, .int .i64 xs.length), (13, .int .i64 k)]) (fun k => fun w' => k ≤ xs.length ∧ xs.take k = ys.take k ∧ Ext w w') (fun k => xs.length - k) (0) (Sub.of rfl) (⟨Nat.zero_le _, rfl, Keep.refl _ _⟩) ?_
  rintro k w1 ⟨hkl, htk, hk1⟩
  show WC _ _ _ _ [(0, .slice ao xs.length cx), (1, .slice bo ys.length cy), (11, .slice ao xs.length cx), (12, .int .i64 xs.length), (13, .int .i64 k)] _
  refine WC.sr (WO.o rfl (R.lss rfl rfl) (WO.nil (WX.next (WC.seq ?_))))
  refine WC.ite rfl (fun hlt => ?_) (fun hge => ?_)
  ·
   obtain ⟨x, hx⟩ : ∃ x, xs[k]? = some x := ⟨_, List.getElem?_eq_getElem (by omega)⟩
   obtain ⟨y, hy⟩ : ∃ y, ys[k]? = some y := ⟨_, List.getElem?_eq_getElem (by omega)⟩
   obtain ⟨b1, o1, c1, hao, _, hcl1, hcs1, rfl⟩ := hxe k x hx
   obtain ⟨b2, o2, c2, hbo, _, hcl2, hcs2, rfl⟩ := hye k y hy
   have hcs1' := hk1.cells hcs1 (fun h => h)
   have hcs2' := hk1.cells hcs2 (fun h => h)
   refine WC.skip (WX.next (WC.seq (WC.block (WC.seq (WC.region (WO.mv rfl rfl (WO.a rfl rfl (WO.nil (WX.next (WC.seq ?_))))))))))
   refine WC.quiet (by kernel_rfl) (by kernel_rfl) (WQ.op rfl rfl rfl (fun w1 hw1 => R.move rfl) (WQ.op rfl rfl rfl (fun w1 hw1 => R.move rfl) (WQ.op rfl rfl rfl (fun w1 hw1 => R.indexS Tryz.runUnderlying50 Tryz.sizeOf3 rfl rfl hao (by omega)) (WQ.op rfl rfl rfl (fun w1 hw1 => R.load Tryz.isAgg3 rfl (hw1.cell (hcs1' 0 _ rfl) (fun h => h))) (WQ.op rfl rfl rfl (fun w1 hw1 => R.move rfl) (WQ.op rfl rfl rfl (fun w1 hw1 => R.move rfl) (WQ.op rfl rfl rfl (fun w1 hw1 => R.indexS Tryz.runUnderlying50 Tryz.sizeOf3 rfl rfl hbo (by omega)) (WQ.op rfl rfl rfl (fun w1 hw1 => R.load Tryz.isAgg3 rfl (hw1.cell (hcs2' 0 _ rfl) (fun h => h))) ?_))))))))
   refine WQ.op rfl rfl rfl (fun w1 hw1 => R.neq rfl rfl) (WQ.nil (fun w2 hk2 => ?_))
   refine WX.next (WC.ite rfl (fun hd => ?_) (fun he => ?_))
   ·
    have : ¬ xs = ys := by
     rintro rfl
     rw [hx] at hy
     exact hd (Option.some.inj hy)
    refine WC.sr (WO.a rfl rfl (WO.nil (WX.next (WC.ret (WX.blockR (WX.thenR (WX.thenR (WX.blockR (WX.thenR ?_)))))))))
    refine WX.ret1 Tryz.results30 rfl ⟨_, rfl, by rw [decide_eq_false this], hk1.ext hk2⟩
   ·
    have hxy : x = y := Decidable.not_not.1 he
    refine WC.skip (WX.blockN (WX.next (WC.region (WO.o rfl (R.add rfl rfl (wrap_i64_in (by omega))) (WO.mv rfl rfl (WO.nil (WX.back (k + 1) (Sub.of rfl) (⟨by omega, ?_, hk1.ext hk2⟩) (by first | omega | (dsimp only; omega)))))))))
    obtain ⟨h1, h2⟩ := List.getElem?_eq_some_iff.1 hx
    obtain ⟨h3, h4⟩ := List.getElem?_eq_some_iff.1 hy
    rw [List.take_succ_eq_append_getElem h1, List.take_succ_eq_append_getElem h3, htk, h2, h4, hxy]
  ·
   have hkk : k = xs.length := by omega
   have : xs = ys := by
    rw [hkk, List.take_length] at htk
    rw [hl, List.take_length] at htk
    exact htk
   refine WC.exit (WX.thenE (WX.thenE (WX.hit (WX.next (WC.seq (WC.region (WO.a rfl rfl (WO.nil (WX.next (WC.ret ?_))))))))))
   refine WX.ret1 Tryz.results30 rfl ⟨_, rfl, by rw [decide_eq_true this], hk1⟩
theorem known_ok (w : World) : Calls Tryz.prog 14 #[] w (Ret fun r w' => r = .bool true ∧ Ext w w') := by
 have hE := Keep.refl (fun _ => False) w
 refine calls Tryz.func14 rfl [] 78 ⟨Nat.le_of_ble_eq_true rfl, Tryz.ntmps14⟩ argsOk0 ?_
 refine WC.sr (WO.a rfl rfl (WO.nr (WO.call rfl rfl rfl (F.call (vs := []) Tryz.call56 rfl) (example20_ok _) ?_)))
 rintro _ w1 ⟨⟨v1, v2, v3, rfl, hf⟩, hk1⟩
 replace hE := hE.ext hk1
 obtain ⟨a1, n1, rfl⟩ := hf.vars.form
 obtain ⟨a2, n2, rfl⟩ := hf.hatches.form
 obtain ⟨a3, n3, rfl⟩ := hf.body.form
 refine WO.mem rfl rfl rfl (M.alloc (cs := _) Tryz.zeroValue26 rfl) ?_
 rintro _ wa1 ⟨bf, rfl, hg_bf, hs_bf, hB_bf, hk_bf⟩
 refine WO.mem0 rfl rfl (M.storeK Tryz.sizeOf26 rfl rfl rfl rfl (by simp [Value.oneCell']) hB_bf (by simp)) ?_
 rintro w_bf ⟨_, hB_bf, hkk_bf⟩
 replace hk_bf := hk_bf.trans hkk_bf (fun q hq h => by have h : q = bf := h; omega)
 have hge_bf : _ ≤ bf := Nat.le_trans hE.size (Nat.le_of_eq hg_bf.symm)
 replace hE := hE.ext hk_bf
 replace hf := RFl.ext hf hk_bf
 refine WO.nr (WO.o rfl (R.loadK Tryz.isAgg26 Tryz.sizeOf26 rfl (by rfl) hB_bf.cells) (WO.call rfl rfl rfl (F.call (vs := [_]) Tryz.call16 rfl) (cfgBuild_ok exF20 _ _ _ _ _ hf ex_size ex_bulk) ?_))
 rintro _ w2 ⟨⟨nv, rfl, hg⟩, hk2⟩
 rw [graphOf, if_pos ex_check, ex_graph] at hg
 rw [ex_check]
 replace hE := hE.ext hk2
 replace hf := RFl.ext hf hk2
 replace hB_bf := hk2.blk hB_bf (fun h => h)
 obtain ⟨ag, cg, rfl⟩ := hg.form
 refine WO.mv rfl rfl (WO.o rfl (R.extract rfl rfl) (WO.o rfl (R.extract rfl rfl) (WO.mem rfl rfl rfl (M.alloc (cs := _) Tryz.zeroValue31 rfl) ?_)))
 rintro _ wa2 ⟨bg, rfl, hg_bg, hs_bg, hB_bg, hk_bg⟩
 refine WO.mem0 rfl rfl (M.storeK Tryz.sizeOf31 rfl rfl rfl rfl (by simp [Value.oneCell']) hB_bg (by simp)) ?_
 rintro w_bg ⟨_, hB_bg, hkk_bg⟩
 replace hk_bg := hk_bg.trans hkk_bg (fun q hq h => by have h : q = bg := h; omega)
 have hn_bf_bg : bf ≠ bg := by have := hB_bf.lt; omega
 have hge_bg : _ ≤ bg := Nat.le_trans hE.size (Nat.le_of_eq hg_bg.symm)
 replace hE := hE.ext hk_bg
 replace hf := RFl.ext hf hk_bg
 replace hB_bf := hk_bg.blk hB_bf (fun h => h)
 replace hg := hg.ext stable_nd hk_bg
 refine WO.a rfl rfl (WO.nr (WO.o rfl (R.loadK Tryz.isAgg26 Tryz.sizeOf26 rfl (by rfl) hB_bf.cells) (WO.call rfl rfl rfl (F.call (vs := [_, _]) Tryz.call22 rfl) (nodeAt_ok exF20 3 _ _ _ _ _ hf ex_size ex_bulk) ?_)))
 rintro _ w3 ⟨rfl, hk3⟩
 rw [ex_nodeAt]
 replace hE := hE.ext hk3
 replace hf := RFl.ext hf hk3
 replace hB_bf := hk3.blk hB_bf (fun h => h)
 replace hg := hg.ext stable_nd hk3
 replace hB_bg := hk3.blk hB_bg (fun h => h)
 refine WO.mv rfl rfl (WO.o rfl (R.extract rfl rfl) (WO.o rfl (R.extract rfl rfl) (WO.a rfl rfl (WO.a rfl rfl (WO.nr (WO.o rfl (R.loadK Tryz.isAgg26 Tryz.sizeOf26 rfl (by rfl) hB_bf.cells) (WO.o rfl (R.loadK Tryz.isAgg31 Tryz.sizeOf31 rfl (by rfl) hB_bg.cells) (WO.mem rfl rfl rfl (M.buildSlice (cs := [.int .i64 1]) [(0, _)] Tryz.runUnderlying50 Tryz.sizeOf3 Tryz.zeroValue3 (by decide) rfl (by kernel_rfl)) ?_))))))))
 rintro _ w4 ⟨g4, rfl, hg4, hs4, hB4, hk4⟩
 replace hE := hE.ext hk4
 replace hf := RFl.ext hf hk4
 replace hB_bf := hk4.blk hB_bf (fun h => h)
 replace hg := hg.ext stable_nd hk4
 replace hB_bg := hk4.blk hB_bg (fun h => h)
 have hi1 : SlR 1 RInt (fun _ => True) w4 (.slice (some ⟨g4, 0, none⟩) 1 1) exI20.secret := SlR.ofRow1 encI1 (fun x _ => rfl) (own_blk (k := 1) (n := 1) (cap := 1) hB4 (Nat.le_refl _) (by decide) rfl) (fun _ _ => trivial)
 refine WO.o rfl (R.build (v := .agg #[.slice (some ⟨g4, 0, none⟩) 1 1, .slice none 0 0, .slice none 0 0]) [(0, _)] rfl (fun _ => by kernel_rfl)) (WO.call rfl rfl rfl (F.call (vs := [_, _, _]) Tryz.call27 rfl) (cfgWalk_ok exF20 exG20 exI20 _ _ _ _ _ _ _ (fun _ => True) _ _ (rflWide hf (fun _ _ => trivial)) hg hi1 SlR.nil SlR.nil ex_size ex_bulk) ?_)
 rintro _ w5 ⟨⟨pv, rfl, _, hp⟩, hk5⟩
 rw [ex_walkCode]
 obtain ⟨K, hK, hpv⟩ := hp ex_walkCode
 obtain rfl := hK.unique ex_goes
 rw [ex_path] at hpv
 obtain ⟨ap, cp, rfl⟩ := hpv.form
 replace hE := hE.ext hk5
 replace hf := RFl.ext hf hk5
 replace hB_bf := hk5.blk hB_bf (fun h => h)
 replace hg := hg.ext stable_nd hk5
 replace hB_bg := hk5.blk hB_bg (fun h => h)
 refine WO.mv rfl rfl (WO.o rfl (R.extract rfl rfl) (WO.o rfl (R.extract rfl rfl) (WO.a rfl rfl (WO.a rfl rfl (WO.nr (WO.o rfl (R.loadK Tryz.isAgg26 Tryz.sizeOf26 rfl (by rfl) hB_bf.cells) (WO.o rfl (R.loadK Tryz.isAgg31 Tryz.sizeOf31 rfl (by rfl) hB_bg.cells) (WO.call rfl rfl rfl (F.call (vs := [_, _]) Tryz.call34 rfl) (reaching_ok exF20 exG20 _ _ _ _ _ _ _ hf hg ex_size ex_bulk) ?_))))))))
 rintro _ w6 ⟨⟨rv, rfl, _, hr⟩, hk6⟩
 rw [ex_gcheck]
 obtain ⟨rows, hrows, hrv⟩ := hr ex_gcheck
 rw [ex_graph] at hrows
 obtain ⟨r4, hr4, e4⟩ := ex_row hrows
 have hrl : rows.length = 7 := hrows.1
 obtain ⟨ar, cr, rfl⟩ := hrv.form
 obtain ⟨rb, ro, rc, hra, _, hrc, r4v, rfl, hr4s⟩ := hrv.at hr4
 obtain ⟨xa, xc, rfl⟩ := hr4s.form
 rw [hrl] at hrv ⊢
 replace hE := hE.ext hk6
 replace hf := RFl.ext hf hk6
 replace hB_bf := hk6.blk hB_bf (fun h => h)
 replace hg := hg.ext stable_nd hk6
 replace hB_bg := hk6.blk hB_bg (fun h => h)
 replace hpv := hpv.ext stable_int hk6
 refine WO.mv rfl rfl (WO.o rfl (R.extract rfl rfl) (WO.o rfl (R.extract rfl rfl) (WO.a rfl rfl (WO.a rfl rfl (WO.nr (WO.mv rfl rfl (WO.mv rfl rfl (WO.o rfl (R.add rfl rfl (wrap_i64_in (by omega))) (WO.mv rfl rfl (WO.o rfl (R.add rfl rfl (wrap_i64_in (by omega))) (WO.mv rfl rfl (WO.o rfl (R.add rfl rfl (wrap_i64_in (by omega))) (WO.o rfl (R.eql rfl rfl) (WO.mv rfl rfl (WO.splitP (d := 43) rfl (fun q1 => ?_) (fun q1 => ?_))))))))))))))))
 ·
  refine WO.yes rfl rfl (dT q1) (WO.o rfl (R.fieldAddr Tryz.runUnderlying31 rfl Tryz.sizeOf29 rfl) (WO.yes rfl rfl (dT q1) (WO.o rfl (R.load Tryz.isAgg29 rfl (hB_bg.cells 0 _ rfl)) (WO.yes rfl rfl (dT q1) (WO.o rfl (R.lenS rfl Tryz.runUnderlying29 rfl) (WO.yes rfl rfl (dT q1) (WO.o rfl (R.eql rfl rfl) (WO.o rfl (R.pickT rfl (dT q1) rfl) (WO.mv rfl rfl (WO.splitP (d := 49) rfl (fun q2 => ?_) (fun q2 => ?_)))))))))))
  ·
   have he4 : exG20[4]? = some ⟨5, 2, 5, 6⟩ := rfl
   obtain ⟨eb, eo, ec, hea, _, hec, rfl⟩ := hg.at he4
   refine WO.yes rfl rfl (dT q2) (WO.o rfl (R.fieldAddr Tryz.runUnderlying31 rfl Tryz.sizeOf29 rfl) (WO.yes rfl rfl (dT q2) (WO.o rfl (R.load Tryz.isAgg29 rfl (hB_bg.cells 0 _ rfl)) (WO.yes rfl rfl (dT q2) (WO.o rfl (R.indexS Tryz.runUnderlying29 Tryz.sizeOf40 rfl rfl hea (by decide)) (WO.yes rfl rfl (dT q2) (WO.o rfl (R.loadK Tryz.isAgg40 Tryz.sizeOf40 rfl (by rfl) hec) (WO.yes rfl rfl (dT q2) (WO.o rfl (R.build (v := .agg #[.int .i64 5, .int .i64 2, .int .i64 5, .int .i64 6]) [(0, _), (1, _), (2, _), (3, _)] rfl (fun _ => by kernel_rfl)) (WO.yes rfl rfl (dT q2) (WO.o rfl (eqNd (a := ⟨5, 2, 5, 6⟩) (b := ⟨5, 2, 5, 6⟩) rfl rfl) ?_)))))))))))
   refine WO.o rfl (R.pickT rfl (dT q2) rfl) (WO.mv rfl rfl (WO.splitP (d := 57) rfl (fun q3 => ?_) (fun q3 => ?_)))
   ·
    refine WO.yes rfl rfl (dT q3) (WO.mv rfl rfl (WO.yes rfl rfl (dT q3) (WO.o rfl (R.eql rfl rfl) (WO.o rfl (R.pickT rfl (dT q3) rfl) (WO.mv rfl rfl (WO.splitP (d := 61) rfl (fun q4 => ?_) (fun q4 => ?_)))))))
    ·
     refine WO.yes rfl rfl (dT q4) (WO.mv rfl rfl (WO.yes rfl rfl (dT q4) (WO.mem rfl rfl rfl (M.buildSlice (cs := [.int .i64 0, .int .i64 1, .int .i64 2, .int .i64 3, .int .i64 4, .int .i64 5, .int .i64 4, .int .i64 5, .int .i64 4, .int .i64 6]) [(0, _), (1, _), (2, _), (3, _), (4, _), (5, _), (6, _), (7, _), (8, _), (9, _)] Tryz.runUnderlying50 Tryz.sizeOf3 Tryz.zeroValue3 (by decide) rfl (by kernel_rfl)) ?_)))
     rintro _ w7 ⟨g7, rfl, hg7, hs7, hB7, hk7⟩
     replace hE := hE.ext hk7
     replace hf := RFl.ext hf hk7
     replace hB_bf := hk7.blk hB_bf (fun h => h)
     replace hg := hg.ext stable_nd hk7
     replace hB_bg := hk7.blk hB_bg (fun h => h)
     replace hpv := hpv.ext stable_int hk7
     replace hrc := hk7.cells hrc (fun h => h)
     replace hr4s := hr4s.ext stable_int hk7
     have hc7 : SlR 1 RInt (fun _ => True) w7 (.slice (some ⟨g7, 0, none⟩) 10 10) [0, 1, 2, 3, 4, 5, 4, 5, 4, 6] := SlR.ofRow1 encI1 (fun x _ => rfl) (own_blk (k := 1) (n := 10) (cap := 10) hB7 (Nat.le_refl _) (by decide) rfl) (fun _ _ => trivial)
     refine WO.yes rfl rfl (dT q4) (WO.call rfl rfl rfl (F.call (vs := [_, _]) Tryz.call30 rfl) (equal_ok [0, 1, 2, 3, 4, 5, 4, 5, 4, 6] [0, 1, 2, 3, 4, 5, 4, 5, 4, 6] _ _ _ _ _ hpv hc7) ?_)
     rintro _ wz3 ⟨rfl, hz3⟩
     replace hE := hE.ext hz3
     replace hf := RFl.ext hf hz3
     replace hB_bf := hz3.blk hB_bf (fun h => h)
     replace hg := hg.ext stable_nd hz3
     replace hB_bg := hz3.blk hB_bg (fun h => h)
     replace hpv := hpv.ext stable_int hz3
     replace hrc := hz3.cells hrc (fun h => h)
     replace hr4s := hr4s.ext stable_int hz3
     refine WO.o rfl (R.pickT rfl (dT q4) rfl) (WO.mv rfl rfl (WO.splitP (d := 66) rfl (fun q5 => ?_) (fun q5 => ?_)))
     ·
      refine WO.yes rfl rfl (dT q5) (WO.mv rfl rfl (WO.yes rfl rfl (dT q5) (WO.o rfl (R.lenS rfl Tryz.runUnderlying70 rfl) (WO.yes rfl rfl (dT q5) (WO.o rfl (R.eql rfl rfl) (WO.o rfl (R.pickT rfl (dT q5) rfl) (WO.mv rfl rfl (WO.splitP (d := 71) rfl (fun q6 => ?_) (fun q6 => ?_)))))))))
      ·
       refine WO.yes rfl rfl (dT q6) (WO.mv rfl rfl (WO.yes rfl rfl (dT q6) (WO.o rfl (R.indexS Tryz.runUnderlying70 Tryz.sizeOf50 rfl rfl hra (by decide)) (WO.yes rfl rfl (dT q6) (WO.o rfl (R.load Tryz.isAgg50 rfl (hrc 0 _ rfl)) (WO.yes rfl rfl (dT q6) (WO.mem rfl rfl rfl (M.buildSlice (cs := [.int .i64 1, .int .i64 4, .int .i64 5]) [(0, _), (1, _), (2, _)] Tryz.runUnderlying50 Tryz.sizeOf3 Tryz.zeroValue3 (by decide) rfl (by kernel_rfl)) ?_)))))))
       rintro _ w8 ⟨g8, rfl, hg8, hs8, hB8, hk8⟩
       replace hE := hE.ext hk8
       replace hf := RFl.ext hf hk8
       replace hB_bf := hk8.blk hB_bf (fun h => h)
       replace hg := hg.ext stable_nd hk8
       replace hB_bg := hk8.blk hB_bg (fun h => h)
       replace hpv := hpv.ext stable_int hk8
       replace hrc := hk8.cells hrc (fun h => h)
       replace hr4s := hr4s.ext stable_int hk8
       have hc8 : SlR 1 RInt (fun _ => True) w8 (.slice (some ⟨g8, 0, none⟩) 3 3) [1, 4, 5] := SlR.ofRow1 encI1 (fun x _ => rfl) (own_blk (k := 1) (n := 3) (cap := 3) hB8 (Nat.le_refl _) (by decide) rfl) (fun _ _ => trivial)
       refine WO.yes rfl rfl (dT q6) (WO.call rfl rfl rfl (F.call (vs := [_, _]) Tryz.call30 rfl) (equal_ok r4 [1, 4, 5] _ _ _ _ _ hr4s hc8) ?_)
       rintro _ wz4 ⟨rfl, hz4⟩
       replace hE := hE.ext hz4
       replace hf := RFl.ext hf hz4
       replace hB_bf := hz4.blk hB_bf (fun h => h)
       replace hg := hg.ext stable_nd hz4
       replace hB_bg := hz4.blk hB_bg (fun h => h)
       replace hpv := hpv.ext stable_int hz4
       replace hrc := hz4.cells hrc (fun h => h)
       replace hr4s := hr4s.ext stable_int hz4
       refine WO.o rfl (R.pickT rfl (dT q6) rfl) (WO.a rfl rfl (WO.nil (WX.next (WC.ret ?_))))
       refine WX.ret1 Tryz.results14 rfl ⟨_, rfl, by rw [decide_eq_true e4], hE⟩
      · exact absurd (by decide) q6
     · exact absurd (by decide) q5
    · exact absurd (by decide) q4
   · exact absurd (by decide) q3
  · exact absurd (by decide) q2
 · exact absurd (by decide) q1
theorem width_ok (l : List St) : ∀ (v : Value) (D : Nat → Prop) (w : World), SlR 10 RSt D w v l → ssize l ≤ 1000000 → Calls Tryz.prog 68 #[v] w (Ret fun r w' => r = .int .i64 (widL l) ∧ Ext w w') := by
 induction l using Sts.ind with
 | h l ih =>
 intro v D w hl hsz
 have hlen := slen_ssize l
 obtain ⟨ao, cap, rfl⟩ := hl.form
 refine calls Tryz.func68 rfl [(0, .slice ao l.length cap)] 29 ⟨Nat.le_of_ble_eq_true rfl, Tryz.ntmps68⟩ (argsOk (Sub.of rfl)) ?_
 refine WC.sr (WO.a rfl rfl (WO.nr (WO.a rfl rfl (WO.nil (WX.next (WC.seq (WC.seq (WC.region ?_))))))))
 refine WO.mv rfl rfl (WO.o rfl (R.lenS rfl Tryz.runUnderlying24 rfl) (WO.mv rfl rfl (WO.nil (WX.next (WC.block ?_)))))
 refine WC.loop (σ := Nat) (fun i => [(3, .int .i64 (widL (l.take i))), (6, .slice ao l.length cap), (7, .int .i64 l.length), (8, .int .i64 i)]) (fun i => fun w' => i ≤ l.length ∧ Ext w w') (fun i => l.length - i) (0) (Sub.of rfl) (⟨Nat.zero_le _, Keep.refl _ _⟩) ?_
 rintro i w1 ⟨hi, hL1⟩
 show WC _ _ _ _ [(3, .int .i64 (widL (l.take i))), (6, .slice ao l.length cap), (7, .int .i64 l.length), (8, .int .i64 i)] _
 replace hl := hl.ext stable_st hL1
 refine WC.sr (WO.o rfl (R.lss rfl rfl) (WO.nil (WX.next (WC.seq ?_))))
 refine WC.ite rfl (fun hlt => ?_) (fun hge => ?_)
 ·
  obtain ⟨s, he_s⟩ : ∃ x, l[i]? = some x := ⟨_, List.getElem?_eq_getElem (by omega)⟩
  have hm_s := List.mem_of_getElem? he_s
  obtain ⟨b_s, o_s, c_s, ha_s, _, hc_s, hR_s⟩ := hl.at he_s
  have h1_s := RSt.one hR_s
  obtain ⟨v1_s, v2_s, v3_s, v4_s, rfl, hk_s, ht_s, hs_s, hb_s⟩ := hR_s.get
  obtain ⟨a1_s, n1_s, rfl⟩ := hk_s.form
  obtain ⟨a2_s, n2_s, rfl⟩ := ht_s.form
  obtain ⟨a3_s, n3_s, rfl⟩ := hs_s.form
  obtain ⟨a4_s, n4_s, rfl⟩ := hb_s.form
  have hlt_s : b_s < _ := World.block_lt_of_cell? _ _ (hc_s 0 _ rfl)
  have hsp := ssize_split he_s
  have hse := s.size_eq
  have hwe := s.wid_eq
  have hwt := widL_take he_s
  have hw0 := widL_le l
  have hw1' := widL_split he_s
  have hw2 := widL_le s.thn
  have hw3 := widL_le s.els
  have hE := Keep.refl (fun _ => False) w1
  refine WC.skip (WX.next (WC.seq (WC.block (WC.seq (WC.region (WO.o rfl (R.indexS Tryz.runUnderlying24 Tryz.sizeOf86 rfl rfl ha_s (by omega)) (WO.o rfl (R.loadK Tryz.isAgg86 Tryz.sizeOf86 rfl (by rfl) hc_s) (WO.mem rfl rfl rfl (M.alloc (cs := _) Tryz.zeroValue86 rfl) ?_))))))))
  rintro _ wa1 ⟨b, rfl, hg_b, hs_b, hB_b, hk_b⟩
  refine WO.mem0 rfl rfl (M.storeK Tryz.sizeOf86 rfl rfl rfl rfl h1_s hB_b (by simp)) ?_
  rintro w_b ⟨_, hB_b, hkk_b⟩
  replace hk_b := hk_b.trans hkk_b (fun q hq h => by have h : q = b := h; omega)
  have hge_b : _ ≤ b := Nat.le_trans hE.size (Nat.le_of_eq hg_b.symm)
  replace hl := hl.ext stable_st hk_b
  replace hL1 := hL1.ext hk_b
  replace hc_s := hk_b.cells hc_s (fun h => h)
  replace hk_s := hk_s.ext stable_tm hk_b
  replace ht_s := ht_s.ext stable_st hk_b
  replace hs_s := hs_s.ext stable_st hk_b
  replace hb_s := hb_s.ext stable_int hk_b
  replace hE := hE.ext hk_b
  refine WO.nil (WX.next (WC.seq (WC.draw (fun q => Ext w_b q) [] (by kernel_rfl) (fun wd2 hD _ => ?_))))
  refine WD.takeW 0 rfl (by kernel_rfl) rfl rfl rfl (fun w1 => R.move rfl) (WD.takeW 1 rfl (by kernel_rfl) rfl rfl rfl (fun w1 => R.fieldAddr Tryz.runUnderlying86 rfl Tryz.sizeOf24 rfl) (WD.take 2 rfl (by kernel_rfl) rfl rfl rfl hD (fun w1 hw1 => R.load Tryz.isAgg24 rfl ((hw1.blk hB_b (fun h => h)).cells 7 _ rfl)) (WD.takeW 5 rfl (by kernel_rfl) rfl rfl rfl (fun w1 => R.fieldAddr Tryz.runUnderlying86 rfl Tryz.sizeOf24 rfl) (WD.take 6 rfl (by kernel_rfl) rfl rfl rfl hD (fun w1 hw1 => R.load Tryz.isAgg24 rfl ((hw1.blk hB_b (fun h => h)).cells 8 _ rfl)) (WD.call 3 rfl (by kernel_rfl) rfl rfl rfl (F.call (vs := [_]) Tryz.call68 rfl) ((ih s hm_s).1 _ D _ (ht_s.ext stable_st hD) (by omega)) ?_)))))
  rintro _ wz3 ⟨rfl, hz3⟩
  replace hD := hD.ext hz3
  refine ⟨fun _ => hD, ?_⟩
  refine WD.takeW 4 rfl (by kernel_rfl) rfl rfl rfl (fun w1 => R.add rfl rfl (wrap_i64_in (by omega))) (WD.call 7 rfl (by kernel_rfl) rfl rfl rfl (F.call (vs := [_]) Tryz.call68 rfl) ((ih s hm_s).2 _ D _ (hs_s.ext stable_st hD) (by omega)) ?_)
  rintro _ wz4 ⟨rfl, hz4⟩
  replace hD := hD.ext hz4
  refine ⟨fun _ => hD, ?_⟩
  refine WD.takeW 8 rfl (by kernel_rfl) rfl rfl rfl (fun w1 => R.add rfl rfl (wrap_i64_in (by omega))) (WD.takeW 9 rfl (by kernel_rfl) rfl rfl rfl (fun w1 => R.add rfl rfl (wrap_i64_in (by omega))) (WD.takeW 10 rfl (by kernel_rfl) rfl rfl rfl (fun w1 => R.assign rfl) (WD.done (by kernel_rfl) ?_ _)))
  replace hl := hl.ext stable_st hD
  replace hL1 := hL1.ext hD
  replace hc_s := hD.cells hc_s (fun h => h)
  replace hk_s := hk_s.ext stable_tm hD
  replace ht_s := ht_s.ext stable_st hD
  replace hs_s := hs_s.ext stable_st hD
  replace hb_s := hb_s.ext stable_int hD
  replace hE := hE.ext hD
  replace hB_b := hD.blk hB_b (fun h => h)
  refine WX.next (WC.seq (WC.region (WO.o rfl (R.fieldAddr Tryz.runUnderlying86 rfl Tryz.sizeOf80 rfl) (WO.o rfl (R.load Tryz.isAgg80 rfl (hB_b.cells 0 _ rfl)) (WO.o rfl (R.eql rfl rfl) (WO.nil (WX.next ?_)))))))
  refine WC.ite rfl (fun h4 => ?_) (fun h4 => ?_)
  ·
   rw [if_pos h4] at hwe
   refine WC.region (WO.mv rfl rfl (WO.o rfl (R.add rfl rfl (wrap_i64_in (by omega))) (WO.a rfl rfl (WO.nil (WX.blockN (WX.next (WC.region ?_)))))))
   refine WO.o rfl (R.add rfl rfl (wrap_i64_in (by omega))) (WO.mv rfl rfl (WO.nil (WX.back (i + 1) (Sub.cons (slotI rfl (by rw [hwt]; omega)) (Sub.of rfl)) (⟨by omega, hL1⟩) (by first | omega | (dsimp only; omega)))))
  ·
   rw [if_neg h4] at hwe
   refine WC.skip (WX.blockN (WX.next (WC.region (WO.o rfl (R.add rfl rfl (wrap_i64_in (by omega))) (WO.mv rfl rfl (WO.nil (WX.back (i + 1) (Sub.cons (slotI rfl (by rw [hwt]; omega)) (Sub.of rfl)) (⟨by omega, hL1⟩) (by first | omega | (dsimp only; omega)))))))))
 ·
  have : i = l.length := by omega
  subst this
  refine WC.exit (WX.thenE (WX.thenE (WX.hit (WX.next (WC.seq (WC.region (WO.mv rfl rfl (WO.a rfl rfl (WO.nil (WX.next (WC.ret ?_)))))))))))
  refine WX.ret1 Tryz.results68 rfl ⟨_, rfl, by rw [List.take_length], hL1⟩
theorem SlR.mid {α : Type} {k : Nat} {R : Rel α} {D : Nat → Prop} {w : World} {ao : Option Addr} {n c i : Nat} {l : List α} {x : α} (h : SlR k R D w (.slice ao n c) l) (hx : l[i]? = some x) : SlR k R D w (.slice (if c = (i : Int).toNat then ao else ao.map (·.add ((i : Int).toNat * k))) (((i : Int) + 1).toNat - (i : Int).toNat) (c - (i : Int).toNat)) [x] := by
 have hi := (List.getElem?_eq_some_iff.1 hx).1
 have h1 := (h.drop i (by omega)).take 1 (by rw [List.length_drop]; omega)
 rw [drop_cons hx] at h1
 rw [Int.toNat_natCast, show ((i : Int) + 1).toNat - i = 1 by omega]
 exact h1
theorem app_ext {w w1 w2 : World} {vo vo' : Value} {n : Nat} {xs : List Value} (hE : Ext w w1) (hf : ∀ g, vo.ownBlock = some g → w.heap.size ≤ g) (hk : Keep (fun k => vo.ownBlock = some k) w1 w2) (hfr : vo'.ownBlock = vo.ownBlock ∨ ∃ g, vo'.ownBlock = some g ∧ w1.heap.size ≤ g) (_ : w1.ownsRow 0 40 4 vo n xs) :
  Ext w w2 ∧ (∀ g, vo'.ownBlock = some g → w.heap.size ≤ g) := by
 refine ⟨Keep.trans hE hk (fun k hk h => by have := hf k h; omega), fun g hg => ?_⟩
 rcases hfr with h | ⟨g', h, h'⟩
 · exact hf g (by rw [← h]; exact hg)
 ·
  rw [h] at hg; cases hg
  have := hE.size
  omega
theorem app_blk {w1 w2 : World} {vo : Value} {n : Nat} {xs : List Value} {c : Nat} {cs : List Value} {e : TypeId} (ho : w1.ownsRow 0 40 4 vo n xs) (hk : Keep (fun k => vo.ownBlock = some k) w1 w2) (hb : Blk w1 c cs e) (he : e ≠ 40) : Blk w2 c cs e :=
 hk.blk hb (fun h => by obtain ⟨cs', hb'⟩ := own_blkty ho h; exact he (hb.ty hb').1)
theorem flatN1 (x : Nd) : [x].flatMap encN = encN x := by simp
theorem encNs_one (l : List Nd) : ∀ u ∈ l.flatMap encN, u.oneCell' = true := by
 intro u hu
 obtain ⟨x, _, hx⟩ := List.mem_flatMap.1 hu
 exact encN_one x u hx
theorem lay_len_le (l : List St) : ∀ a n e, (layL l a n e).length ≤ widL l := by
 induction l using Sts.ind with
 | h l ih =>
 have key : ∀ r : List St, (∀ x ∈ r, x ∈ l) → ∀ a n e, (layL r a n e).length ≤ widL r := by
  intro r
  induction r with
  | nil => intro _ a n e; simp [layL]
  | cons s r ihr =>
   intro hm a n e
   have h1 := (ih s (hm s (List.mem_cons_self ..))).1
   have h2 := (ih s (hm s (List.mem_cons_self ..))).2
   have h3 := ihr (fun y hy => hm y (List.mem_cons_of_mem _ hy)) (a + s.size) (n + s.wid) e
   have hw := s.wid_eq
   have h4 : ∀ a n e, (s.lay a n e).length ≤ s.wid := by
    intro a n e
    rw [s.lay_eq]
    split
    ·
     rw [List.length_cons, List.length_append]
     have := h1 (a + 1) (n + 1) e
     have := h2 (a + 1 + ssize s.thn) (n + 1 + widL s.thn) e
     omega
    ·
     split
     ·
      rename_i a4
      rw [if_pos a4] at hw
      have := h1 (a + 1) (n + 2) (n + 1)
      simp only [List.length_cons]
      omega
     · simp; omega
   have := h4 a n (if r.isEmpty = true then e else n + s.wid)
   rw [layL, List.length_append, widL]
   omega
 exact key l (fun x h => h)
theorem isEmpty_f {α : Type} {l : List α} (h : (0 : Int) < (l.length : Int)) : l.isEmpty = false := by cases l <;> simp_all
theorem isEmpty_t {α : Type} {l : List α} (h : ¬ (0 : Int) < (l.length : Int)) : l.isEmpty = true := by
 cases l
 · rfl
 · simp at h
theorem lay_ok (l : List St) : ∀ (v : Value) (D : Nat → Prop) (w : World) (at_ node after : Nat), SlR 10 RSt D w v l → ssize l ≤ 10000 → at_ + ssize l ≤ 100000 → node + widL l ≤ 100000 → Calls Tryz.prog 69 #[v, .int .i64 at_, .int .i64 node, .int .i64 after] w (Ret fun r w' => w'.ownsRow 0 40 4 r (layL l at_ node after).length ((layL l at_ node after).flatMap encN) ∧ (∀ g, r.ownBlock = some g → w.heap.size ≤ g) ∧ Ext w w') := by
 induction l using Sts.ind with
 | h l ih =>
 intro v D0 w at_ node after hl00 hsz hat hnode
 have hl0 := hl00.narrow (by decide) narrow_st
 generalize hDD : (fun b => D0 b ∧ b < w.heap.size) = D at hl0
 have hDw : ∀ q, D q → q < w.heap.size := fun q h => by rw [← hDD] at h; exact h.2
 have hlen := slen_ssize l
 have hwl := widL_le l
 obtain ⟨av, cv, rfl⟩ := hl0.form
 have hmx := hl0.max
 have hcap := hl0.len_cap.2
 refine calls Tryz.func69 rfl [(0, .slice av l.length cv), (1, .int .i64 at_), (2, .int .i64 node), (3, .int .i64 after)] 145 ⟨Nat.le_of_ble_eq_true rfl, Tryz.ntmps69⟩ (argsOk (Sub.of rfl)) ?_
 refine WC.sr (WO.a rfl rfl (WO.nr (WO.a rfl rfl (WO.nil (WX.next (WC.seq (WC.seq (WC.region ?_))))))))
 refine WO.mv rfl rfl (WO.o rfl (R.lenS rfl Tryz.runUnderlying24 rfl) (WO.mv rfl rfl (WO.nil (WX.next (WC.block ?_)))))
 refine WC.loop (σ := Nat × Value) (fun ⟨i, vo⟩ => [(0, .slice av l.length cv), (1, .int .i64 (at_ + ssize (l.take i) : Nat)), (2, .int .i64 (node + widL (l.take i) : Nat)), (3, .int .i64 after), (9, vo), (17, .slice av l.length cv), (18, .int .i64 l.length), (19, .int .i64 i)]) (fun ⟨i, vo⟩ => fun w' => i ≤ l.length ∧ (∃ pre : List Nd, w'.ownsRow 0 40 4 vo pre.length (pre.flatMap encN) ∧ pre.length ≤ widL (l.take i) ∧ pre ++ layL (l.drop i) (at_ + ssize (l.take i)) (node + widL (l.take i)) after = layL l at_ node after) ∧ (∀ g, vo.ownBlock = some g → w.heap.size ≤ g) ∧ Ext w w') (fun ⟨i, vo⟩ => l.length - i) ((0, .slice none 0 0)) (Sub.of rfl) (⟨Nat.zero_le _, ⟨[], own_nil _ _ _, by simp, by simp [ssize, widL]⟩, fun g hg => by simp [Value.ownBlock] at hg, Keep.refl _ _⟩) ?_
 rintro ⟨i, vo⟩ w1 ⟨hi, ⟨pre, ho, hpl, hpre⟩, hf, hE⟩
 show WC _ _ _ _ [(0, .slice av l.length cv), (1, .int .i64 (at_ + ssize (l.take i) : Nat)), (2, .int .i64 (node + widL (l.take i) : Nat)), (3, .int .i64 after), (9, vo), (17, .slice av l.length cv), (18, .int .i64 l.length), (19, .int .i64 i)] _
 have hl := hl0.ext stable_st hE
 refine WC.sr (WO.o rfl (R.lss rfl rfl) (WO.nil (WX.next (WC.seq ?_))))
 refine WC.ite rfl (fun hlt => ?_) (fun hge => ?_)
 ·
  obtain ⟨s, he⟩ : ∃ x, l[i]? = some x := ⟨_, List.getElem?_eq_getElem (by omega)⟩
  have hm := List.mem_of_getElem? he
  obtain ⟨bq, oq, cq, haq, _, hcq, hRq⟩ := hl.at he
  have hone := hRq.one
  have hws := widL_split he
  have hwt := widL_take he
  have hzs := ssize_split he
  have hzt := ssize_take he
  have hwe := s.wid_eq
  have hze := s.size_eq
  have hwl1 := widL_le s.thn
  have hwl2 := widL_le s.els
  obtain ⟨v1, v2, v3, v4, rfl, q1, q2, q3, q4⟩ := hRq.get
  obtain ⟨p2, n2, rfl⟩ := q2.form
  obtain ⟨p3, n3, rfl⟩ := q3.form
  rw [drop_cons he, layL] at hpre
  generalize hA : at_ + ssize (l.take i) = A at *
  generalize hN : node + widL (l.take i) = N at *
  refine WC.skip (WX.next (WC.seq (WC.block (WC.seq (WC.region (WO.mv rfl rfl (WO.o rfl (R.indexS Tryz.runUnderlying24 Tryz.sizeOf86 rfl rfl haq (by omega)) (WO.o rfl (R.loadK Tryz.isAgg86 Tryz.sizeOf86 rfl (by rfl) hcq) (WO.mem rfl rfl rfl (M.alloc (cs := _) Tryz.zeroValue86 rfl) ?_)))))))))
  rintro _ w2 ⟨c, rfl, hc, hsc, hBc0, hk2⟩
  refine WO.a rfl rfl (WO.mem0 rfl rfl (M.storeK Tryz.sizeOf86 rfl rfl rfl rfl hone hBc0 (by simp)) ?_)
  rintro w3 ⟨_, hBc, hkc⟩
  have hk3 : Ext w1 w3 := hk2.trans hkc (fun q hq h => by have h : q = c := h; omega)
  replace hE := hE.ext hk3
  replace ho := own_keep ho hk3 (fun _ _ h => h)
  replace hBc : Blk w3 c [.int .i64 s.act, .int .i64 s.cost, .int .i64 s.var, .int .i64 s.n, .int .i64 s.term.op, .int .i64 s.term.n, v1, .slice p2 s.thn.length n2, .slice p3 s.els.length n3, v4] 86 := hBc
  refine WO.nr (WO.mv rfl rfl (WO.mv rfl rfl (WO.mv rfl rfl (WO.mv rfl rfl (WO.o rfl (R.add rfl rfl (wrap_i64_in (by omega))) (WO.o rfl (R.sliceLH Tryz.runUnderlying24 Tryz.sizeOf86 rfl rfl rfl (by omega) (by omega)) (WO.call rfl rfl rfl (F.call (vs := [_]) Tryz.call68 rfl) (width_ok [s] _ D _ (SlR.mid (hl.ext stable_st hk3) he) (by simp only [ssize]; omega)) ?_)))))))
  rintro _ w4 ⟨rfl, hk4⟩
  replace hE := hE.ext hk4
  replace ho := own_keep ho hk4 (fun _ _ h => h)
  replace hBc := hk4.blk hBc (fun h => h)
  have hw1 : widL [s] = s.wid := by simp [widL]
  rw [hw1]
  refine WO.o rfl (R.add rfl rfl (wrap_i64_in (by omega))) (WO.a rfl rfl (WO.nr (WO.mv rfl rfl (WO.a rfl rfl (WO.nil (WX.next (WC.seq (WC.seq (WC.region ?_)))))))))
  refine WO.mv rfl rfl (WO.mv rfl rfl (WO.o rfl (R.lenS rfl Tryz.runUnderlying24 rfl) (WO.o rfl (R.sub rfl rfl (wrap_i64_in (by omega))) (WO.o rfl (R.eql rfl rfl) (WO.nil (WX.next ?_))))))
  refine WC.cut (σ := Unit) (fun u => [(0, .slice av l.length cv), (1, .int .i64 A), (2, .int .i64 N), (3, .int .i64 after), (9, vo), (10, .int .i64 i), (11, .pointer (some ⟨c, 0, none⟩)), (12, .int .i64 ((N : Int) + s.wid)), (13, .int .i64 (if (l.drop (i + 1)).isEmpty then after else N + s.wid : Nat)), (17, .slice av l.length cv), (18, .int .i64 l.length), (19, .int .i64 i)]) (fun u => fun w' => w' = w4) ?_ ?_
  ·
   refine WC.ite rfl (fun hl1 => ?_) (fun hl1 => ?_)
   ·
    have e : (l.drop (i + 1)).isEmpty = true := by rw [List.isEmpty_iff, List.drop_eq_nil_iff]; omega
    refine WC.region (WO.mv rfl rfl (WO.a rfl rfl (WO.nil (WX.meet (()) (Sub.cons rfl (Sub.cons rfl (Sub.cons rfl (Sub.cons rfl (Sub.cons rfl (Sub.cons rfl (Sub.cons rfl (Sub.cons rfl (Sub.cons (slotI rfl (by rw [if_pos e])) (Sub.of rfl)))))))))) (rfl)))))
   ·
    have e : ¬ (l.drop (i + 1)).isEmpty = true := by rw [List.isEmpty_iff, List.drop_eq_nil_iff]; omega
    refine WC.skip (WX.meet (()) (Sub.cons rfl (Sub.cons rfl (Sub.cons rfl (Sub.cons rfl (Sub.cons rfl (Sub.cons rfl (Sub.cons rfl (Sub.cons rfl (Sub.cons (slotI rfl (by rw [if_neg e]; omega)) (Sub.of rfl)))))))))) (rfl))
  rintro u w4' hw4
  show WX _ _ _ [(0, .slice av l.length cv), (1, .int .i64 A), (2, .int .i64 N), (3, .int .i64 after), (9, vo), (10, .int .i64 i), (11, .pointer (some ⟨c, 0, none⟩)), (12, .int .i64 ((N : Int) + s.wid)), (13, .int .i64 (if (l.drop (i + 1)).isEmpty then after else N + s.wid : Nat)), (17, .slice av l.length cv), (18, .int .i64 l.length), (19, .int .i64 i)] _
  subst hw4
  generalize hX : (if (l.drop (i + 1)).isEmpty then after else N + s.wid) = X at *
  refine WX.next (WC.seq (WC.seq (WC.region (WO.o rfl (R.fieldAddr Tryz.runUnderlying86 rfl Tryz.sizeOf80 rfl) (WO.o rfl (R.load Tryz.isAgg80 rfl (hBc.cells 0 _ rfl)) (WO.nil (WX.next (WC.block (WC.seq (WC.region ?_))))))))))
  refine WO.o rfl (R.eql rfl rfl) (WO.a rfl rfl (WO.nil (WX.next ?_)))
  refine WC.cut (σ := Value) (fun vo' => [(0, .slice av l.length cv), (1, .int .i64 A), (2, .int .i64 N), (3, .int .i64 after), (9, vo'), (10, .int .i64 i), (11, .pointer (some ⟨c, 0, none⟩)), (12, .int .i64 ((N : Int) + s.wid)), (17, .slice av l.length cv), (18, .int .i64 l.length), (19, .int .i64 i)]) (fun vo' => fun w' => w'.ownsRow 0 40 4 vo' (pre ++ s.lay A N X).length ((pre ++ s.lay A N X).flatMap encN) ∧ (pre ++ s.lay A N X).length ≤ widL (l.take (i + 1)) ∧ (∀ g, vo'.ownBlock = some g → w.heap.size ≤ g) ∧ Ext w w') ?_ ?_
  ·
   refine WC.ite rfl (fun a3 => ?_) (fun a3 => ?_)
   ·
    rw [if_neg (show ¬ s.act = 4 by omega)] at hwe
    refine WC.sr (WO.mv rfl rfl (WO.mv rfl rfl (WO.a rfl rfl (WO.a rfl rfl (WO.nil (WX.next (WC.seq (WC.seq (WC.region ?_)))))))))
    refine WO.o rfl (R.fieldAddr Tryz.runUnderlying86 rfl Tryz.sizeOf24 rfl) (WO.o rfl (R.load Tryz.isAgg24 rfl (hBc.cells 7 _ rfl)) (WO.o rfl (R.lenS rfl Tryz.runUnderlying24 rfl) (WO.o rfl (R.gtr rfl rfl) (WO.nil (WX.next ?_)))))
    refine WC.cut (σ := Unit) (fun u => [(0, .slice av l.length cv), (1, .int .i64 A), (2, .int .i64 N), (3, .int .i64 after), (9, vo), (10, .int .i64 i), (11, .pointer (some ⟨c, 0, none⟩)), (12, .int .i64 ((N : Int) + s.wid)), (13, .int .i64 X), (17, .slice av l.length cv), (18, .int .i64 l.length), (19, .int .i64 i), (14, .int .i64 (if s.thn.isEmpty then X else N + 1 : Nat)), (15, .int .i64 X)]) (fun u => fun w' => w' = w4') ?_ ?_
    ·
     refine WC.ite rfl (fun g1 => ?_) (fun g1 => ?_)
     · refine WC.region (WO.mv rfl rfl (WO.o rfl (R.add rfl rfl (wrap_i64_in (by omega))) (WO.a rfl rfl (WO.nil (WX.meet (()) (Sub.cons rfl (Sub.cons rfl (Sub.cons rfl (Sub.cons rfl (Sub.cons rfl (Sub.cons rfl (Sub.cons rfl (Sub.cons rfl (Sub.cons rfl (Sub.cons rfl (Sub.cons rfl (Sub.cons rfl (Sub.cons (slotI rfl (by rw [isEmpty_f g1]; simp)) (Sub.of rfl)))))))))))))) (rfl))))))
     · refine WC.skip (WX.meet (()) (Sub.cons rfl (Sub.cons rfl (Sub.cons rfl (Sub.cons rfl (Sub.cons rfl (Sub.cons rfl (Sub.cons rfl (Sub.cons rfl (Sub.cons rfl (Sub.cons rfl (Sub.cons rfl (Sub.cons rfl (Sub.cons (slotI rfl (by rw [isEmpty_t g1]; simp)) (Sub.of rfl)))))))))))))) (rfl))
    rintro u w5 hw5
    show WX _ _ _ [(0, .slice av l.length cv), (1, .int .i64 A), (2, .int .i64 N), (3, .int .i64 after), (9, vo), (10, .int .i64 i), (11, .pointer (some ⟨c, 0, none⟩)), (12, .int .i64 ((N : Int) + s.wid)), (13, .int .i64 X), (17, .slice av l.length cv), (18, .int .i64 l.length), (19, .int .i64 i), (14, .int .i64 (if s.thn.isEmpty then X else N + 1 : Nat)), (15, .int .i64 X)] _
    subst hw5
    refine WX.next (WC.seq (WC.seq (WC.region (WO.o rfl (R.fieldAddr Tryz.runUnderlying86 rfl Tryz.sizeOf24 rfl) (WO.o rfl (R.load Tryz.isAgg24 rfl (hBc.cells 8 _ rfl)) (WO.o rfl (R.lenS rfl Tryz.runUnderlying24 rfl) (WO.o rfl (R.gtr rfl rfl) (WO.nil (WX.next ?_)))))))))
    refine WC.cut (σ := Unit) (fun u => [(0, .slice av l.length cv), (1, .int .i64 A), (2, .int .i64 N), (3, .int .i64 after), (9, vo), (10, .int .i64 i), (11, .pointer (some ⟨c, 0, none⟩)), (12, .int .i64 ((N : Int) + s.wid)), (13, .int .i64 X), (17, .slice av l.length cv), (18, .int .i64 l.length), (19, .int .i64 i), (14, .int .i64 (if s.thn.isEmpty then X else N + 1 : Nat)), (15, .int .i64 (if s.els.isEmpty then X else N + 1 + widL s.thn : Nat))]) (fun u => fun w' => Ext w5 w') ?_ ?_
    ·
     refine WC.ite rfl (fun g1 => ?_) (fun g1 => ?_)
     ·
      refine WC.region (WO.mv rfl rfl (WO.o rfl (R.add rfl rfl (wrap_i64_in (by omega))) (WO.o rfl (R.fieldAddr Tryz.runUnderlying86 rfl Tryz.sizeOf24 rfl) (WO.o rfl (R.load Tryz.isAgg24 rfl (hBc.cells 7 _ rfl)) (WO.call rfl rfl rfl (F.call (vs := [_]) Tryz.call68 rfl) (width_ok s.thn _ D _ (q2.ext stable_st (hk3.ext hk4)) (by omega)) ?_)))))
      rintro _ w5 ⟨rfl, hk5⟩
      refine WO.o rfl (R.add rfl rfl (wrap_i64_in (by omega))) (WO.a rfl rfl (WO.nil (WX.meet (()) (Sub.cons rfl (Sub.cons rfl (Sub.cons rfl (Sub.cons rfl (Sub.cons rfl (Sub.cons rfl (Sub.cons rfl (Sub.cons rfl (Sub.cons rfl (Sub.cons rfl (Sub.cons rfl (Sub.cons rfl (Sub.cons rfl (Sub.cons (slotI rfl (by rw [isEmpty_f g1]; simp)) Sub.nil)))))))))))))) (hk5))))
     · refine WC.skip (WX.meet (()) (Sub.cons rfl (Sub.cons rfl (Sub.cons rfl (Sub.cons rfl (Sub.cons rfl (Sub.cons rfl (Sub.cons rfl (Sub.cons rfl (Sub.cons rfl (Sub.cons rfl (Sub.cons rfl (Sub.cons rfl (Sub.cons rfl (Sub.cons (slotI rfl (by rw [isEmpty_t g1]; simp)) Sub.nil)))))))))))))) (Keep.refl _ _))
    rintro u w6 hk5
    show WX _ _ _ [(0, .slice av l.length cv), (1, .int .i64 A), (2, .int .i64 N), (3, .int .i64 after), (9, vo), (10, .int .i64 i), (11, .pointer (some ⟨c, 0, none⟩)), (12, .int .i64 ((N : Int) + s.wid)), (13, .int .i64 X), (17, .slice av l.length cv), (18, .int .i64 l.length), (19, .int .i64 i), (14, .int .i64 (if s.thn.isEmpty then X else N + 1 : Nat)), (15, .int .i64 (if s.els.isEmpty then X else N + 1 + widL s.thn : Nat))] _
    have hE5 := hE.ext hk5
    have ho5 := own_keep ho hk5 (fun _ _ h => h)
    have hBc5 := hk5.blk hBc (fun h => h)
    refine WX.next (WC.seq (WC.region (WO.mv rfl rfl (WO.mv rfl rfl (WO.mv rfl rfl (WO.mv rfl rfl (WO.o rfl (R.build (v := .agg #[.int .i64 3, .int .i64 A, .int .i64 (if s.thn.isEmpty then X else N + 1 : Nat), .int .i64 (if s.els.isEmpty then X else N + 1 + widL s.thn : Nat)]) [(0, _), (1, _), (2, _), (3, _)] rfl (fun _ => by kernel_rfl)) (WO.mem rfl rfl rfl (M.buildSlice (cs := encN ⟨3, A, (if s.thn.isEmpty then X else N + 1 : Nat), (if s.els.isEmpty then X else N + 1 + widL s.thn : Nat)⟩) [(0, _)] Tryz.runUnderlying29 Tryz.sizeOf40 Tryz.zeroValue40 (by decide) rfl (by kernel_rfl)) ?_))))))))
    rintro _ w6 ⟨g6, rfl, hg6, hs6, hB6, hk6⟩
    have hE6 := hE5.ext hk6
    have ho6 := own_keep ho5 hk6 (fun _ _ h => h)
    have hBc6 := hk6.blk hBc5 (fun h => h)
    refine WO.mem rfl rfl rfl (M.append Tryz.underlying29 Tryz.el40 rfl (by decide) rfl rfl ho6 rfl (Cells.add hB6.cells) (encN_one _) (by omega) (by omega)) ?_
    rintro vo7 w7 ⟨ho7, hf7, hk7, _⟩
    obtain ⟨hE7, hfr7⟩ := app_ext hE6 hf hk7 hf7 ho6
    have hBc7 := app_blk ho6 hk7 hBc6 (by decide)
    have hA7 : Above w.heap.size w1 w7 := Above.then (Above.of_ext ((hk3.ext hk4).ext (hk5.ext hk6))) (Above.of_keep hk7 hf)
    refine WO.a rfl rfl (WO.nr (WO.mv rfl rfl (WO.o rfl (R.fieldAddr Tryz.runUnderlying86 rfl Tryz.sizeOf24 rfl) (WO.o rfl (R.load Tryz.isAgg24 rfl (hBc7.cells 7 _ rfl)) (WO.mv rfl rfl (WO.o rfl (R.add rfl rfl (wrap_i64_in (by omega))) (WO.mv rfl rfl (WO.o rfl (R.add rfl rfl (wrap_i64_in (by omega))) (WO.mv rfl rfl (WO.call rfl rfl rfl (F.call (vs := [_, _, _, _]) Tryz.call69 rfl) ((ih s hm).1 _ D w7 (A + 1) (N + 1) X (hA7.sl stable_st q2 hDw) (by omega) (by omega) (by omega)) ?_))))))))))
    rintro r8 w8 ⟨hr8, hrf8, hk8⟩
    have hE8 := hE7.ext hk8
    have ho8 := own_keep ho7 hk8 (fun _ _ h => h)
    have hBc8 := hk8.blk hBc7 (fun h => h)
    have hll8 := lay_len_le s.thn (A + 1) (N + 1) X
    refine WO.mem rfl rfl rfl (M.appendO Tryz.underlying29 Tryz.el40 rfl (by decide) rfl rfl ho8 hr8 (encNs_one _) (by omega) (by omega)) ?_
    rintro vo9 w9 ⟨ho9, hf9, hk9⟩
    obtain ⟨hE9, hfr9⟩ := app_ext hE8 hfr7 hk9 hf9 ho8
    have hBc9 := app_blk ho8 hk9 hBc8 (by decide)
    have hA9 := Above.then (hA7.ext' hk8) (Above.of_keep hk9 hfr7)
    refine WO.a rfl rfl (WO.nil (WX.next ?_))
    refine WC.draw (fun q => Blk q c [.int .i64 s.act, .int .i64 s.cost, .int .i64 s.var, .int .i64 s.n, .int .i64 s.term.op, .int .i64 s.term.n, v1, .slice p2 s.thn.length n2, .slice p3 s.els.length n3, v4] 86) [] (by kernel_rfl) (fun x0 xk0 _ => ?_)
    have xE0 := hE9.ext xk0
    have xA0 := hA9.ext' xk0
    have xo0 := own_keep ho9 xk0 (fun _ _ h => h)
    have xB0 := xk0.blk hBc9 (fun h => h)
    refine WD.takeW 0 rfl (by kernel_rfl) rfl rfl rfl (fun w1 => R.move rfl) (WD.takeW 1 rfl (by kernel_rfl) rfl rfl rfl (fun w1 => R.fieldAddr Tryz.runUnderlying86 rfl Tryz.sizeOf24 rfl) (WD.take 2 rfl (by kernel_rfl) rfl rfl rfl xB0 (fun w1 hw1 => R.load Tryz.isAgg24 rfl (hw1.cells 8 _ rfl)) (WD.takeW 3 rfl (by kernel_rfl) rfl rfl rfl (fun w1 => R.move rfl) (WD.takeW 4 rfl (by kernel_rfl) rfl rfl rfl (fun w1 => R.add rfl rfl (wrap_i64_in (by omega))) (WD.takeW 5 rfl (by kernel_rfl) rfl rfl rfl (fun w1 => R.fieldAddr Tryz.runUnderlying86 rfl Tryz.sizeOf24 rfl) (WD.take 6 rfl (by kernel_rfl) rfl rfl rfl xB0 (fun w1 hw1 => R.load Tryz.isAgg24 rfl (hw1.cells 7 _ rfl)) ?_))))))
    refine WD.takeW 9 rfl (by kernel_rfl) rfl rfl rfl (fun w1 => R.move rfl) (WD.takeW 10 rfl (by kernel_rfl) rfl rfl rfl (fun w1 => R.add rfl rfl (wrap_i64_in (by omega))) (WD.takeW 11 rfl (by kernel_rfl) rfl rfl rfl (fun w1 => R.fieldAddr Tryz.runUnderlying86 rfl Tryz.sizeOf24 rfl) (WD.take 12 rfl (by kernel_rfl) rfl rfl rfl xB0 (fun w1 hw1 => R.load Tryz.isAgg24 rfl (hw1.cells 7 _ rfl)) (WD.takeW 15 rfl (by kernel_rfl) rfl rfl rfl (fun w1 => R.move rfl) (WD.call 7 rfl (by kernel_rfl) rfl rfl rfl (F.call (vs := [_]) Tryz.call23 rfl) (refSize_ok s.thn _ D x0 (xA0.sl stable_st q2 hDw) (by omega)) ?_)))))
    rintro _ x1 ⟨rfl, xk1⟩
    have xE1 := xE0.ext xk1
    have xA1 := xA0.ext' xk1
    have xo1 := own_keep xo0 xk1 (fun _ _ h => h)
    have xB1 := xk1.blk xB0 (fun h => h)
    refine ⟨fun _ => xB1, ?_⟩
    refine WD.takeW 8 rfl (by kernel_rfl) rfl rfl rfl (fun w1 => R.add rfl rfl (wrap_i64_in (by omega))) (WD.call 13 rfl (by kernel_rfl) rfl rfl rfl (F.call (vs := [_]) Tryz.call68 rfl) (width_ok s.thn _ D x1 (xA1.sl stable_st q2 hDw) (by omega)) ?_)
    rintro _ x2 ⟨rfl, xk2⟩
    have xE2 := xE1.ext xk2
    have xA2 := xA1.ext' xk2
    have xo2 := own_keep xo1 xk2 (fun _ _ h => h)
    have xB2 := xk2.blk xB1 (fun h => h)
    refine ⟨fun _ => xB2, ?_⟩
    refine WD.takeW 14 rfl (by kernel_rfl) rfl rfl rfl (fun w1 => R.add rfl rfl (wrap_i64_in (by omega))) (WD.call 16 rfl (by kernel_rfl) rfl rfl rfl (F.call (vs := [_, _, _, _]) Tryz.call69 rfl) ((ih s hm).2 _ D x2 (A + 1 + ssize s.thn) (N + 1 + widL s.thn) X (xA2.sl stable_st q3 hDw) (by omega) (by omega) (by omega)) ?_)
    rintro r3 x3 ⟨xr3, xrf3, xk3⟩
    have xE3 := xE2.ext xk3
    have xo3 := own_keep xo2 xk3 (fun _ _ h => h)
    have xB3 := xk3.blk xB2 (fun h => h)
    refine ⟨fun _ => xB3, ?_⟩
    have hll3 := lay_len_le s.els (A + 1 + ssize s.thn) (N + 1 + widL s.thn) X
    refine WD.mem 17 rfl (by kernel_rfl) rfl rfl rfl (M.appendO Tryz.underlying29 Tryz.el40 rfl (by decide) rfl rfl xo3 xr3 (encNs_one _) (by omega) (by omega)) ?_
    rintro vo4 x4 ⟨xo4, xf4, xk4⟩
    obtain ⟨xE4, xfr4⟩ := app_ext xE3 hfr9 xk4 xf4 xo3
    have xB4 := app_blk xo3 xk4 xB3 (by decide)
    refine ⟨fun _ => xB4, ?_⟩
    refine WD.takeW 18 rfl (by kernel_rfl) rfl rfl rfl (fun w1 => R.assign rfl) (WD.done (by kernel_rfl) ?_ _)
    have e5 : pre ++ s.lay A N X = pre ++ [⟨3, A, (if s.thn.isEmpty then X else N + 1 : Nat), (if s.els.isEmpty then X else N + 1 + widL s.thn : Nat)⟩] ++ layL s.thn (A + 1) (N + 1) X ++ layL s.els (A + 1 + ssize s.thn) (N + 1 + widL s.thn) X := by
     rw [s.lay_eq, if_pos a3]
     simp only [List.append_assoc, List.cons_append, List.nil_append, apply_ite (Nat.cast (R := Int))]
    have e6 : (pre ++ s.lay A N X).length = pre.length + 1 + (layL s.thn (A + 1) (N + 1) X).length + (layL s.els (A + 1 + ssize s.thn) (N + 1 + widL s.thn) X).length := by rw [e5]; simp only [List.length_append, List.length_singleton]
    refine WX.meet (vo4) (Sub.of rfl) (⟨?_, by rw [e6]; omega, xfr4, xE4⟩)
    rw [e6, e5, List.flatMap_append, List.flatMap_append, List.flatMap_append, flatN1]
    exact xo4
   ·
    refine WC.sr (WO.o rfl (R.eql rfl rfl) (WO.a rfl rfl (WO.nil (WX.next ?_))))
    refine WC.ite rfl (fun a4 => ?_) (fun a4 => ?_)
    ·
     rw [if_pos a4] at hwe
     refine WC.sr (WO.mv rfl rfl (WO.o rfl (R.add rfl rfl (wrap_i64_in (by omega))) (WO.a rfl rfl (WO.nil (WX.next (WC.seq (WC.seq (WC.region ?_))))))))
     refine WO.o rfl (R.fieldAddr Tryz.runUnderlying86 rfl Tryz.sizeOf24 rfl) (WO.o rfl (R.load Tryz.isAgg24 rfl (hBc.cells 7 _ rfl)) (WO.o rfl (R.lenS rfl Tryz.runUnderlying24 rfl) (WO.o rfl (R.gtr rfl rfl) (WO.nil (WX.next ?_)))))
     refine WC.cut (σ := Unit) (fun u => [(0, .slice av l.length cv), (1, .int .i64 A), (2, .int .i64 N), (3, .int .i64 after), (9, vo), (10, .int .i64 i), (11, .pointer (some ⟨c, 0, none⟩)), (12, .int .i64 ((N : Int) + s.wid)), (13, .int .i64 X), (17, .slice av l.length cv), (18, .int .i64 l.length), (19, .int .i64 i), (16, .int .i64 (if s.thn.isEmpty then N + 1 else N + 2 : Nat))]) (fun u => fun w' => w' = w4') ?_ ?_
     ·
      refine WC.ite rfl (fun g1 => ?_) (fun g1 => ?_)
      · refine WC.region (WO.mv rfl rfl (WO.o rfl (R.add rfl rfl (wrap_i64_in (by omega))) (WO.a rfl rfl (WO.nil (WX.meet (()) (Sub.cons rfl (Sub.cons rfl (Sub.cons rfl (Sub.cons rfl (Sub.cons rfl (Sub.cons rfl (Sub.cons rfl (Sub.cons rfl (Sub.cons rfl (Sub.cons rfl (Sub.cons rfl (Sub.cons rfl (Sub.cons (slotI rfl (by rw [isEmpty_f g1]; simp)) Sub.nil))))))))))))) (rfl))))))
      · refine WC.skip (WX.meet (()) (Sub.cons rfl (Sub.cons rfl (Sub.cons rfl (Sub.cons rfl (Sub.cons rfl (Sub.cons rfl (Sub.cons rfl (Sub.cons rfl (Sub.cons rfl (Sub.cons rfl (Sub.cons rfl (Sub.cons rfl (Sub.cons (slotI rfl (by rw [isEmpty_t g1]; simp)) Sub.nil))))))))))))) (rfl))
     rintro u w5 hw5
     show WX _ _ _ [(0, .slice av l.length cv), (1, .int .i64 A), (2, .int .i64 N), (3, .int .i64 after), (9, vo), (10, .int .i64 i), (11, .pointer (some ⟨c, 0, none⟩)), (12, .int .i64 ((N : Int) + s.wid)), (13, .int .i64 X), (17, .slice av l.length cv), (18, .int .i64 l.length), (19, .int .i64 i), (16, .int .i64 (if s.thn.isEmpty then N + 1 else N + 2 : Nat))] _
     subst hw5
     refine WX.next (WC.seq (WC.region (WO.mv rfl rfl (WO.mv rfl rfl (WO.mv rfl rfl (WO.o rfl (R.add rfl rfl (wrap_i64_in (by omega))) (WO.o rfl (R.build (v := .agg #[.int .i64 4, .int .i64 A, .int .i64 ((N : Int) + 1), .int .i64 (-1)]) [(0, _), (1, _), (2, _), (3, _)] rfl (fun _ => by kernel_rfl)) (WO.mv rfl rfl (WO.mv rfl rfl (WO.mv rfl rfl (WO.o rfl (R.build (v := .agg #[.int .i64 5, .int .i64 A, .int .i64 (if s.thn.isEmpty then N + 1 else N + 2 : Nat), .int .i64 X]) [(0, _), (1, _), (2, _), (3, _)] rfl (fun _ => by kernel_rfl)) (WO.mem rfl rfl rfl (M.buildSlice (cs := [(⟨4, A, (N + 1 : Nat), -1⟩ : Nd), ⟨5, A, (if s.thn.isEmpty then N + 1 else N + 2 : Nat), X⟩].flatMap encN) [(0, _), (1, _)] Tryz.runUnderlying29 Tryz.sizeOf40 Tryz.zeroValue40 (by decide) rfl (by kernel_rfl)) ?_))))))))))))
     rintro _ w6 ⟨g6, rfl, hg6, hs6, hB6, hk6⟩
     have hE6 := hE.ext hk6
     have ho6 := own_keep ho hk6 (fun _ _ h => h)
     have hBc6 := hk6.blk hBc (fun h => h)
     refine WO.mem rfl rfl rfl (M.append Tryz.underlying29 Tryz.el40 rfl (by decide) rfl rfl ho6 rfl (Cells.add hB6.cells) (encNs_one _) (by omega) (by omega)) ?_
     rintro vo7 w7 ⟨ho7, hf7, hk7, _⟩
     obtain ⟨hE7, hfr7⟩ := app_ext hE6 hf hk7 hf7 ho6
     have hBc7 := app_blk ho6 hk7 hBc6 (by decide)
     have hA7 : Above w.heap.size w1 w7 := Above.then (Above.of_ext ((hk3.ext hk4).ext hk6)) (Above.of_keep hk7 hf)
     refine WO.a rfl rfl (WO.nil (WX.next (WC.region ?_)))
     refine WO.mv rfl rfl (WO.o rfl (R.fieldAddr Tryz.runUnderlying86 rfl Tryz.sizeOf24 rfl) (WO.o rfl (R.load Tryz.isAgg24 rfl (hBc7.cells 7 _ rfl)) (WO.mv rfl rfl (WO.o rfl (R.add rfl rfl (wrap_i64_in (by omega))) (WO.mv rfl rfl (WO.o rfl (R.add rfl rfl (wrap_i64_in (by omega))) (WO.mv rfl rfl (WO.o rfl (R.add rfl rfl (wrap_i64_in (by omega))) (WO.call rfl rfl rfl (F.call (vs := [_, _, _, _]) Tryz.call69 rfl) ((ih s hm).1 _ D w7 (A + 1) (N + 2) (N + 1) (hA7.sl stable_st q2 hDw) (by omega) (by omega) (by omega)) ?_)))))))))
     rintro r8 w8 ⟨hr8, hrf8, hk8⟩
     have hE8 := hE7.ext hk8
     have ho8 := own_keep ho7 hk8 (fun _ _ h => h)
     have hll8 := lay_len_le s.thn (A + 1) (N + 2) (N + 1)
     refine WO.mem rfl rfl rfl (M.appendO Tryz.underlying29 Tryz.el40 rfl (by decide) rfl rfl ho8 hr8 (encNs_one _) (by omega) (by omega)) ?_
     rintro vo9 w9 ⟨ho9, hf9, hk9⟩
     obtain ⟨hE9, hfr9⟩ := app_ext hE8 hfr7 hk9 hf9 ho8
     refine WO.a rfl rfl (WO.nil ?_)
     have e5 : pre ++ s.lay A N X = pre ++ [⟨4, A, (N + 1 : Nat), -1⟩, ⟨5, A, (if s.thn.isEmpty then N + 1 else N + 2 : Nat), X⟩] ++ layL s.thn (A + 1) (N + 2) (N + 1) := by
      rw [s.lay_eq, if_neg a3, if_pos a4]
      simp only [List.append_assoc, List.cons_append, List.nil_append, apply_ite (Nat.cast (R := Int))]
     have e6 : (pre ++ s.lay A N X).length = pre.length + 2 + (layL s.thn (A + 1) (N + 2) (N + 1)).length := by rw [e5]; simp only [List.length_append, List.length_cons, List.length_nil]
     refine WX.meet (vo9) (Sub.of rfl) (⟨?_, by rw [e6]; omega, hfr9, hE9⟩)
     rw [e6, e5, List.flatMap_append, List.flatMap_append]
     exact ho9
    ·
     rw [if_neg a4] at hwe
     refine WC.region (WO.mv rfl rfl (WO.mv rfl rfl (WO.mv rfl rfl (WO.o rfl (R.build (v := .agg #[.int .i64 2, .int .i64 A, .int .i64 X, .int .i64 (-1)]) [(0, _), (1, _), (2, _), (3, _)] rfl (fun _ => by kernel_rfl)) (WO.mem rfl rfl rfl (M.buildSlice (cs := encN ⟨2, A, X, -1⟩) [(0, _)] Tryz.runUnderlying29 Tryz.sizeOf40 Tryz.zeroValue40 (by decide) rfl (by kernel_rfl)) ?_)))))
     rintro _ w6 ⟨g6, rfl, hg6, hs6, hB6, hk6⟩
     have hE6 := hE.ext hk6
     have ho6 := own_keep ho hk6 (fun _ _ h => h)
     refine WO.mem rfl rfl rfl (M.append Tryz.underlying29 Tryz.el40 rfl (by decide) rfl rfl ho6 rfl (Cells.add hB6.cells) (encN_one _) (by omega) (by omega)) ?_
     rintro vo7 w7 ⟨ho7, hf7, hk7, _⟩
     obtain ⟨hE7, hfr7⟩ := app_ext hE6 hf hk7 hf7 ho6
     refine WO.a rfl rfl (WO.nil ?_)
     have e5 : pre ++ s.lay A N X = pre ++ [⟨2, A, X, -1⟩] := by rw [s.lay_eq, if_neg a3, if_neg a4]
     have e6 : (pre ++ s.lay A N X).length = pre.length + 1 := by rw [e5]; simp
     refine WX.meet (vo7) (Sub.of rfl) (⟨?_, by rw [e6]; omega, hfr7, hE7⟩)
     rw [e6, e5, List.flatMap_append, flatN1]
     exact ho7
  ·
   rintro vo' w5 ⟨ho5, hpl5, hf5, hE5⟩
   show WX _ _ _ [(0, .slice av l.length cv), (1, .int .i64 A), (2, .int .i64 N), (3, .int .i64 after), (9, vo'), (10, .int .i64 i), (11, .pointer (some ⟨c, 0, none⟩)), (12, .int .i64 ((N : Int) + s.wid)), (17, .slice av l.length cv), (18, .int .i64 l.length), (19, .int .i64 i)] _
   have hl5 := hl0.ext stable_st hE5
   refine WX.blockN (WX.next (WC.seq (WC.region (WO.mv rfl rfl (WO.mv rfl rfl (WO.mv rfl rfl (WO.mv rfl rfl (WO.o rfl (R.add rfl rfl (wrap_i64_in (by omega))) (WO.o rfl (R.sliceLH Tryz.runUnderlying24 Tryz.sizeOf86 rfl rfl rfl (by omega) (by omega)) (WO.call rfl rfl rfl (F.call (vs := [_]) Tryz.call23 rfl) (refSize_ok [s] _ D _ (SlR.mid hl5 he) (by simp only [ssize]; omega)) ?_))))))))))
   rintro _ w6 ⟨rfl, hk6⟩
   have hz1 : ssize [s] = s.size := by simp [ssize]
   rw [hz1]
   refine WO.o rfl (R.add rfl rfl (wrap_i64_in (by omega))) (WO.a rfl rfl (WO.nil (WX.next (WC.region ?_))))
   refine WO.mv rfl rfl (WO.a rfl rfl (WO.nil (WX.blockN (WX.next (WC.region ?_)))))
   refine WO.o rfl (R.add rfl rfl (wrap_i64_in (by omega))) (WO.mv rfl rfl (WO.nil (WX.back ((i + 1, vo')) (Sub.cons rfl (Sub.cons (slotI rfl (by omega)) (Sub.cons (slotI rfl (by omega)) (Sub.of rfl)))) (⟨by omega, ⟨pre ++ s.lay A N X, own_keep ho5 hk6 (fun _ _ h => h), hpl5, ?_⟩, hf5, hE5.ext hk6⟩) (by first | omega | (dsimp only; omega)))))
   rw [← hpre, List.append_assoc, show at_ + ssize (l.take (i + 1)) = A + s.size by omega, show node + widL (l.take (i + 1)) = N + s.wid by omega]
 ·
  have hii : i = l.length := by omega
  subst hii
  rw [List.drop_length, layL, List.append_nil] at hpre
  refine WC.exit (WX.thenE (WX.thenE (WX.hit (WX.next (WC.seq (WC.region (WO.mv rfl rfl (WO.a rfl rfl (WO.nil (WX.next (WC.ret ?_)))))))))))
  refine WX.ret1 Tryz.results69 rfl ⟨_, rfl, by rw [← hpre]; exact ho, hf, hE⟩
theorem refBuild_ok (f : Fl) (v1 v2 v3 : Value) (D : Nat → Prop) (w : World) (hf : RFl D w f v1 v2 v3) (hsz : ssize f.body ≤ 10000) :
  Calls Tryz.prog 20 #[.agg #[v1, v2, v3]] w (Ret fun r w' => (∃ nv, r = .agg #[nv] ∧ SlR 4 RNd (fun b => w.heap.size ≤ b) w' nv (cfgN f)) ∧ Ext w w') := by
 have hwl := widL_le f.body
 have hll := lay_len_le f.body 0 1 (1 + widL f.body)
 refine calls Tryz.func20 rfl [(0, .agg #[v1, v2, v3])] 22 ⟨Nat.le_of_ble_eq_true rfl, Tryz.ntmps20⟩ (argsOk (Sub.of rfl)) ?_
 refine WC.sr (WO.mem rfl rfl rfl (M.box rfl rfl) ?_)
 rintro _ w1 ⟨c, rfl, hc, hs1, hBc, hk1⟩
 refine WO.mem rfl rfl rfl (M.alloc (cs := [.slice none 0 0]) Tryz.zeroValue31 rfl) ?_
 rintro _ w2 ⟨r, rfl, hr, hs2, hBr, hk2⟩
 replace hBc := hk2.blk hBc (fun h => h)
 have hE2 := hk1.ext hk2
 refine WO.nr (WO.o rfl (R.fieldAddr Tryz.runUnderlying26 rfl Tryz.sizeOf24 rfl) (WO.o rfl (R.load Tryz.isAgg24 rfl (hBc.cells 2 _ rfl)) (WO.call rfl rfl rfl (F.call (vs := [_]) Tryz.call68 rfl) (width_ok f.body _ D w2 (hf.body.ext stable_st hE2) (by omega)) ?_)))
 rintro _ w3 ⟨rfl, hk3⟩
 replace hBc := hk3.blk hBc (fun h => h)
 replace hBr := hk3.blk hBr (fun h => h)
 have hE3 := hE2.ext hk3
 refine WO.o rfl (R.add rfl rfl (wrap_i64_in (by omega))) (WO.a rfl rfl (WO.nr (WO.o rfl (R.build (v := .agg #[.int .i64 0, .int .i64 (-1), .int .i64 1, .int .i64 (-1)]) [(0, _), (1, _), (2, _), (3, _)] rfl (fun _ => by kernel_rfl)) (WO.mem rfl rfl rfl (M.buildSlice (cs := encN ⟨0, -1, 1, -1⟩) [(0, _)] Tryz.runUnderlying29 Tryz.sizeOf40 Tryz.zeroValue40 (by decide) rfl (by kernel_rfl)) ?_))))
 rintro _ w4 ⟨g4, rfl, hg4, hs4, hB4, hk4⟩
 replace hBc := hk4.blk hBc (fun h => h)
 replace hBr := hk4.blk hBr (fun h => h)
 have hE4 := hE3.ext hk4
 have ho4 : w4.ownsRow 0 40 4 (.slice (some ⟨g4, 0, none⟩) 1 1) 1 (encN ⟨0, -1, 1, -1⟩) := own_blk (k := 4) (n := 1) (cap := 1) hB4 (Nat.le_refl _) (by decide) rfl
 have hf4 : ∀ g, Value.ownBlock (.slice (some ⟨g4, 0, none⟩) 1 1) = some g → w.heap.size ≤ g := fun g hg => by
  obtain rfl : g4 = g := Option.some.inj hg
  have := hE3.size; omega
 refine WO.a rfl rfl (WO.nr (WO.mv rfl rfl (WO.o rfl (R.fieldAddr Tryz.runUnderlying26 rfl Tryz.sizeOf24 rfl) (WO.o rfl (R.load Tryz.isAgg24 rfl (hBc.cells 2 _ rfl)) (WO.mv rfl rfl (WO.call rfl rfl rfl (F.call (vs := [_, _, _, _]) Tryz.call69 rfl) (lay_ok f.body _ D w4 0 1 (1 + widL f.body) (hf.body.ext stable_st hE4) hsz (by omega) (by omega)) ?_))))))
 rintro r5 w5 ⟨hr5, hrf5, hk5⟩
 replace hBr := hk5.blk hBr (fun h => h)
 have hE5 := hE4.ext hk5
 have ho5 := own_keep ho4 hk5 (fun _ _ h => h)
 refine WO.mem rfl rfl rfl (M.appendO Tryz.underlying29 Tryz.el40 rfl (by decide) rfl rfl ho5 hr5 (encNs_one _) (by omega) (by omega)) ?_
 rintro v6 w6 ⟨ho6, hf6, hk6⟩
 obtain ⟨hE6, hfr6⟩ := app_ext hE5 hf4 hk6 hf6 ho5
 replace hBr := app_blk ho5 hk6 hBr (by decide)
 refine WO.a rfl rfl (WO.nr (WO.mv rfl rfl (WO.o rfl (R.build (v := .agg #[.int .i64 1, .int .i64 (-1), .int .i64 (-1), .int .i64 (-1)]) [(0, _), (1, _), (2, _), (3, _)] rfl (fun _ => by kernel_rfl)) (WO.mem rfl rfl rfl (M.buildSlice (cs := encN ⟨1, -1, -1, -1⟩) [(0, _)] Tryz.runUnderlying29 Tryz.sizeOf40 Tryz.zeroValue40 (by decide) rfl (by kernel_rfl)) ?_))))
 rintro _ w7 ⟨g7, rfl, hg7, hs7, hB7, hk7⟩
 replace hBr := hk7.blk hBr (fun h => h)
 have hE7 := hE6.ext hk7
 have ho7 := own_keep ho6 hk7 (fun _ _ h => h)
 refine WO.mem rfl rfl rfl (M.append Tryz.underlying29 Tryz.el40 rfl (by decide) rfl rfl ho7 rfl (Cells.add hB7.cells) (encN_one _) (by omega) (by omega)) ?_
 rintro v8 w8 ⟨ho8, hf8, hk8, _⟩
 obtain ⟨hE8, hfr8⟩ := app_ext hE7 hfr6 hk8 hf8 ho7
 replace hBr := app_blk ho7 hk8 hBr (by decide)
 obtain ⟨av, cv, rfl⟩ := own_form ho8
 refine WO.o rfl (R.build (v := .agg #[.slice av (1 + (layL f.body 0 1 (1 + widL f.body)).length + 1) cv]) [(0, _)] rfl (fun _ => by kernel_rfl)) (WO.mem0 rfl rfl (M.storeK Tryz.sizeOf31 rfl rfl rfl rfl (by simp [Value.oneCell']) hBr (by simp)) ?_)
 rintro wf ⟨_, hBf, hkf⟩
 have hown' := own_keep ho8 hkf (fun g hg h => by
  obtain ⟨cs', hb'⟩ := own_blkty ho8 hg
  exact hb'.ne hBr (by decide) h)
 refine WO.nil (WX.next (WC.ret (WX.retC Tryz.results20 rfl (run_loadK Tryz.isAgg31 Tryz.sizeOf31 rfl hBf.cells) ?_)))
 refine ⟨_, rfl, ⟨_, rfl, ?_⟩, hE8.trans hkf (fun q hq h => by have h : q = r := h; have := hk1.size; omega)⟩
 refine SlR.ofRowK (by decide) encN encN_len (fun _ _ => rfl) (n := 1 + (layL f.body 0 1 (1 + widL f.body)).length + 1) (e := 40) ?_ hfr8
 unfold cfgN
 rw [List.flatMap_cons, List.flatMap_append, flatN1, ← List.append_assoc]
 exact hown'
theorem few_size {f : Fl} (h : (f.vars.length : Int) ≤ 70 ∧ (f.hatches.length : Int) ≤ 70 ∧ ((sbulk f.body + hnodes f.hatches : Nat) : Int) ≤ 300) : snodes f.body + hnodes f.hatches ≤ 1024 ∧ sbulk f.body ≤ 1000000 ∧ ssize f.body ≤ 300 := by
 have h1 := sbulk_snodes f.body
 have h2 := ssize_snodes f.body
 omega
theorem lawAt_ok (x : Nd) (k : Int) (c : Nat) (w : World) (hB : Blk w c [.int .i64 k] 3) : Calls Tryz.prog 25 #[.agg (encN x).toArray, .pointer (some ⟨c, 0, none⟩)] w (Ret fun r w' => r = .bool (decide (x.at_ = k)) ∧ Ext w w') := by
 have hE := Keep.refl (fun _ => False) w
 refine calls Tryz.func25 rfl [(0, .agg (encN x).toArray), (1, .pointer (some ⟨c, 0, none⟩))] 8 ⟨Nat.le_of_ble_eq_true rfl, Tryz.ntmps25⟩ (argsOk (Sub.of rfl)) ?_
 refine WC.sr (WO.mem rfl rfl rfl (M.box rfl rfl) ?_)
 rintro _ w_b ⟨b, rfl, hg_b, hs_b, hB_b, hk_b⟩
 have hge_b : _ ≤ b := Nat.le_trans hE.size (Nat.le_of_eq hg_b.symm)
 replace hE := hE.ext hk_b
 replace hB := hk_b.blk hB (fun h => h)
 refine WO.a rfl rfl (WO.nr (WO.o rfl (R.fieldAddr Tryz.runUnderlying40 rfl Tryz.sizeOf3 rfl) (WO.o rfl (R.load Tryz.isAgg3 rfl (hB_b.cells 1 _ rfl)) (WO.o rfl (R.load Tryz.isAgg3 rfl (hB.cells 0 _ rfl)) (WO.o rfl (R.eql rfl rfl) (WO.a rfl rfl (WO.nil (WX.next (WC.ret ?_)))))))))
 refine WX.ret1 Tryz.results25 rfl ⟨_, rfl, rfl, hE⟩
theorem lawNodes_ok (f : Fl) (k : Int) (v1 v2 v3 : Value) (D : Nat → Prop) (w : World) (hf : RFl D w f v1 v2 v3) :
  Calls Tryz.prog 5 #[.agg #[v1, v2, v3], .int .i64 k] w (Ret fun r w' => r = .bool true ∧ Ext w w') := by
 have hE := Keep.refl (fun _ => False) w
 refine calls Tryz.func5 rfl [(0, .agg #[v1, v2, v3]), (1, .int .i64 k)] 78 ⟨Nat.le_of_ble_eq_true rfl, Tryz.ntmps5⟩ (argsOk (Sub.of rfl)) ?_
 refine WC.sr (WO.mem rfl rfl rfl (M.box rfl rfl) ?_)
 rintro _ w_b ⟨b, rfl, hg_b, hs_b, hB_b, hk_b⟩
 have hge_b : _ ≤ b := Nat.le_trans hE.size (Nat.le_of_eq hg_b.symm)
 replace hE := hE.ext hk_b
 replace hf := RFl.ext hf hk_b
 refine WO.mem rfl rfl rfl (M.box rfl rfl) ?_
 rintro _ w_b2 ⟨b2, rfl, hg_b2, hs_b2, hB_b2, hk_b2⟩
 have hn_b_b2 : b ≠ b2 := by have := hB_b.lt; omega
 have hge_b2 : _ ≤ b2 := Nat.le_trans hE.size (Nat.le_of_eq hg_b2.symm)
 replace hE := hE.ext hk_b2
 replace hf := RFl.ext hf hk_b2
 replace hB_b := hk_b2.blk hB_b (fun h => h)
 refine WO.a rfl rfl (WO.nil (WX.next (WC.seq (WC.seq (WC.region ?_)))))
 refine WO.call rfl rfl rfl (F.call (vs := []) Tryz.call14 rfl) (known_ok _) ?_
 rintro _ wz1 ⟨rfl, hz1⟩
 replace hE := hE.ext hz1
 replace hf := RFl.ext hf hz1
 replace hB_b := hz1.blk hB_b (fun h => h)
 replace hB_b2 := hz1.blk hB_b2 (fun h => h)
 refine WO.o rfl (R.notU rfl (by first | exact not_decide_eq | rfl)) (WO.nil (WX.next ?_))
 refine WC.ff rfl (rfl) (WC.skip (WX.next (WC.seq (WC.seq (WC.region ?_)))))
 refine WO.o rfl (R.loadK Tryz.isAgg26 Tryz.sizeOf26 rfl (by rfl) hB_b.cells) (WO.call rfl rfl rfl (F.call (vs := [_, _, _]) Tryz.call15 rfl) (few17_ok f 70 300 _ _ _ D _ hf (by decide) (by decide)) ?_)
 rintro _ wz2 ⟨rfl, hz2⟩
 replace hE := hE.ext hz2
 replace hf := RFl.ext hf hz2
 replace hB_b := hz2.blk hB_b (fun h => h)
 replace hB_b2 := hz2.blk hB_b2 (fun h => h)
 refine WO.o rfl (R.notU rfl (by first | exact not_decide_eq | rfl)) (WO.nil (WX.next ?_))
 by_cases hfew : (f.vars.length : Int) ≤ 70 ∧ (f.hatches.length : Int) ≤ 70 ∧ ((sbulk f.body + hnodes f.hatches : Nat) : Int) ≤ 300
 ·
  obtain ⟨hsz, hbk, hss⟩ := few_size hfew
  refine WC.ff rfl ((decide_eq_false (fun h => h hfew))) (WC.ks (WO.o rfl (R.loadK Tryz.isAgg26 Tryz.sizeOf26 rfl (by rfl) hB_b.cells) (WO.o rfl (R.load Tryz.isAgg3 rfl (hB_b2.cells 0 _ rfl)) (WO.call rfl rfl rfl (F.call (vs := [_, _]) Tryz.call22 rfl) (nodeAt_ok f k _ _ _ D _ hf hsz hbk) ?_))))
  rintro _ wz3 ⟨rfl, hz3⟩
  replace hE := hE.ext hz3
  replace hf := RFl.ext hf hz3
  replace hB_b := hz3.blk hB_b (fun h => h)
  replace hB_b2 := hz3.blk hB_b2 (fun h => h)
  refine WO.mv rfl rfl (WO.o rfl (R.extract rfl rfl) (WO.o rfl (R.extract rfl rfl) (WO.a rfl rfl (WO.a rfl rfl (WO.nil (WX.next (WC.seq (WC.seq (WC.region ?_)))))))))
  refine WO.o rfl (R.loadK Tryz.isAgg26 Tryz.sizeOf26 rfl (by rfl) hB_b.cells) (WO.call rfl rfl rfl (F.call (vs := [_]) Tryz.call17 rfl) (refCheck_ok f _ _ _ D _ hf hsz hbk) ?_)
  rintro _ wz4 ⟨rfl, hz4⟩
  replace hE := hE.ext hz4
  replace hf := RFl.ext hf hz4
  replace hB_b := hz4.blk hB_b (fun h => h)
  replace hB_b2 := hz4.blk hB_b2 (fun h => h)
  refine WO.a rfl rfl (WO.nr (WO.mv rfl rfl (WO.o rfl (R.neq rfl rfl) (WO.nil (WX.next ?_)))))
  refine WC.ite rfl (fun c0 => ?_) (fun c0 => ?_)
  ·
   have hn : nodeAtN f k = (0, checkN f) := if_pos c0
   rw [hn]
   refine WC.sr (WO.mv rfl rfl (WO.o rfl (R.eql rfl rfl) (WO.mv rfl rfl (WO.splitP (d := 28) rfl (fun q1 => ?_) (fun q1 => ?_)))))
   ·
    refine WO.yes rfl rfl (dT q1) (WO.mv rfl rfl (WO.yes rfl rfl (dT q1) (WO.mv rfl rfl (WO.yes rfl rfl (dT q1) (WO.o rfl (R.eql rfl rfl) (WO.o rfl (R.pickT rfl (dT q1) rfl) (WO.a rfl rfl (WO.nil (WX.next (WC.ret (WX.thenR ?_)))))))))))
    refine WX.ret1 Tryz.results5 rfl ⟨_, rfl, by rw [decide_eq_true rfl], hE⟩
   · exact absurd rfl q1
  ·
   have c0' : checkN f = 0 := by omega
   refine WC.skip (WX.next (WC.seq (WC.seq (WC.draw (fun q => Ext wz4 q) [] (by kernel_rfl) (fun wd5 hD _ => ?_)))))
   refine WD.take 0 rfl (by kernel_rfl) rfl rfl rfl hD (fun w1 hw1 => R.load Tryz.isAgg3 rfl ((hw1.blk hB_b2 (fun h => h)).cells 0 _ rfl)) (WD.takeW 1 rfl (by kernel_rfl) rfl rfl rfl (fun w1 => R.lss rfl rfl) (WD.takeW 2 rfl (by kernel_rfl) rfl rfl rfl (fun w1 => R.move rfl) (WD.splitP (d := 35) rfl (fun q0 => ?_) (fun q0 => ?_))))
   ·
    have hn : nodeAtN f k = (0, 3) := by unfold nodeAtN; rw [if_neg c0, if_pos (.inl q0)]
    refine WD.takeG (v := undef) 3 rfl (by kernel_rfl) rfl rfl hD (.inr ⟨fun a ha => wanted_no ha rfl rfl rfl (dT q0), rfl⟩) (WD.takeG (v := undef) 4 rfl (by kernel_rfl) rfl rfl hD (.inr ⟨fun a ha => wanted_no ha rfl rfl rfl (dT q0), rfl⟩) (WD.takeG (v := undef) 5 rfl (by kernel_rfl) rfl rfl hD (.inr ⟨fun a ha => wanted_no ha rfl rfl rfl (dT q0), rfl⟩) (WD.skip 6 rfl (by kernel_rfl) (fun a ha => wanted_no ha rfl rfl rfl (dT q0)) rfl rfl hD (WD.takeG (v := undef) 7 rfl (by kernel_rfl) rfl rfl hD (.inr ⟨fun a ha => wanted_no ha rfl rfl rfl (dT q0), rfl⟩) (WD.takeW 8 rfl (by kernel_rfl) rfl rfl rfl (fun w1 => R.pickT rfl (dT q0) rfl) ?_)))))
    refine WD.done (by kernel_rfl) ?_ _
    replace hE := hE.ext hD
    replace hf := RFl.ext hf hD
    replace hB_b := hD.blk hB_b (fun h => h)
    replace hB_b2 := hD.blk hB_b2 (fun h => h)
    refine WX.next (WC.tt rfl (rfl) (WC.sr (WO.mv rfl rfl (WO.o rfl (R.eql rfl rfl) (WO.mv rfl rfl ?_)))))
    rw [hn]
    refine WO.splitP (d := 44) rfl (fun q1 => ?_) (fun q1 => ?_)
    ·
     refine WO.yes rfl rfl (dT q1) (WO.mv rfl rfl (WO.yes rfl rfl (dT q1) (WO.o rfl (R.eql rfl rfl) (WO.o rfl (R.pickT rfl (dT q1) rfl) (WO.a rfl rfl (WO.nil (WX.next (WC.ret (WX.thenR ?_)))))))))
     refine WX.ret1 Tryz.results5 rfl ⟨_, rfl, rfl, hE⟩
    · exact absurd rfl q1
   ·
    refine WD.takeG 3 rfl (by kernel_rfl) rfl rfl hD (.inl ⟨fun a ha => wanted_yes ha rfl rfl rfl (dF q0), fun w1 hw1 => R.load Tryz.isAgg3 rfl ((hw1.blk hB_b2 (fun h => h)).cells 0 _ rfl)⟩) (WD.takeG 4 rfl (by kernel_rfl) rfl rfl hD (.inl ⟨fun a ha => wanted_yes ha rfl rfl rfl (dF q0), fun w1 hw1 => R.fieldAddr Tryz.runUnderlying26 rfl Tryz.sizeOf24 rfl⟩) (WD.takeG 5 rfl (by kernel_rfl) rfl rfl hD (.inl ⟨fun a ha => wanted_yes ha rfl rfl rfl (dF q0), fun w1 hw1 => R.load Tryz.isAgg24 rfl ((hw1.blk hB_b (fun h => h)).cells 2 _ rfl)⟩) (WD.callG 6 rfl (by kernel_rfl) (fun a ha => wanted_yes ha rfl rfl rfl (dF q0)) rfl rfl (F.call (vs := [_]) Tryz.call23 rfl) (refSize_ok f.body _ D _ (hf.ext hD).body (by omega)) ?_)))
    rintro _ wz6 ⟨rfl, hz6⟩
    replace hD := hD.ext hz6
    refine ⟨fun _ => hD, ?_⟩
    refine WD.takeG 7 rfl (by kernel_rfl) rfl rfl hD (.inl ⟨fun a ha => wanted_yes ha rfl rfl rfl (dF q0), fun w1 hw1 => R.geq rfl rfl⟩) (WD.takeW 8 rfl (by kernel_rfl) rfl rfl rfl (fun w1 => R.pickF rfl (dF q0) rfl) (WD.done (by kernel_rfl) ?_ _))
    replace hE := hE.ext hD
    replace hf := RFl.ext hf hD
    replace hB_b := hD.blk hB_b (fun h => h)
    replace hB_b2 := hD.blk hB_b2 (fun h => h)
    refine WX.next (WC.ite rfl (fun q1 => ?_) (fun q1 => ?_))
    ·
     have hn : nodeAtN f k = (0, 3) := by unfold nodeAtN; rw [if_neg c0, if_pos (.inr q1)]
     rw [hn]
     refine WC.sr (WO.mv rfl rfl (WO.o rfl (R.eql rfl rfl) (WO.mv rfl rfl (WO.splitP (d := 44) rfl (fun q2 => ?_) (fun q2 => ?_)))))
     ·
      refine WO.yes rfl rfl (dT q2) (WO.mv rfl rfl (WO.yes rfl rfl (dT q2) (WO.o rfl (R.eql rfl rfl) (WO.o rfl (R.pickT rfl (dT q2) rfl) (WO.a rfl rfl (WO.nil (WX.next (WC.ret (WX.thenR ?_)))))))))
      refine WX.ret1 Tryz.results5 rfl ⟨_, rfl, rfl, hE⟩
     · exact absurd rfl q2
    ·
     obtain ⟨n, rfl⟩ := Int.eq_ofNat_of_zero_le (show 0 ≤ k by omega)
     have hn : nodeAtN f n = (fIdx (fun x : Nd => decide (x.at_ = (n : Int))) (cfgN f), 0) := by unfold nodeAtN; rw [if_neg c0, if_neg (by omega)]
     obtain ⟨i, hi, hfi, hnext⟩ := cfgN_first f (check_plain c0') n (by omega)
     rw [hn]
     have hB2 := hB_b2
     refine WC.ks (WO.o rfl (R.loadK Tryz.isAgg26 Tryz.sizeOf26 rfl (by rfl) hB_b.cells) (WO.call rfl rfl rfl (F.call (vs := [_]) Tryz.call20 rfl) (refBuild_ok f _ _ _ D _ hf (by omega)) ?_))
     rintro _ wz7 ⟨⟨nv2, rfl, hnv2⟩, hz7⟩
     replace hE := hE.ext hz7
     replace hf := RFl.ext hf hz7
     replace hB_b := hz7.blk hB_b (fun h => h)
     replace hB_b2 := hz7.blk hB_b2 (fun h => h)
     refine WO.o rfl (R.field Tryz.runUnderlying31 rfl Tryz.isAgg29 rfl rfl) (WO.o rfl (R.makeFunc (fs := []) (cs := [_]) rfl rfl) ?_)
     have hB3 := hB_b2
     refine WO.call rfl rfl rfl (F.call (vs := [_, _]) Tryz.call24 rfl) (idxN_ok (cfgN f) _ _ _ hnv2 (fun x : Nd => decide (x.at_ = (n : Int))) 25 (.pointer (some ⟨b2, 0, none⟩)) Tryz.call25 (fun y _ w' hw' => lawAt_ok y n b2 w' (hw'.blk hB3 (fun h => h)))) ?_
     rintro _ wz8 ⟨rfl, hz8⟩
     replace hE := hE.ext hz8
     replace hf := RFl.ext hf hz8
     replace hB_b := hz8.blk hB_b (fun h => h)
     replace hB_b2 := hz8.blk hB_b2 (fun h => h)
     refine WO.a rfl rfl (WO.nil (WX.next (WC.seq (WC.seq (WC.region ?_)))))
     refine WO.mv rfl rfl (WO.o rfl (R.neq rfl rfl) (WO.mv rfl rfl (WO.splitP (d := 55) rfl (fun q2 => ?_) (fun q2 => ?_))))
     · exact absurd rfl q2
     ·
      refine WO.yes rfl rfl (dF q2) (WO.mv rfl rfl (WO.yes rfl rfl (dF q2) (WO.mv rfl rfl (WO.yes rfl rfl (dF q2) (WO.o rfl (R.neq rfl rfl) (WO.o rfl (R.pickF rfl (dF q2) rfl) (WO.nil (WX.next ?_))))))))
      refine WC.ite rfl (fun q3 => ?_) (fun q3 => ?_)
      · exact absurd rfl q3
      ·
       refine WC.ks (WO.o rfl (R.loadK Tryz.isAgg26 Tryz.sizeOf26 rfl (by rfl) hB_b.cells) (WO.o rfl (R.load Tryz.isAgg3 rfl (hB_b2.cells 0 _ rfl)) (WO.o rfl (R.add rfl rfl (wrap_i64_in (by omega))) (WO.call rfl rfl rfl (F.call (vs := [_, _]) Tryz.call22 rfl) (nodeAt_ok f ((n : Int) + 1) _ _ _ D _ hf hsz hbk) ?_))))
       rintro _ wz9 ⟨rfl, hz9⟩
       replace hE := hE.ext hz9
       replace hf := RFl.ext hf hz9
       replace hB_b := hz9.blk hB_b (fun h => h)
       replace hB_b2 := hz9.blk hB_b2 (fun h => h)
       refine WO.mv rfl rfl (WO.o rfl (R.extract rfl rfl) (WO.o rfl (R.extract rfl rfl) (WO.a rfl rfl (WO.a rfl rfl (WO.nr (WO.mv rfl rfl (WO.o rfl (R.eql rfl rfl) (WO.mv rfl rfl ?_))))))))
       by_cases hlast : n + 1 < ssize f.body
       ·
        obtain ⟨j, hfj, hij⟩ := hnext hlast
        have hn2 : nodeAtN f ((n : Int) + 1) = ((j : Int), 0) := by
         unfold nodeAtN
         rw [if_neg c0, if_neg (by omega), ← hfj]
         rfl
        rw [hn2, hfi]
        refine WO.splitP (d := 69) rfl (fun q4 => ?_) (fun q4 => ?_)
        · cases q4
        ·
         refine WO.yes rfl rfl (dF q4) (WO.mv rfl rfl (WO.yes rfl rfl (dF q4) (WO.o rfl (R.eql rfl rfl) (WO.yes rfl rfl (dF q4) (WO.mv rfl rfl (WO.splitP (d := 72) rfl (fun q5 => ?_) (fun q5 => ?_)))))))
         ·
          refine WO.yes rfl rfl (dT q5) (WO.mv rfl rfl (WO.yes rfl rfl (dT q5) (WO.mv rfl rfl (WO.yes rfl rfl (dT q5) (WO.o rfl (R.gtr rfl rfl) (WO.yes rfl rfl (dF q4) (WO.o rfl (R.pickT rfl (dT q5) rfl) (WO.o rfl (R.pickF rfl (dF q4) rfl) (WO.a rfl rfl (WO.nil (WX.next (WC.ret ?_))))))))))))
          refine WX.ret1 Tryz.results5 rfl ⟨_, rfl, by rw [decide_eq_true (show (j : Int) > (i : Int) by omega)], hE⟩
         · exact absurd rfl q5
       ·
        have hn2 : nodeAtN f ((n : Int) + 1) = (0, 3) := by
         unfold nodeAtN
         rw [if_neg c0, if_pos (.inr (by omega))]
        rw [hn2]
        refine WO.splitP (d := 69) rfl (fun q4 => ?_) (fun q4 => ?_)
        ·
         refine WO.no rfl rfl (dT q4) rfl (WO.no rfl rfl (dT q4) rfl (WO.no rfl rfl (dT q4) rfl (WO.noU rfl rfl rfl (WO.noU rfl rfl rfl (WO.noU rfl rfl rfl (WO.no rfl rfl (dT q4) rfl (WO.o rfl (R.pickT rfl (dT q4) rfl) (WO.a rfl rfl (WO.nil (WX.next (WC.ret ?_)))))))))))
         refine WX.ret1 Tryz.results5 rfl ⟨_, rfl, rfl, hE⟩
        · exact absurd rfl q4
 ·
  refine WC.tt rfl ((dT hfew)) (WC.sr (WO.a rfl rfl (WO.nil (WX.next (WC.ret (WX.thenR ?_))))))
  refine WX.ret1 Tryz.results5 rfl ⟨_, rfl, rfl, hE⟩
end Go.Proofs.YtldhllpogdikdaaGreat
