/-
  Contracts and the mathematics that the proof needs. Nothing here is a claim.
-/
import Derived.Test.YtldhllpogdikdaaGreatKE5
namespace Go.Proofs.YtldhllpogdikdaaGreat
open Go.GL
theorem width_ok (l : List St) : ∀ (v : Value) (D : Nat → Prop) (w : World), SlR 10 RSt D w v l → ssize l ≤ 1000000 → Calls Tryz.prog 68 #[v] w (Ret fun r w' => r = .int .i64 (widL l) ∧ Ext w w') := by
 induction l using Sts.ind with
 | h l ih =>
 intro v D w hl hsz
 have hlen := slen_ssize l
 obtain ⟨ao, cap, rfl⟩ := hl.form
 refine G.in1 Tryz.func68 rfl Tryz.ntmps68 rfl (Gs 19 rfl (G.loop (σ := Nat) (fun i => [(3, .int .i64 (widL (l.take i))), (6, .slice ao l.length cap), (7, .int .i64 l.length), (8, .int .i64 i)]) (fun i => fun w' => i ≤ l.length ∧ Ext w w') (fun i => l.length - i) (0) (Sub.of rfl) (⟨Nat.zero_le _, Keep.refl _ _⟩) ?_))
 rintro i w1 ⟨hi, hL1⟩
 replace hl := Tr1 hL1 hl
 refine Gs 6 rfl (G.ite rfl (fun hlt => ?_) (fun hge => ?_))
 ·
  obtain ⟨s, he_s⟩ : ∃ x, l[i]? = some x := ⟨_, List.getElem?_eq_getElem (by omega)⟩
  have hm_s := List.mem_of_getElem? he_s
  obtain ⟨b_s, o_s, c_s, ha_s, _, hc_s, hR_s⟩ := hl.at he_s
  have h1_s := RSt.one hR_s
  obtain ⟨v1_s, v2_s, v3_s, v4_s, rfl, hk_s, ht_s, hs_s, hb_s⟩ := hR_s.get
  obtain ⟨a1_s, n1_s, rfl⟩ := hk_s.form
  obtain ⟨a2_s, n2_s, rfl⟩ := ht_s.form
  obtain ⟨a3_s, n3_s, rfl⟩ := hs_s.form
  obtain ⟨a4_s, n4_s, rfl⟩ := hb_s.form
  have hlt_s : b_s < _ := World.block_lt_of_cell? _ _ (hc_s 0 _ rfl)
  have hsp := ssize_split he_s
  have hse := s.size_eq
  have hwe := s.wid_eq
  have hwt := widL_take he_s
  have hw0 := widL_le l
  have hw1' := widL_split he_s
  have hw2 := widL_le s.thn
  have hw3 := widL_le s.els
  have hE := Keep.refl (fun _ => False) w1
  refine Gs 6 rfl (G.ops1 rfl rfl (R.indexS Tryz.runUnderlying24 Tryz.sizeOf86 rfl rfl ha_s (by omega)) (G.ldK rfl Tryz.isAgg86 Tryz.sizeOf86 hc_s rfl (G.mem rfl rfl (M.alloc (cs := _) Tryz.zeroValue86 rfl) ?_)))
  rintro _ wa1 ⟨b, rfl, hg_b, hs_b, hB_b, hk_b⟩
  refine G.mem0 rfl (M.storeK Tryz.sizeOf86 rfl rfl rfl rfl h1_s hB_b (by simp)) ?_
  rintro w_b ⟨_, hB_b, hkk_b⟩
  replace hk_b := hk_b.trans hkk_b (fun q hq h => by have h : q = b := h; omega)
  have hge_b : _ ≤ b := Nat.le_trans hE.size (Nat.le_of_eq hg_b.symm)
  obtain ⟨hl, hL1, hc_s, hk_s, ht_s, hs_s, hb_s⟩ := Tr7 hk_b hl hL1 hc_s hk_s ht_s hs_s hb_s
  replace hE := Tr1 hk_b hE
  refine Gs 3 rfl (Dw (fun q => Ext w_b q) [] (fun wd2 hD _ => ?_))
  refine Ds [0, 1] (by kernel_rfl) rfl (WD.take 2 rfl (by kernel_rfl) rfl rfl rfl hD (fun w1 hw1 => R.load Tryz.isAgg24 rfl ((hw1.blk hB_b (fun h => h)).cells 7 _ rfl)) (Ds [5] (by kernel_rfl) rfl (WD.take 6 rfl (by kernel_rfl) rfl rfl rfl hD (fun w1 hw1 => R.load Tryz.isAgg24 rfl ((hw1.blk hB_b (fun h => h)).cells 8 _ rfl)) (WD.call 3 rfl (by kernel_rfl) rfl rfl rfl (F.call (vs := [_]) Tryz.call68 rfl) ((ih s hm_s).1 _ D _ (ht_s.ext stable_st hD) (by omega)) ?_))))
  rintro _ wz3 ⟨rfl, hz3⟩
  replace hD := hD.ext hz3
  refine ⟨fun _ => hD, ?_⟩
  refine Da [4] (by kernel_rfl) rfl (by omega) (WD.call 7 rfl (by kernel_rfl) rfl rfl rfl (F.call (vs := [_]) Tryz.call68 rfl) ((ih s hm_s).2 _ D _ (hs_s.ext stable_st hD) (by omega)) ?_)
  rintro _ wz4 ⟨rfl, hz4⟩
  replace hD := hD.ext hz4
  refine ⟨fun _ => hD, ?_⟩
  refine Da [8, 9, 10] (by kernel_rfl) rfl (by omega) (G.done (by kernel_rfl) ?_ _)
  obtain ⟨hl, hL1, hc_s, hk_s, ht_s, hs_s, hb_s⟩ := Tr7 hD hl hL1 hc_s hk_s ht_s hs_s hb_s
  obtain ⟨hE, hB_b⟩ := Tr2 hD hE hB_b
  refine Gs 4 rfl (G.ld rfl Tryz.isAgg80 (hB_b.cells 0 _ rfl) (Gs 3 rfl (G.ite rfl (fun h4 => ?_) (fun h4 => ?_))))
  ·
   rw [if_pos h4] at hwe
   refine Ga 11 rfl (by omega) (G.back (i + 1) (Sub.cons (slotI rfl (by rw [hwt]; omega)) (Sub.of rfl)) (⟨by omega, hL1⟩) (by first | omega | (dsimp only; omega)))
  ·
   rw [if_neg h4] at hwe
   refine Ga 7 rfl (by omega) (G.back (i + 1) (Sub.cons (slotI rfl (by rw [hwt]; omega)) (Sub.of rfl)) (⟨by omega, hL1⟩) (by first | omega | (dsimp only; omega)))
 ·
  have : i = l.length := by omega
  subst this
  refine Gs 12 rfl (G.ret1 Tryz.results68 rfl ⟨_, rfl, by rw [List.take_length], hL1⟩)
theorem SlR.mid {α : Type} {k : Nat} {R : Rel α} {D : Nat → Prop} {w : World} {ao : Option Addr} {n c i : Nat} {l : List α} {x : α} (h : SlR k R D w (.slice ao n c) l) (hx : l[i]? = some x) : SlR k R D w (.slice (if c = (i : Int).toNat then ao else ao.map (·.add ((i : Int).toNat * k))) (((i : Int) + 1).toNat - (i : Int).toNat) (c - (i : Int).toNat)) [x] := by
 have hi := (List.getElem?_eq_some_iff.1 hx).1
 have h1 := (h.drop i (by omega)).take 1 (by rw [List.length_drop]; omega)
 rw [drop_cons hx] at h1
 rw [Int.toNat_natCast, show ((i : Int) + 1).toNat - i = 1 by omega]
 exact h1
theorem app_ext {w w1 w2 : World} {vo vo' : Value} {n : Nat} {xs : List Value} (hE : Ext w w1) (hf : ∀ g, vo.ownBlock = some g → w.heap.size ≤ g) (hk : Keep (fun k => vo.ownBlock = some k) w1 w2) (hfr : vo'.ownBlock = vo.ownBlock ∨ ∃ g, vo'.ownBlock = some g ∧ w1.heap.size ≤ g) (_ : w1.ownsRow 0 40 4 vo n xs) :
  Ext w w2 ∧ (∀ g, vo'.ownBlock = some g → w.heap.size ≤ g) := by
 refine ⟨Keep.trans hE hk (fun k hk h => by have := hf k h; omega), fun g hg => ?_⟩
 rcases hfr with h | ⟨g', h, h'⟩
 · exact hf g (by rw [← h]; exact hg)
 ·
  rw [h] at hg; cases hg
  have := hE.size
  omega
theorem app_blk {w1 w2 : World} {vo : Value} {n : Nat} {xs : List Value} {c : Nat} {cs : List Value} {e : TypeId} (ho : w1.ownsRow 0 40 4 vo n xs) (hk : Keep (fun k => vo.ownBlock = some k) w1 w2) (hb : Blk w1 c cs e) (he : e ≠ 40) : Blk w2 c cs e :=
 hk.blk hb (fun h => by obtain ⟨cs', hb'⟩ := own_blkty ho h; exact he (hb.ty hb').1)
theorem flatN1 (x : Nd) : [x].flatMap encN = encN x := by simp
theorem encNs_one (l : List Nd) : ∀ u ∈ l.flatMap encN, u.oneCell' = true := by
 intro u hu
 obtain ⟨x, _, hx⟩ := List.mem_flatMap.1 hu
 exact encN_one x u hx
theorem lay_len_le (l : List St) : ∀ a n e, (layL l a n e).length ≤ widL l := by
 induction l using Sts.ind with
 | h l ih =>
 have key : ∀ r : List St, (∀ x ∈ r, x ∈ l) → ∀ a n e, (layL r a n e).length ≤ widL r := by
  intro r
  induction r with
  | nil => intro _ a n e; simp [layL]
  | cons s r ihr =>
   intro hm a n e
   have h1 := (ih s (hm s (List.mem_cons_self ..))).1
   have h2 := (ih s (hm s (List.mem_cons_self ..))).2
   have h3 := ihr (fun y hy => hm y (List.mem_cons_of_mem _ hy)) (a + s.size) (n + s.wid) e
   have hw := s.wid_eq
   have h4 : ∀ a n e, (s.lay a n e).length ≤ s.wid := by
    intro a n e
    rw [s.lay_eq]
    split
    ·
     rw [List.length_cons, List.length_append]
     have := h1 (a + 1) (n + 1) e
     have := h2 (a + 1 + ssize s.thn) (n + 1 + widL s.thn) e
     omega
    ·
     split
     ·
      rename_i a4
      rw [if_pos a4] at hw
      have := h1 (a + 1) (n + 2) (n + 1)
      simp only [List.length_cons]
      omega
     · simp; omega
   have := h4 a n (if r.isEmpty = true then e else n + s.wid)
   rw [layL, List.length_append, widL]
   omega
 exact key l (fun x h => h)
theorem isEmpty_f {α : Type} {l : List α} (h : (0 : Int) < (l.length : Int)) : l.isEmpty = false := by cases l <;> simp_all
theorem isEmpty_t {α : Type} {l : List α} (h : ¬ (0 : Int) < (l.length : Int)) : l.isEmpty = true := by
 cases l
 · rfl
 · simp at h
theorem lay_ok (l : List St) : ∀ (v : Value) (D : Nat → Prop) (w : World) (at_ node after : Nat), SlR 10 RSt D w v l → ssize l ≤ 10000 → at_ + ssize l ≤ 100000 → node + widL l ≤ 100000 → Calls Tryz.prog 69 #[v, .int .i64 at_, .int .i64 node, .int .i64 after] w (Ret fun r w' => w'.ownsRow 0 40 4 r (layL l at_ node after).length ((layL l at_ node after).flatMap encN) ∧ (∀ g, r.ownBlock = some g → w.heap.size ≤ g) ∧ Ext w w') := by
 induction l using Sts.ind with
 | h l ih =>
 intro v D0 w at_ node after hl00 hsz hat hnode
 have hl0 := hl00.narrow (by decide) narrow_st
 generalize hDD : (fun b => D0 b ∧ b < w.heap.size) = D at hl0
 have hDw : ∀ q, D q → q < w.heap.size := fun q h => by rw [← hDD] at h; exact h.2
 have hlen := slen_ssize l
 have hwl := widL_le l
 obtain ⟨av, cv, rfl⟩ := hl0.form
 have hmx := hl0.max
 have hcap := hl0.len_cap.2
 refine G.in4 Tryz.func69 rfl Tryz.ntmps69 rfl (Gs 19 rfl (G.loop (σ := Nat × Value) (fun ⟨i, vo⟩ => [(0, .slice av l.length cv), (1, .int .i64 (at_ + ssize (l.take i) : Nat)), (2, .int .i64 (node + widL (l.take i) : Nat)), (3, .int .i64 after), (9, vo), (17, .slice av l.length cv), (18, .int .i64 l.length), (19, .int .i64 i)]) (fun ⟨i, vo⟩ => fun w' => i ≤ l.length ∧ (∃ pre : List Nd, w'.ownsRow 0 40 4 vo pre.length (pre.flatMap encN) ∧ pre.length ≤ widL (l.take i) ∧ pre ++ layL (l.drop i) (at_ + ssize (l.take i)) (node + widL (l.take i)) after = layL l at_ node after) ∧ (∀ g, vo.ownBlock = some g → w.heap.size ≤ g) ∧ Ext w w') (fun ⟨i, vo⟩ => l.length - i) ((0, .slice none 0 0)) (Sub.of rfl) (⟨Nat.zero_le _, ⟨[], own_nil _ _ _, by simp, by simp [ssize, widL]⟩, fun g hg => by simp [Value.ownBlock] at hg, Keep.refl _ _⟩) ?_))
 rintro ⟨i, vo⟩ w1 ⟨hi, ⟨pre, ho, hpl, hpre⟩, hf, hE⟩
 show G _ _ _ _ _ [(0, .slice av l.length cv), (1, .int .i64 (at_ + ssize (l.take i) : Nat)), (2, .int .i64 (node + widL (l.take i) : Nat)), (3, .int .i64 after), (9, vo), (17, .slice av l.length cv), (18, .int .i64 l.length), (19, .int .i64 i)] _
 have hl := hl0.ext stable_st hE
 refine Gs 6 rfl (G.ite rfl (fun hlt => ?_) (fun hge => ?_))
 ·
  obtain ⟨s, he⟩ : ∃ x, l[i]? = some x := ⟨_, List.getElem?_eq_getElem (by omega)⟩
  have hm := List.mem_of_getElem? he
  obtain ⟨bq, oq, cq, haq, _, hcq, hRq⟩ := hl.at he
  have hone := hRq.one
  have hws := widL_split he
  have hwt := widL_take he
  have hzs := ssize_split he
  have hzt := ssize_take he
  have hwe := s.wid_eq
  have hze := s.size_eq
  have hwl1 := widL_le s.thn
  have hwl2 := widL_le s.els
  obtain ⟨v1, v2, v3, v4, rfl, q1, q2, q3, q4⟩ := hRq.get
  obtain ⟨p2, n2, rfl⟩ := q2.form
  obtain ⟨p3, n3, rfl⟩ := q3.form
  rw [drop_cons he, layL] at hpre
  generalize hA : at_ + ssize (l.take i) = A at *
  generalize hN : node + widL (l.take i) = N at *
  refine Gs 7 rfl (G.ops1 rfl rfl (R.indexS Tryz.runUnderlying24 Tryz.sizeOf86 rfl rfl haq (by omega)) (G.ldK rfl Tryz.isAgg86 Tryz.sizeOf86 hcq rfl (G.mem rfl rfl (M.alloc (cs := _) Tryz.zeroValue86 rfl) ?_)))
  rintro _ w2 ⟨c, rfl, hc, hsc, hBc0, hk2⟩
  refine Gs 1 rfl (G.mem0 rfl (M.storeK Tryz.sizeOf86 rfl rfl rfl rfl hone hBc0 (by simp)) ?_)
  rintro w3 ⟨_, hBc, hkc⟩
  have hk3 : Ext w1 w3 := hk2.trans hkc (fun q hq h => by have h : q = c := h; omega)
  replace hE := hE.ext hk3
  replace ho := own_keep ho hk3 (fun _ _ h => h)
  replace hBc : Blk w3 c [.int .i64 s.act, .int .i64 s.cost, .int .i64 s.var, .int .i64 s.n, .int .i64 s.term.op, .int .i64 s.term.n, v1, .slice p2 s.thn.length n2, .slice p3 s.els.length n3, v4] 86 := hBc
  refine Ga 9 rfl (by omega) (G.ops1 rfl rfl (R.sliceLH Tryz.runUnderlying24 Tryz.sizeOf86 rfl rfl rfl (by omega) (by omega)) (G.call rfl Tryz.call68 (width_ok [s] _ D _ (SlR.mid (hl.ext stable_st hk3) he) (by simp only [ssize]; omega)) ?_))
  rintro _ w4 ⟨rfl, hk4⟩
  replace hE := hE.ext hk4
  replace ho := own_keep ho hk4 (fun _ _ h => h)
  replace hBc := hk4.blk hBc (fun h => h)
  have hw1 : widL [s] = s.wid := by simp [widL]
  rw [hw1]
  refine Ga 20 rfl (by omega) (G.cut (σ := Unit) (fun u => [(0, .slice av l.length cv), (1, .int .i64 A), (2, .int .i64 N), (3, .int .i64 after), (9, vo), (10, .int .i64 i), (11, .pointer (some ⟨c, 0, none⟩)), (12, .int .i64 ((N : Int) + s.wid)), (13, .int .i64 (if (l.drop (i + 1)).isEmpty then after else N + s.wid : Nat)), (17, .slice av l.length cv), (18, .int .i64 l.length), (19, .int .i64 i)]) (fun u => fun w' => w' = w4) ?_ ?_)
  ·
   refine G.ite rfl (fun hl1 => ?_) (fun hl1 => ?_)
   ·
    have e : (l.drop (i + 1)).isEmpty = true := by rw [List.isEmpty_iff, List.drop_eq_nil_iff]; omega
    refine Gs 4 rfl (G.meet (()) (Sub.cons rfl (Sub.cons rfl (Sub.cons rfl (Sub.cons rfl (Sub.cons rfl (Sub.cons rfl (Sub.cons rfl (Sub.cons rfl (Sub.cons (slotI rfl (by rw [if_pos e])) (Sub.of rfl)))))))))) (rfl))
   ·
    have e : ¬ (l.drop (i + 1)).isEmpty = true := by rw [List.isEmpty_iff, List.drop_eq_nil_iff]; omega
    refine Gs 1 rfl (G.meet (()) (Sub.cons rfl (Sub.cons rfl (Sub.cons rfl (Sub.cons rfl (Sub.cons rfl (Sub.cons rfl (Sub.cons rfl (Sub.cons rfl (Sub.cons (slotI rfl (by rw [if_neg e]; omega)) (Sub.of rfl)))))))))) (rfl))
  rintro u w4' hw4
  subst hw4
  generalize hX : (if (l.drop (i + 1)).isEmpty then after else N + s.wid) = X at *
  refine Gs 5 rfl (G.ld rfl Tryz.isAgg80 (hBc.cells 0 _ rfl) (Gs 9 rfl (G.cut (σ := Value) (fun vo' => [(0, .slice av l.length cv), (1, .int .i64 A), (2, .int .i64 N), (3, .int .i64 after), (9, vo'), (10, .int .i64 i), (11, .pointer (some ⟨c, 0, none⟩)), (12, .int .i64 ((N : Int) + s.wid)), (17, .slice av l.length cv), (18, .int .i64 l.length), (19, .int .i64 i)]) (fun vo' => fun w' => w'.ownsRow 0 40 4 vo' (pre ++ s.lay A N X).length ((pre ++ s.lay A N X).flatMap encN) ∧ (pre ++ s.lay A N X).length ≤ widL (l.take (i + 1)) ∧ (∀ g, vo'.ownBlock = some g → w.heap.size ≤ g) ∧ Ext w w') ?_ ?_)))
  ·
   refine G.ite rfl (fun a3 => ?_) (fun a3 => ?_)
   ·
    rw [if_neg (show ¬ s.act = 4 by omega)] at hwe
    refine Gs 12 rfl (G.ld rfl Tryz.isAgg24 (hBc.cells 7 _ rfl) (Gs 4 rfl (G.cut (σ := Unit) (fun u => [(0, .slice av l.length cv), (1, .int .i64 A), (2, .int .i64 N), (3, .int .i64 after), (9, vo), (10, .int .i64 i), (11, .pointer (some ⟨c, 0, none⟩)), (12, .int .i64 ((N : Int) + s.wid)), (13, .int .i64 X), (17, .slice av l.length cv), (18, .int .i64 l.length), (19, .int .i64 i), (14, .int .i64 (if s.thn.isEmpty then X else N + 1 : Nat)), (15, .int .i64 X)]) (fun u => fun w' => w' = w4') ?_ ?_)))
    ·
     refine G.ite rfl (fun g1 => ?_) (fun g1 => ?_)
     · refine Ga 5 rfl (by omega) (G.meet (()) (Sub.cons rfl (Sub.cons rfl (Sub.cons rfl (Sub.cons rfl (Sub.cons rfl (Sub.cons rfl (Sub.cons rfl (Sub.cons rfl (Sub.cons rfl (Sub.cons rfl (Sub.cons rfl (Sub.cons rfl (Sub.cons (slotI rfl (by rw [isEmpty_f g1]; simp)) (Sub.of rfl)))))))))))))) (rfl))
     · refine Gs 1 rfl (G.meet (()) (Sub.cons rfl (Sub.cons rfl (Sub.cons rfl (Sub.cons rfl (Sub.cons rfl (Sub.cons rfl (Sub.cons rfl (Sub.cons rfl (Sub.cons rfl (Sub.cons rfl (Sub.cons rfl (Sub.cons rfl (Sub.cons (slotI rfl (by rw [isEmpty_t g1]; simp)) (Sub.of rfl)))))))))))))) (rfl))
    rintro u w5 hw5
    subst hw5
    refine Gs 5 rfl (G.ld rfl Tryz.isAgg24 (hBc.cells 8 _ rfl) (Gs 4 rfl (G.cut (σ := Unit) (fun u => [(0, .slice av l.length cv), (1, .int .i64 A), (2, .int .i64 N), (3, .int .i64 after), (9, vo), (10, .int .i64 i), (11, .pointer (some ⟨c, 0, none⟩)), (12, .int .i64 ((N : Int) + s.wid)), (13, .int .i64 X), (17, .slice av l.length cv), (18, .int .i64 l.length), (19, .int .i64 i), (14, .int .i64 (if s.thn.isEmpty then X else N + 1 : Nat)), (15, .int .i64 (if s.els.isEmpty then X else N + 1 + widL s.thn : Nat))]) (fun u => fun w' => Ext w5 w') ?_ ?_)))
    ·
     refine G.ite rfl (fun g1 => ?_) (fun g1 => ?_)
     ·
      refine Ga 4 rfl (by omega) (G.ld rfl Tryz.isAgg24 (hBc.cells 7 _ rfl) (G.call rfl Tryz.call68 (width_ok s.thn _ D _ (q2.ext stable_st (hk3.ext hk4)) (by omega)) ?_))
      rintro _ w5 ⟨rfl, hk5⟩
      refine Ga 3 rfl (by omega) (G.meet (()) (Sub.cons rfl (Sub.cons rfl (Sub.cons rfl (Sub.cons rfl (Sub.cons rfl (Sub.cons rfl (Sub.cons rfl (Sub.cons rfl (Sub.cons rfl (Sub.cons rfl (Sub.cons rfl (Sub.cons rfl (Sub.cons rfl (Sub.cons (slotI rfl (by rw [isEmpty_f g1]; simp)) Sub.nil)))))))))))))) (hk5))
     · refine Gs 1 rfl (G.meet (()) (Sub.cons rfl (Sub.cons rfl (Sub.cons rfl (Sub.cons rfl (Sub.cons rfl (Sub.cons rfl (Sub.cons rfl (Sub.cons rfl (Sub.cons rfl (Sub.cons rfl (Sub.cons rfl (Sub.cons rfl (Sub.cons rfl (Sub.cons (slotI rfl (by rw [isEmpty_t g1]; simp)) Sub.nil)))))))))))))) (Keep.refl _ _))
    rintro u w6 hk5
    have hE5 := hE.ext hk5
    have ho5 := own_keep ho hk5 (fun _ _ h => h)
    have hBc5 := hk5.blk hBc (fun h => h)
    refine Gs 7 rfl (G.ops1 rfl rfl (R.build (v := .agg #[.int .i64 3, .int .i64 A, .int .i64 (if s.thn.isEmpty then X else N + 1 : Nat), .int .i64 (if s.els.isEmpty then X else N + 1 + widL s.thn : Nat)]) [(0, _), (1, _), (2, _), (3, _)] rfl (fun _ => by kernel_rfl)) (G.mem rfl rfl (M.buildSlice (cs := encN ⟨3, A, (if s.thn.isEmpty then X else N + 1 : Nat), (if s.els.isEmpty then X else N + 1 + widL s.thn : Nat)⟩) [(0, _)] Tryz.runUnderlying29 Tryz.sizeOf40 Tryz.zeroValue40 (by decide) rfl (by kernel_rfl)) ?_))
    rintro _ w6 ⟨g6, rfl, hg6, hs6, hB6, hk6⟩
    have hE6 := hE5.ext hk6
    have ho6 := own_keep ho5 hk6 (fun _ _ h => h)
    have hBc6 := hk6.blk hBc5 (fun h => h)
    refine G.mem rfl rfl (M.append Tryz.underlying29 Tryz.el40 rfl (by decide) rfl rfl ho6 rfl (Cells.add hB6.cells) (encN_one _) (by omega) (by omega)) ?_
    rintro vo7 w7 ⟨ho7, hf7, hk7, _⟩
    obtain ⟨hE7, hfr7⟩ := app_ext hE6 hf hk7 hf7 ho6
    have hBc7 := app_blk ho6 hk7 hBc6 (by decide)
    have hA7 : Above w.heap.size w1 w7 := Above.then (Above.of_ext ((hk3.ext hk4).ext (hk5.ext hk6))) (Above.of_keep hk7 hf)
    refine Gs 7 rfl (G.ld rfl Tryz.isAgg24 (hBc7.cells 7 _ rfl) (Ga 5 rfl (by omega) (G.call rfl Tryz.call69 ((ih s hm).1 _ D w7 (A + 1) (N + 1) X (hA7.sl stable_st q2 hDw) (by omega) (by omega) (by omega)) ?_)))
    rintro r8 w8 ⟨hr8, hrf8, hk8⟩
    have hE8 := hE7.ext hk8
    have ho8 := own_keep ho7 hk8 (fun _ _ h => h)
    have hBc8 := hk8.blk hBc7 (fun h => h)
    have hll8 := lay_len_le s.thn (A + 1) (N + 1) X
    refine G.mem rfl rfl (M.appendO Tryz.underlying29 Tryz.el40 rfl (by decide) rfl rfl ho8 hr8 (encNs_one _) (by omega) (by omega)) ?_
    rintro vo9 w9 ⟨ho9, hf9, hk9⟩
    obtain ⟨hE9, hfr9⟩ := app_ext hE8 hfr7 hk9 hf9 ho8
    have hBc9 := app_blk ho8 hk9 hBc8 (by decide)
    have hA9 := Above.then (hA7.ext' hk8) (Above.of_keep hk9 hfr7)
    refine Gs 3 rfl (Dw (fun q => Blk q c [.int .i64 s.act, .int .i64 s.cost, .int .i64 s.var, .int .i64 s.n, .int .i64 s.term.op, .int .i64 s.term.n, v1, .slice p2 s.thn.length n2, .slice p3 s.els.length n3, v4] 86) [] (fun x0 xk0 _ => ?_))
    have xE0 := hE9.ext xk0
    have xA0 := hA9.ext' xk0
    have xo0 := own_keep ho9 xk0 (fun _ _ h => h)
    have xB0 := xk0.blk hBc9 (fun h => h)
    refine Ds [0, 1] (by kernel_rfl) rfl (WD.take 2 rfl (by kernel_rfl) rfl rfl rfl xB0 (fun w1 hw1 => R.load Tryz.isAgg24 rfl (hw1.cells 8 _ rfl)) (Da [3, 4, 5] (by kernel_rfl) rfl (by omega) (WD.take 6 rfl (by kernel_rfl) rfl rfl rfl xB0 (fun w1 hw1 => R.load Tryz.isAgg24 rfl (hw1.cells 7 _ rfl)) (Da [9, 10, 11] (by kernel_rfl) rfl (by omega) (WD.take 12 rfl (by kernel_rfl) rfl rfl rfl xB0 (fun w1 hw1 => R.load Tryz.isAgg24 rfl (hw1.cells 7 _ rfl)) (Ds [15] (by kernel_rfl) rfl (WD.call 7 rfl (by kernel_rfl) rfl rfl rfl (F.call (vs := [_]) Tryz.call23 rfl) (refSize_ok s.thn _ D x0 (xA0.sl stable_st q2 hDw) (by omega)) ?_)))))))
    rintro _ x1 ⟨rfl, xk1⟩
    have xE1 := xE0.ext xk1
    have xA1 := xA0.ext' xk1
    have xo1 := own_keep xo0 xk1 (fun _ _ h => h)
    have xB1 := xk1.blk xB0 (fun h => h)
    refine ⟨fun _ => xB1, ?_⟩
    refine Da [8] (by kernel_rfl) rfl (by omega) (WD.call 13 rfl (by kernel_rfl) rfl rfl rfl (F.call (vs := [_]) Tryz.call68 rfl) (width_ok s.thn _ D x1 (xA1.sl stable_st q2 hDw) (by omega)) ?_)
    rintro _ x2 ⟨rfl, xk2⟩
    have xE2 := xE1.ext xk2
    have xA2 := xA1.ext' xk2
    have xo2 := own_keep xo1 xk2 (fun _ _ h => h)
    have xB2 := xk2.blk xB1 (fun h => h)
    refine ⟨fun _ => xB2, ?_⟩
    refine Da [14] (by kernel_rfl) rfl (by omega) (WD.call 16 rfl (by kernel_rfl) rfl rfl rfl (F.call (vs := [_, _, _, _]) Tryz.call69 rfl) ((ih s hm).2 _ D x2 (A + 1 + ssize s.thn) (N + 1 + widL s.thn) X (xA2.sl stable_st q3 hDw) (by omega) (by omega) (by omega)) ?_)
    rintro r3 x3 ⟨xr3, xrf3, xk3⟩
    have xE3 := xE2.ext xk3
    have xo3 := own_keep xo2 xk3 (fun _ _ h => h)
    have xB3 := xk3.blk xB2 (fun h => h)
    refine ⟨fun _ => xB3, ?_⟩
    have hll3 := lay_len_le s.els (A + 1 + ssize s.thn) (N + 1 + widL s.thn) X
    refine WD.mem 17 rfl (by kernel_rfl) rfl rfl rfl (M.appendO Tryz.underlying29 Tryz.el40 rfl (by decide) rfl rfl xo3 xr3 (encNs_one _) (by omega) (by omega)) ?_
    rintro vo4 x4 ⟨xo4, xf4, xk4⟩
    obtain ⟨xE4, xfr4⟩ := app_ext xE3 hfr9 xk4 xf4 xo3
    have xB4 := app_blk xo3 xk4 xB3 (by decide)
    refine ⟨fun _ => xB4, ?_⟩
    refine Ds [18] (by kernel_rfl) rfl (G.done (by kernel_rfl) ?_ _)
    have e5 : pre ++ s.lay A N X = pre ++ [⟨3, A, (if s.thn.isEmpty then X else N + 1 : Nat), (if s.els.isEmpty then X else N + 1 + widL s.thn : Nat)⟩] ++ layL s.thn (A + 1) (N + 1) X ++ layL s.els (A + 1 + ssize s.thn) (N + 1 + widL s.thn) X := by
     rw [s.lay_eq, if_pos a3]
     simp only [List.append_assoc, List.cons_append, List.nil_append, apply_ite (Nat.cast (R := Int))]
    have e6 : (pre ++ s.lay A N X).length = pre.length + 1 + (layL s.thn (A + 1) (N + 1) X).length + (layL s.els (A + 1 + ssize s.thn) (N + 1 + widL s.thn) X).length := by rw [e5]; simp only [List.length_append, List.length_singleton]
    refine G.meet (vo4) (Sub.of rfl) (⟨?_, by rw [e6]; omega, xfr4, xE4⟩)
    rw [e6, e5, List.flatMap_append, List.flatMap_append, List.flatMap_append, flatN1]
    exact xo4
   ·
    refine Gs 6 rfl (G.ite rfl (fun a4 => ?_) (fun a4 => ?_))
    ·
     rw [if_pos a4] at hwe
     refine Ga 11 rfl (by omega) (G.ld rfl Tryz.isAgg24 (hBc.cells 7 _ rfl) (Gs 4 rfl (G.cut (σ := Unit) (fun u => [(0, .slice av l.length cv), (1, .int .i64 A), (2, .int .i64 N), (3, .int .i64 after), (9, vo), (10, .int .i64 i), (11, .pointer (some ⟨c, 0, none⟩)), (12, .int .i64 ((N : Int) + s.wid)), (13, .int .i64 X), (17, .slice av l.length cv), (18, .int .i64 l.length), (19, .int .i64 i), (16, .int .i64 (if s.thn.isEmpty then N + 1 else N + 2 : Nat))]) (fun u => fun w' => w' = w4') ?_ ?_)))
     ·
      refine G.ite rfl (fun g1 => ?_) (fun g1 => ?_)
      · refine Ga 5 rfl (by omega) (G.meet (()) (Sub.cons rfl (Sub.cons rfl (Sub.cons rfl (Sub.cons rfl (Sub.cons rfl (Sub.cons rfl (Sub.cons rfl (Sub.cons rfl (Sub.cons rfl (Sub.cons rfl (Sub.cons rfl (Sub.cons rfl (Sub.cons (slotI rfl (by rw [isEmpty_f g1]; simp)) Sub.nil))))))))))))) (rfl))
      · refine Gs 1 rfl (G.meet (()) (Sub.cons rfl (Sub.cons rfl (Sub.cons rfl (Sub.cons rfl (Sub.cons rfl (Sub.cons rfl (Sub.cons rfl (Sub.cons rfl (Sub.cons rfl (Sub.cons rfl (Sub.cons rfl (Sub.cons rfl (Sub.cons (slotI rfl (by rw [isEmpty_t g1]; simp)) Sub.nil))))))))))))) (rfl))
     rintro u w5 hw5
     subst hw5
     refine Ga 7 rfl (by omega) (G.ops1 rfl rfl (R.build (v := .agg #[.int .i64 4, .int .i64 A, .int .i64 ((N : Int) + 1), .int .i64 (-1)]) [(0, _), (1, _), (2, _), (3, _)] rfl (fun _ => by kernel_rfl)) (Gs 3 rfl (G.ops1 rfl rfl (R.build (v := .agg #[.int .i64 5, .int .i64 A, .int .i64 (if s.thn.isEmpty then N + 1 else N + 2 : Nat), .int .i64 X]) [(0, _), (1, _), (2, _), (3, _)] rfl (fun _ => by kernel_rfl)) (G.mem rfl rfl (M.buildSlice (cs := [(⟨4, A, (N + 1 : Nat), -1⟩ : Nd), ⟨5, A, (if s.thn.isEmpty then N + 1 else N + 2 : Nat), X⟩].flatMap encN) [(0, _), (1, _)] Tryz.runUnderlying29 Tryz.sizeOf40 Tryz.zeroValue40 (by decide) rfl (by kernel_rfl)) ?_))))
     rintro _ w6 ⟨g6, rfl, hg6, hs6, hB6, hk6⟩
     have hE6 := hE.ext hk6
     have ho6 := own_keep ho hk6 (fun _ _ h => h)
     have hBc6 := hk6.blk hBc (fun h => h)
     refine G.mem rfl rfl (M.append Tryz.underlying29 Tryz.el40 rfl (by decide) rfl rfl ho6 rfl (Cells.add hB6.cells) (encNs_one _) (by omega) (by omega)) ?_
     rintro vo7 w7 ⟨ho7, hf7, hk7, _⟩
     obtain ⟨hE7, hfr7⟩ := app_ext hE6 hf hk7 hf7 ho6
     have hBc7 := app_blk ho6 hk7 hBc6 (by decide)
     have hA7 : Above w.heap.size w1 w7 := Above.then (Above.of_ext ((hk3.ext hk4).ext hk6)) (Above.of_keep hk7 hf)
     refine Gs 6 rfl (G.ld rfl Tryz.isAgg24 (hBc7.cells 7 _ rfl) (Ga 6 rfl (by omega) (G.call rfl Tryz.call69 ((ih s hm).1 _ D w7 (A + 1) (N + 2) (N + 1) (hA7.sl stable_st q2 hDw) (by omega) (by omega) (by omega)) ?_)))
     rintro r8 w8 ⟨hr8, hrf8, hk8⟩
     have hE8 := hE7.ext hk8
     have ho8 := own_keep ho7 hk8 (fun _ _ h => h)
     have hll8 := lay_len_le s.thn (A + 1) (N + 2) (N + 1)
     refine G.mem rfl rfl (M.appendO Tryz.underlying29 Tryz.el40 rfl (by decide) rfl rfl ho8 hr8 (encNs_one _) (by omega) (by omega)) ?_
     rintro vo9 w9 ⟨ho9, hf9, hk9⟩
     obtain ⟨hE9, hfr9⟩ := app_ext hE8 hfr7 hk9 hf9 ho8
     refine Gs 2 rfl ?_
     have e5 : pre ++ s.lay A N X = pre ++ [⟨4, A, (N + 1 : Nat), -1⟩, ⟨5, A, (if s.thn.isEmpty then N + 1 else N + 2 : Nat), X⟩] ++ layL s.thn (A + 1) (N + 2) (N + 1) := by
      rw [s.lay_eq, if_neg a3, if_pos a4]
      simp only [List.append_assoc, List.cons_append, List.nil_append, apply_ite (Nat.cast (R := Int))]
     have e6 : (pre ++ s.lay A N X).length = pre.length + 2 + (layL s.thn (A + 1) (N + 2) (N + 1)).length := by rw [e5]; simp only [List.length_append, List.length_cons, List.length_nil]
     refine G.meet (vo9) (Sub.of rfl) (⟨?_, by rw [e6]; omega, hfr9, hE9⟩)
     rw [e6, e5, List.flatMap_append, List.flatMap_append]
     exact ho9
    ·
     rw [if_neg a4] at hwe
     refine Gs 4 rfl (G.ops1 rfl rfl (R.build (v := .agg #[.int .i64 2, .int .i64 A, .int .i64 X, .int .i64 (-1)]) [(0, _), (1, _), (2, _), (3, _)] rfl (fun _ => by kernel_rfl)) (G.mem rfl rfl (M.buildSlice (cs := encN ⟨2, A, X, -1⟩) [(0, _)] Tryz.runUnderlying29 Tryz.sizeOf40 Tryz.zeroValue40 (by decide) rfl (by kernel_rfl)) ?_))
     rintro _ w6 ⟨g6, rfl, hg6, hs6, hB6, hk6⟩
     have hE6 := hE.ext hk6
     have ho6 := own_keep ho hk6 (fun _ _ h => h)
     refine G.mem rfl rfl (M.append Tryz.underlying29 Tryz.el40 rfl (by decide) rfl rfl ho6 rfl (Cells.add hB6.cells) (encN_one _) (by omega) (by omega)) ?_
     rintro vo7 w7 ⟨ho7, hf7, hk7, _⟩
     obtain ⟨hE7, hfr7⟩ := app_ext hE6 hf hk7 hf7 ho6
     refine Gs 2 rfl ?_
     have e5 : pre ++ s.lay A N X = pre ++ [⟨2, A, X, -1⟩] := by rw [s.lay_eq, if_neg a3, if_neg a4]
     have e6 : (pre ++ s.lay A N X).length = pre.length + 1 := by rw [e5]; simp
     refine G.meet (vo7) (Sub.of rfl) (⟨?_, by rw [e6]; omega, hfr7, hE7⟩)
     rw [e6, e5, List.flatMap_append, flatN1]
     exact ho7
  ·
   rintro vo' w5 ⟨ho5, hpl5, hf5, hE5⟩
   show G _ _ _ _ _ [(0, .slice av l.length cv), (1, .int .i64 A), (2, .int .i64 N), (3, .int .i64 after), (9, vo'), (10, .int .i64 i), (11, .pointer (some ⟨c, 0, none⟩)), (12, .int .i64 ((N : Int) + s.wid)), (17, .slice av l.length cv), (18, .int .i64 l.length), (19, .int .i64 i)] _
   have hl5 := hl0.ext stable_st hE5
   refine Ga 9 rfl (by omega) (G.ops1 rfl rfl (R.sliceLH Tryz.runUnderlying24 Tryz.sizeOf86 rfl rfl rfl (by omega) (by omega)) (G.call rfl Tryz.call23 (refSize_ok [s] _ D _ (SlR.mid hl5 he) (by simp only [ssize]; omega)) ?_))
   rintro _ w6 ⟨rfl, hk6⟩
   have hz1 : ssize [s] = s.size := by simp [ssize]
   rw [hz1]
   refine Ga 14 rfl (by omega) (G.back ((i + 1, vo')) (Sub.cons rfl (Sub.cons (slotI rfl (by omega)) (Sub.cons (slotI rfl (by omega)) (Sub.of rfl)))) (⟨by omega, ⟨pre ++ s.lay A N X, own_keep ho5 hk6 (fun _ _ h => h), hpl5, ?_⟩, hf5, hE5.ext hk6⟩) (by first | omega | (dsimp only; omega)))
   rw [← hpre, List.append_assoc, show at_ + ssize (l.take (i + 1)) = A + s.size by omega, show node + widL (l.take (i + 1)) = N + s.wid by omega]
 ·
  have hii : i = l.length := by omega
  subst hii
  rw [List.drop_length, layL, List.append_nil] at hpre
  refine Gs 12 rfl (G.ret1 Tryz.results69 rfl ⟨_, rfl, by rw [← hpre]; exact ho, hf, hE⟩)
theorem refBuild_ok (f : Fl) (v1 v2 v3 : Value) (D : Nat → Prop) (w : World) (hf : RFl D w f v1 v2 v3) (hsz : ssize f.body ≤ 10000) :
  Calls Tryz.prog 20 #[.agg #[v1, v2, v3]] w (Ret fun r w' => (∃ nv, r = .agg #[nv] ∧ SlR 4 RNd (fun b => w.heap.size ≤ b) w' nv (cfgN f)) ∧ Ext w w') := by
 have hwl := widL_le f.body
 have hll := lay_len_le f.body 0 1 (1 + widL f.body)
 refine G.in1 Tryz.func20 rfl Tryz.ntmps20 rfl (Gs 2 rfl (G.mem rfl rfl (M.box rfl rfl) ?_))
 rintro _ w1 ⟨c, rfl, hc, hs1, hBc, hk1⟩
 refine G.mem rfl rfl (M.alloc (cs := [.slice none 0 0]) Tryz.zeroValue31 rfl) ?_
 rintro _ w2 ⟨r, rfl, hr, hs2, hBr, hk2⟩
 replace hBc := hk2.blk hBc (fun h => h)
 have hE2 := hk1.ext hk2
 refine Gs 5 rfl (G.ld rfl Tryz.isAgg24 (hBc.cells 2 _ rfl) (G.call rfl Tryz.call68 (width_ok f.body _ D w2 (hf.body.ext stable_st hE2) (by omega)) ?_))
 rintro _ w3 ⟨rfl, hk3⟩
 replace hBc := hk3.blk hBc (fun h => h)
 replace hBr := hk3.blk hBr (fun h => h)
 have hE3 := hE2.ext hk3
 refine Ga 6 rfl (by omega) (G.ops1 rfl rfl (R.build (v := .agg #[.int .i64 0, .int .i64 (-1), .int .i64 1, .int .i64 (-1)]) [(0, _), (1, _), (2, _), (3, _)] rfl (fun _ => by kernel_rfl)) (G.mem rfl rfl (M.buildSlice (cs := encN ⟨0, -1, 1, -1⟩) [(0, _)] Tryz.runUnderlying29 Tryz.sizeOf40 Tryz.zeroValue40 (by decide) rfl (by kernel_rfl)) ?_))
 rintro _ w4 ⟨g4, rfl, hg4, hs4, hB4, hk4⟩
 replace hBc := hk4.blk hBc (fun h => h)
 replace hBr := hk4.blk hBr (fun h => h)
 have hE4 := hE3.ext hk4
 have ho4 : w4.ownsRow 0 40 4 (.slice (some ⟨g4, 0, none⟩) 1 1) 1 (encN ⟨0, -1, 1, -1⟩) := own_blk (k := 4) (n := 1) (cap := 1) hB4 (Nat.le_refl _) (by decide) rfl
 have hf4 : ∀ g, Value.ownBlock (.slice (some ⟨g4, 0, none⟩) 1 1) = some g → w.heap.size ≤ g := fun g hg => by
  obtain rfl : g4 = g := Option.some.inj hg
  have := hE3.size; omega
 refine Gs 7 rfl (G.ld rfl Tryz.isAgg24 (hBc.cells 2 _ rfl) (Gs 1 rfl (G.call rfl Tryz.call69 (lay_ok f.body _ D w4 0 1 (1 + widL f.body) (hf.body.ext stable_st hE4) hsz (by omega) (by omega)) ?_)))
 rintro r5 w5 ⟨hr5, hrf5, hk5⟩
 replace hBr := hk5.blk hBr (fun h => h)
 have hE5 := hE4.ext hk5
 have ho5 := own_keep ho4 hk5 (fun _ _ h => h)
 refine G.mem rfl rfl (M.appendO Tryz.underlying29 Tryz.el40 rfl (by decide) rfl rfl ho5 hr5 (encNs_one _) (by omega) (by omega)) ?_
 rintro v6 w6 ⟨ho6, hf6, hk6⟩
 obtain ⟨hE6, hfr6⟩ := app_ext hE5 hf4 hk6 hf6 ho5
 replace hBr := app_blk ho5 hk6 hBr (by decide)
 refine Gs 6 rfl (G.ops1 rfl rfl (R.build (v := .agg #[.int .i64 1, .int .i64 (-1), .int .i64 (-1), .int .i64 (-1)]) [(0, _), (1, _), (2, _), (3, _)] rfl (fun _ => by kernel_rfl)) (G.mem rfl rfl (M.buildSlice (cs := encN ⟨1, -1, -1, -1⟩) [(0, _)] Tryz.runUnderlying29 Tryz.sizeOf40 Tryz.zeroValue40 (by decide) rfl (by kernel_rfl)) ?_))
 rintro _ w7 ⟨g7, rfl, hg7, hs7, hB7, hk7⟩
 replace hBr := hk7.blk hBr (fun h => h)
 have hE7 := hE6.ext hk7
 have ho7 := own_keep ho6 hk7 (fun _ _ h => h)
 refine G.mem rfl rfl (M.append Tryz.underlying29 Tryz.el40 rfl (by decide) rfl rfl ho7 rfl (Cells.add hB7.cells) (encN_one _) (by omega) (by omega)) ?_
 rintro v8 w8 ⟨ho8, hf8, hk8, _⟩
 obtain ⟨hE8, hfr8⟩ := app_ext hE7 hfr6 hk8 hf8 ho7
 replace hBr := app_blk ho7 hk8 hBr (by decide)
 obtain ⟨av, cv, rfl⟩ := own_form ho8
 refine G.ops1 rfl rfl (R.build (v := .agg #[.slice av (1 + (layL f.body 0 1 (1 + widL f.body)).length + 1) cv]) [(0, _)] rfl (fun _ => by kernel_rfl)) (G.mem0 rfl (M.storeK Tryz.sizeOf31 rfl rfl rfl rfl (by simp [Value.oneCell']) hBr (by simp)) ?_)
 rintro wf ⟨_, hBf, hkf⟩
 have hown' := own_keep ho8 hkf (fun g hg h => by
  obtain ⟨cs', hb'⟩ := own_blkty ho8 hg
  exact hb'.ne hBr (by decide) h)
 refine Gs 3 rfl (G.retC Tryz.results20 rfl (run_loadK Tryz.isAgg31 Tryz.sizeOf31 rfl hBf.cells) ?_)
 refine ⟨_, rfl, ⟨_, rfl, ?_⟩, hE8.trans hkf (fun q hq h => by have h : q = r := h; have := hk1.size; omega)⟩
 refine SlR.ofRowK (by decide) encN encN_len (fun _ _ => rfl) (n := 1 + (layL f.body 0 1 (1 + widL f.body)).length + 1) (e := 40) ?_ hfr8
 unfold cfgN
 rw [List.flatMap_cons, List.flatMap_append, flatN1, ← List.append_assoc]
 exact hown'
theorem valid_of {f : Fl} (h : ((f.vars.length : Int) ≤ 10 ∧ (f.hatches.length : Int) ≤ 10 ∧ ((sbulk f.body + hnodes f.hatches : Nat) : Int) ≤ 80) ∧ checkN f = 0) : Valid f := by
 obtain ⟨⟨_, _, h1⟩, h2⟩ := h
 have h3 := sbulk_snodes f.body
 exact ⟨h2, by omega, by omega⟩
theorem walkCode_own {f : Fl} (vd : Valid f) (r : Ins) : walkCode f (cfgN f) r = startCode f.vars r := by
 unfold walkCode gcheckN
 simp [vd.ok]
theorem lawWalks_ok (f : Fl) (r : Ins) (v1 v2 v3 s1 s2 s3 : Value) (D : Nat → Prop) (W : World) (hf : RFl D W f v1 v2 v3) (hi1 : SlR 1 RInt D W s1 r.secret) (hi2 : SlR 1 RInt D W s2 r.pub) (hi3 : SlR 1 RInt D W s3 r.random) :
  Calls Tryz.prog 6 #[.agg #[v1, v2, v3], .agg #[s1, s2, s3]] W (Ret fun r w' => r = .bool true ∧ Ext W w') := by
 refine G.in2 Tryz.func6 rfl Tryz.ntmps6 rfl (V.inn ?_)
 refine Vs 2 rfl ?_
 refine V.box 2 rfl rfl (fun b2 => ?_)
 refine V.box 3 rfl rfl (fun b3 => ?_)
 refine Vs 6 rfl ?_
 refine V.call1 Tryz.call14 rfl (fun w hI => known_ok w) ?_
 refine V.ops1 rfl (fun w hI => R.notU rfl (by first | exact not_decide_eq | rfl)) ?_
 refine Vs 2 rfl ?_
 refine V.bool rfl (fun k0 => ?_) (fun k0 => ?_)
 · cases k0
 ·
  refine Vs 6 rfl ?_
  refine V.call2 Tryz.call26 rfl (fun w hI => fit_ok f 4096 4096 256 v1 v2 v3 D w (Tr1 hI.k0 hf)) ?_
  rintro rr w1 w2 hI1 hk12 ⟨q, rfl, hq⟩ hlow
  refine V.ops1 rfl (fun w hI => R.notU rfl (by first | exact not_decide_eq | rfl)) ?_
  refine Vs 2 rfl ?_
  refine V.bool rfl (fun q0 => ?_) (fun q0 => ?_)
  ·
   refine Vs 7 rfl ?_
   refine V.ret1 Tryz.results6 rfl (fun w hI => ⟨_, rfl, rfl, hI.k1⟩)
  ·
   have vd : Valid f := valid_of (hq (by simpa using q0))
   have hss := vd.ssize
   have hl := vd.lens
   refine Vs 5 rfl ?_
   refine V.call2 Tryz.call20 rfl (fun w hI => refBuild_ok f v1 v2 v3 D w (Tr1 hI.k1 hf) (by omega)) ?_
   rintro rr w3 w4 hI3 hk34 ⟨nv, rfl, hnv⟩ hlow2
   obtain ⟨an, cn, rfl⟩ := hnv.form
   refine V.alloc 5 Tryz.zeroValue31 rfl rfl (fun b5 => ?_)
   refine Vs 4 rfl ?_
   refine V.dat 900 0 rfl rfl rfl (hnv) (fun b hb _ hs => by have := hlow2 b hs; omega) ?_
   refine Vs 4 rfl ?_
   refine V.call2 Tryz.call27 rfl (fun w hI => cfgWalk_ok f (cfgN f) r v1 v2 v3 _ s1 s2 s3 D _ w (Tr1 hI.k2 hf) (hI.at 900 rfl).1 (Tr1 hI.k2 hi1) (Tr1 hI.k2 hi2) (Tr1 hI.k2 hi3) vd.size vd.bulk) ?_
   rintro rr w5 w6 hI5 hk56 ⟨pv, rfl, p1, p2⟩ hlow3
   have hwc := walkCode_own vd r
   rw [hwc] at p1 p2 ⊢
   obtain ⟨pl, ap, cp, rfl, hpl, g1, g2⟩ : ∃ pl ap cp, pv = .slice ap (List.length pl) cp ∧ SlI (fun b => w5.heap.size ≤ b) w6 ap cp pl ∧ (startCode f.vars r ≠ 0 → pl = []) ∧ (startCode f.vars r = 0 → ∃ K, GoesAll f r K ∧ pl = pathOf f r K) := by
    by_cases h : startCode f.vars r = 0
    ·
     obtain ⟨K, h1, h2⟩ := p2 h
     obtain ⟨a, c, rfl⟩ := h2.form
     exact ⟨_, _, _, rfl, h2, fun h' => absurd h h', fun _ => ⟨K, h1, rfl⟩⟩
    ·
     obtain rfl := p1 h
     exact ⟨[], _, _, rfl, SlR.nil, fun _ => rfl, fun h' => absurd h' h⟩
   refine Vs 9 rfl ?_
   refine V.dat 901 0 rfl rfl rfl (hpl) (fun b hb _ hs => by have := hlow3 b hs; omega) ?_
   refine Vs 4 rfl ?_
   refine V.call2 Tryz.call28 rfl (fun w hI => refStart_ok f.vars r v1 s1 s2 s3 D D D D w (Tr1 hI.k3 hf.vars) (by omega) vd.kinds (Tr1 hI.k3 hi1) (Tr1 hI.k3 hi2) (Tr1 hI.k3 hi3)) ?_
   rintro rr w7 w8 hI7 hk78 ⟨u, rfl, _, _⟩ hlow4
   refine Vs 13 rfl ?_
   refine V.ite rfl (fun e0 => ?_) (fun e0 => ?_)
   ·
    obtain rfl := g1 e0
    refine Vs 6 rfl ?_
    refine V.sp 38 rfl (fun e1 => ?_) (fun e1 => ?_)
    ·
     refine Vs 9 rfl ?_
     refine V.ret1 Tryz.results6 rfl (fun w hI => ⟨_, rfl, rfl, hI.k4⟩)
    · exact absurd rfl e1
   ·
    have e0' : startCode f.vars r = 0 := by omega
    obtain ⟨K, hK, rfl⟩ := g2 e0'
    refine Vs 7 rfl ?_
    refine V.call2 Tryz.call29 rfl (fun w hI => refWalk_ok f r v1 v2 v3 _ s1 s2 s3 D _ w (Tr1 hI.k4 hf) (hI.at 900 rfl).1 (Tr1 hI.k4 hi1) (Tr1 hI.k4 hi2) (Tr1 hI.k4 hi3) vd e0') ?_
    rintro rr w9 w10 hI9 hk90 ⟨pv2, K2, sg, b1, c1, b2, c2, rfl, hK2, hpv2⟩ hlow5
    obtain rfl := hK.unique hK2
    refine V.dat 902 0 rfl rfl rfl (hpv2) (fun b hb _ hs => by have := hlow5 b hs; omega) ?_
    refine Vs 3 rfl ?_
    refine V.alloc 11 Tryz.zeroValue58 rfl rfl (fun b11 => ?_)
    refine Vs 9 rfl ?_
    refine V.sp 52 rfl (fun e1 => ?_) (fun e1 => ?_)
    ·
     refine Vs 2 rfl ?_
     refine V.call1 Tryz.call30 rfl (fun w hI => equal_ok (pathOf f r K) (pathOf f r K) _ _ _ _ w (hI.at 901 rfl).1 (hI.at 902 rfl).1) ?_
     refine Vs 5 rfl ?_
     refine V.ret1 Tryz.results6 rfl (fun w hI => ⟨_, rfl, by simp, hI.k5⟩)
    · exact absurd e0' e1
end Go.Proofs.YtldhllpogdikdaaGreat
