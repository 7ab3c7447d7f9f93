/-
  Contracts and the mathematics that the proof needs. Nothing here is a claim.
-/
import Derived.Test.YtldhllpogdikdaaGreatKD5
namespace Go.GL
section
variable {P : Program} {env : Env} {w : World} {dst : Option Tmp} {ty : TypeId} {pos : String} {aft : Array Edge} {g : Option (Nat × Bool)}
theorem M.bs0 {t e : TypeId} {k : Nat} (hu : ∀ w, (underlying t).run P w = .ok (.slice e) w) (hs : ∀ w, (sizeOf e).run P w = .ok k w) :
  Makes P ⟨dst, .buildSlice t 0 #[], ty, pos, aft, g⟩ env w (fun u w' => ∃ b, u = .slice (some ⟨b, 0, none⟩) 0 0 ∧ New w [] e b w') := by
 refine ⟨.slice (some ⟨w.heap.size, 0, none⟩) 0 0, w.alloc (.cells #[] e), ?_, _, rfl, New.mk w [] e⟩
 intro n a ha
 have h0 : Array.range 0 = #[] := Array.eq_empty_of_size_eq_zero (by simp)
 simp [execOp, Instr.buildSlice, hu, hs, newRow, Instr.fill, h0]
end
end Go.GL
namespace Go.Proofs.YtldhllpogdikdaaGreat
open Go.GL
theorem refOf_ok (vs : List Vr) (k : Int) (vv : Value) (D : Nat → Prop) (w : World) (hvs : SlR 5 RVr D w vv vs) (hlen : vs.length ≤ 1000000) : Calls Tryz.prog 120 #[vv, .int .i64 k] w (Ret fun r w' => SlR 5 RVr (fun b => w.heap.size ≤ b) w' r (ofKind k vs) ∧ Ext w w') := by
 obtain ⟨av, nv, rfl⟩ := hvs.form
 have hvs0 := hvs
 have hE := Keep.refl (fun _ => False) w
 refine G.in2 Tryz.func120 rfl Tryz.ntmps120 rfl (Gs 7 rfl (G.mem rfl rfl (M.bs0 Tryz.runUnderlying22 Tryz.sizeOf125) ?_))
 rintro _ w0 ⟨b0, rfl, hg_b0, hs_b0, hB_b0, hk_b0⟩
 obtain ⟨hE, hvs⟩ := Tr2 hk_b0 hE hvs
 have ho0 : w0.ownsRow 0 125 5 (.slice (some ⟨b0, 0, none⟩) 0 0) 0 [] := own_blk (k := 5) (n := 0) (cap := 0) hB_b0 (Nat.le_refl _) (by decide) rfl
 refine Gs 10 rfl (G.loop (σ := Nat × Value) (fun ⟨i, vl⟩ => [(0, .slice av vs.length nv), (1, .int .i64 k), (5, vl), (6, .int .i64 i)]) (fun ⟨i, vl⟩ => fun w' => i ≤ vs.length ∧ w'.ownsRow 0 125 5 vl (ofKind k (vs.take i)).length ((ofKind k (vs.take i)).flatMap encV) ∧ (∀ q, vl.ownBlock = some q → w.heap.size ≤ q) ∧ Ext w w') (fun ⟨i, vl⟩ => vs.length - i) ((0, .slice (some ⟨b0, 0, none⟩) 0 0)) (Sub.of rfl) (⟨Nat.zero_le _, ho0, fun q hq => by obtain rfl : b0 = q := Option.some.inj hq; omega, hE⟩) ?_)
 rintro ⟨i, vl⟩ w2 ⟨hi, hown, hfr, hE2⟩
 show G _ _ _ _ _ [(0, .slice av vs.length nv), (1, .int .i64 k), (5, vl), (6, .int .i64 i)] _
 have hvs2 := hvs0.ext stable_vr hE2
 refine Gs 9 rfl (G.ite rfl (fun hlt => ?_) (fun hlt => ?_))
 ·
  obtain ⟨x, he_x⟩ : ∃ x, vs[i]? = some x := ⟨_, List.getElem?_eq_getElem (by omega)⟩
  have hm_x := List.mem_of_getElem? he_x
  obtain ⟨b_x, o_x, c_x, ha_x, _, hc_x, hR_x⟩ := hvs2.at he_x
  have h1_x := RVr.one hR_x
  obtain rfl := hR_x
  have hlt_x : b_x < _ := World.block_lt_of_cell? _ _ (hc_x 0 _ rfl)
  have hot := ofKind_take (k := k) he_x
  have hol := ofKind_len k (vs.take i)
  rw [List.length_take] at hol
  refine Gs 8 rfl (G.ops1 rfl rfl (R.indexS Tryz.runUnderlying22 Tryz.sizeOf125 rfl rfl ha_x (by omega)) (Gs 1 rfl (G.ld rfl Tryz.isAgg121 (hc_x 1 _ rfl) (Gs 4 rfl (G.ite rfl (fun hkx => ?_) (fun hkx => ?_))))))
  ·
   rw [if_pos hkx] at hot
   refine Gs 4 rfl (G.ops1 rfl rfl (R.indexS Tryz.runUnderlying22 Tryz.sizeOf125 rfl rfl ha_x (by omega)) (G.ldK rfl Tryz.isAgg125 Tryz.sizeOf125 hc_x rfl (G.mem rfl rfl (M.buildSlice (cs := encV x) [(0, _)] Tryz.runUnderlying22 Tryz.sizeOf125 Tryz.zeroValue125 (by decide) rfl (by kernel_rfl)) ?_)))
   rintro _ w5 ⟨b5, rfl, hg_b5, hs_b5, hB_b5, hk_b5⟩
   have hown5 := own_keep hown hk_b5 (fun _ _ h => h)
   have hE5 := hE2.ext hk_b5
   have hs5 := hE5.size
   refine G.mem rfl rfl (M.append Tryz.underlying22 Tryz.el125 rfl (by decide) rfl rfl hown5 rfl (Cells.add hB_b5.cells) (encV_one _) (by omega) (by omega)) ?_
   rintro vl' w6 ⟨hown6, hfr6, hk6, _⟩
   refine Ga 9 rfl (by omega) (G.back ((i + 1, vl')) (Sub.of rfl) (⟨by omega, ?_, ?_, hE5.trans hk6 (fun q hq h => by have := hfr q h; omega)⟩) (by first | omega | (dsimp only; omega)))
   ·
    rw [hot, List.length_append, List.flatMap_append]
    exact hown6
   ·
    intro q hq
    rcases hfr6 with h | ⟨q', h, h'⟩
    · exact hfr q (by rw [← h]; exact hq)
    · rw [h] at hq; cases hq; omega
  ·
   rw [if_neg hkx, List.append_nil] at hot
   refine Ga 8 rfl (by omega) (G.back ((i + 1, vl)) (Sub.of rfl) (⟨by omega, by rw [hot]; exact hown, hfr, hE2⟩) (by first | omega | (dsimp only; omega)))
 ·
  obtain rfl : i = vs.length := by omega
  rw [List.take_length] at hown
  refine Gs 12 rfl (G.ret1 Tryz.results120 rfl ⟨_, rfl, SlR.ofRowK (by omega) encV encV_len (fun x _ => rfl) hown hfr, hE2⟩)
theorem refSpace13_ok (vs : List Vr) (k : Int) (vv : Value) (D : Nat → Prop) (w : World) (hvs : SlR 5 RVr D w vv vs) (hlen : vs.length ≤ 1000000) : Calls Tryz.prog 72 #[vv, .int .i64 k] w (Ret fun r w' => (∃ a b : Int, r = .tuple #[.int .i64 a, .int .i64 b]) ∧ Ext w w') := by
 obtain ⟨av, nv, rfl⟩ := hvs.form
 have hE := Keep.refl (fun _ => False) w
 refine G.in2 Tryz.func72 rfl Tryz.ntmps72 rfl (Gs 8 rfl (G.cut (σ := Bool) (fun q => [(0, .slice av vs.length nv), (1, .int .i64 k), (23, .bool q)]) (fun q => fun w' => w' = w) ?_ ?_))
 ·
  refine Gs 4 rfl (G.sp 12 rfl (fun hh1 => ?_) (fun hh1 => ?_))
  ·
   refine Gs 4 rfl (G.sp 16 rfl (fun hh2 => ?_) (fun hh2 => ?_))
   ·
    refine Gs 4 rfl (G.sp 20 rfl (fun hh3 => ?_) (fun hh3 => ?_))
    ·
     refine Gs 4 rfl ?_
     refine G.meet (_) (Sub.of rfl) (rfl)
    ·
     refine Gs 4 rfl ?_
     refine G.meet (_) (Sub.cons rfl (Sub.cons rfl (Sub.cons (by first | rfl | (show some (Value.bool false) = some (Value.bool _); simp [*])) Sub.nil))) (rfl)
   ·
    refine Gs 8 rfl ?_
    refine G.meet (_) (Sub.cons rfl (Sub.cons rfl (Sub.cons (by first | rfl | (show some (Value.bool false) = some (Value.bool _); simp [*])) Sub.nil))) (rfl)
  ·
   refine Gs 12 rfl ?_
   refine G.meet (_) (Sub.cons rfl (Sub.cons rfl (Sub.cons (by first | rfl | (show some (Value.bool false) = some (Value.bool _); simp [*])) Sub.nil))) (rfl)
 rintro q w1 hw1
 subst hw1
 refine Gs 1 rfl (G.bool rfl (fun q1 => ?_) (fun q1 => ?_))
 · refine Gs 8 rfl (G.ret2 Tryz.results72 rfl rfl ⟨_, rfl, ⟨_, _, rfl⟩, hE⟩)
 ·
  refine Gs 6 rfl (G.call rfl Tryz.call120 (refOf_ok vs k _ D _ hvs hlen) ?_)
  rintro _ wz4 ⟨hl, hz4⟩
  obtain ⟨hE, hvs⟩ := Tr2 hz4 hE hvs
  have hol := ofKind_len k vs
  generalize ofKind k vs = l at hl hol
  obtain ⟨al, nl, rfl⟩ := hl.form
  refine Gs 10 rfl ?_
  have hlm := hl.max
  refine G.loop (σ := Nat) (fun i => [(6, .slice al l.length nl), (7, .int .i64 i)]) (fun i => fun w' => i ≤ l.length ∧ (∀ v ∈ l.take i, v.low ≤ v.high ∧ -1048576 ≤ v.low ∧ v.high ≤ 1048576) ∧ Ext wz4 w') (fun i => l.length - i) (0) (Sub.of rfl) (⟨Nat.zero_le _, by simp, Keep.refl _ _⟩) ?_
  rintro i w2 ⟨hi, hgood, hL1⟩
  obtain ⟨hE, hvs, hl⟩ := Tr3 hL1 hE hvs hl
  refine Gs 9 rfl (G.ite rfl (fun hlt => ?_) (fun hlt => ?_))
  ·
   obtain ⟨x, he_x⟩ : ∃ x, l[i]? = some x := ⟨_, List.getElem?_eq_getElem (by omega)⟩
   have hm_x := List.mem_of_getElem? he_x
   obtain ⟨b_x, o_x, c_x, ha_x, _, hc_x, hR_x⟩ := hl.at he_x
   have h1_x := RVr.one hR_x
   obtain rfl := hR_x
   have hlt_x : b_x < _ := World.block_lt_of_cell? _ _ (hc_x 0 _ rfl)
   refine Gs 5 rfl (Qt (by kernel_rfl) (Gs 2 rfl (G.opQ rfl rfl (fun w1 hw1 => R.indexS Tryz.runUnderlying22 Tryz.sizeOf125 rfl rfl ha_x (by omega)) (Gs 1 rfl (G.ldQ rfl Tryz.isAgg3 (fun w1 hw1 => ((hw1.cells hc_x (fun h => h)) 2 _ rfl)) (Gs 2 rfl (G.opQ rfl rfl (fun w1 hw1 => R.indexS Tryz.runUnderlying22 Tryz.sizeOf125 rfl rfl ha_x (by omega)) (Gs 1 rfl (G.ldQ rfl Tryz.isAgg3 (fun w1 hw1 => ((hw1.cells hc_x (fun h => h)) 3 _ rfl)) (Gs 2 rfl (G.sp 44 rfl (fun p1 => ?_) (fun p1 => ?_))))))))))))
   ·
    refine Gs 15 rfl (G.nilQ (fun wz5 hz5 => ?_))
    obtain ⟨hE, hvs, hl, hL1, hc_x⟩ := Tr5 hz5 hE hvs hl hL1 hc_x
    refine Gs 14 rfl (G.ret2 Tryz.results72 rfl rfl ⟨_, rfl, ⟨_, _, rfl⟩, hE⟩)
   ·
    refine Gs 2 rfl (G.opQ rfl rfl (fun w1 hw1 => R.indexS Tryz.runUnderlying22 Tryz.sizeOf125 rfl rfl ha_x (by omega)) (Gs 1 rfl (G.ldQ rfl Tryz.isAgg3 (fun w1 hw1 => ((hw1.cells hc_x (fun h => h)) 2 _ rfl)) (Gs 3 rfl (G.sp 52 rfl (fun p2 => ?_) (fun p2 => ?_))))))
    ·
     refine Gs 7 rfl (G.nilQ (fun wz6 hz6 => ?_))
     obtain ⟨hE, hvs, hl, hL1, hc_x⟩ := Tr5 hz6 hE hvs hl hL1 hc_x
     refine Gs 14 rfl (G.ret2 Tryz.results72 rfl rfl ⟨_, rfl, ⟨_, _, rfl⟩, hE⟩)
    ·
     refine Gs 2 rfl (G.opQ rfl rfl (fun w1 hw1 => R.indexS Tryz.runUnderlying22 Tryz.sizeOf125 rfl rfl ha_x (by omega)) (Gs 1 rfl (G.ldQ rfl Tryz.isAgg3 (fun w1 hw1 => ((hw1.cells hc_x (fun h => h)) 3 _ rfl)) (Gs 2 rfl (G.nilQ (fun wz7 hz7 => ?_))))))
     obtain ⟨hE, hvs, hl, hL1, hc_x⟩ := Tr5 hz7 hE hvs hl hL1 hc_x
     refine Gs 1 rfl (G.ite rfl (fun p3 => ?_) (fun p3 => ?_))
     · refine Gs 12 rfl (G.ret2 Tryz.results72 rfl rfl ⟨_, rfl, ⟨_, _, rfl⟩, hE⟩)
     ·
      refine Ga 8 rfl (by omega) ?_
      have hgood2 : ∀ v ∈ l.take (i + 1), v.low ≤ v.high ∧ -1048576 ≤ v.low ∧ v.high ≤ 1048576 := fun v hv => by
       rw [take_get he_x, List.mem_append, List.mem_singleton] at hv
       rcases hv with hv | rfl
       · exact hgood v hv
       · omega
      refine G.back (i + 1) (Sub.of rfl) (⟨by omega, hgood2, hL1⟩) (by first | omega | (dsimp only; omega))
  ·
   obtain rfl : i = l.length := by omega
   rw [List.take_length] at hgood
   refine Gs 17 rfl (G.loop (σ := Nat × Int) (fun ⟨j, n⟩ => [(6, .slice al l.length nl), (8, .int .i64 n), (9, .int .i64 j)]) (fun ⟨j, n⟩ => fun w' => j ≤ l.length ∧ 0 ≤ n ∧ n ≤ 4096 ∧ Ext w2 w') (fun ⟨j, n⟩ => l.length - j) ((0, 1)) (Sub.of rfl) (⟨Nat.zero_le _, by decide, by decide, Keep.refl _ _⟩) ?_)
   rintro ⟨j, n⟩ w3 ⟨hj, hn0, hn1, hL2⟩
   show G _ _ _ _ _ [(6, .slice al l.length nl), (8, .int .i64 n), (9, .int .i64 j)] _
   obtain ⟨hE, hvs, hl, hL1⟩ := Tr4 hL2 hE hvs hl hL1
   refine Gs 9 rfl (G.ite rfl (fun hlt2 => ?_) (fun hlt2 => ?_))
   ·
    obtain ⟨x, he_x⟩ : ∃ x, l[j]? = some x := ⟨_, List.getElem?_eq_getElem (by omega)⟩
    have hm_x := List.mem_of_getElem? he_x
    obtain ⟨b_x, o_x, c_x, ha_x, _, hc_x, hR_x⟩ := hl.at he_x
    have h1_x := RVr.one hR_x
    obtain rfl := hR_x
    have hlt_x : b_x < _ := World.block_lt_of_cell? _ _ (hc_x 0 _ rfl)
    have hgx := hgood x hm_x
    have hm1 : 0 ≤ n * (x.high - x.low + 1) := Int.mul_nonneg hn0 (by omega)
    have hm2 : n * (x.high - x.low + 1) ≤ 4096 * 2097153 := Int.mul_le_mul hn1 (by omega) (by omega) (by omega)
    refine Gs 5 rfl (Qt (by kernel_rfl) (Gs 3 rfl (G.opQ rfl rfl (fun w1 hw1 => R.indexS Tryz.runUnderlying22 Tryz.sizeOf125 rfl rfl ha_x (by omega)) (Gs 1 rfl (G.ldQ rfl Tryz.isAgg3 (fun w1 hw1 => ((hw1.cells hc_x (fun h => h)) 3 _ rfl)) (Gs 2 rfl (G.opQ rfl rfl (fun w1 hw1 => R.indexS Tryz.runUnderlying22 Tryz.sizeOf125 rfl rfl ha_x (by omega)) (Gs 1 rfl (G.ldQ rfl Tryz.isAgg3 (fun w1 hw1 => ((hw1.cells hc_x (fun h => h)) 2 _ rfl)) (Ga 4 rfl (by omega) (G.nilQ (fun wz8 hz8 => ?_))))))))))))
    obtain ⟨hE, hvs, hl, hL1, hL2, hc_x⟩ := Tr6 hz8 hE hvs hl hL1 hL2 hc_x
    refine Gs 7 rfl (G.ite rfl (fun p4 => ?_) (fun p4 => ?_))
    · refine Gs 12 rfl (G.ret2 Tryz.results72 rfl rfl ⟨_, rfl, ⟨_, _, rfl⟩, hE⟩)
    · refine Ga 8 rfl (by omega) (G.back ((j + 1, n * (x.high - x.low + 1))) (Sub.of rfl) (⟨by omega, hm1, by omega, hL2⟩) (by first | omega | (dsimp only; omega)))
   · refine Gs 13 rfl (G.ret2 Tryz.results72 rfl rfl ⟨_, rfl, ⟨_, _, rfl⟩, hE⟩)
theorem fit_ok (f : Fl) (a b c : Int) (v1 v2 v3 : Value) (D : Nat → Prop) (w : World) (hf : RFl D w f v1 v2 v3) :
  Calls Tryz.prog 26 #[.agg #[v1, v2, v3], .int .i64 a, .int .i64 b, .int .i64 c] w (Ret fun r w' => (∃ q : Bool, r = .bool q ∧ (q = true → ((f.vars.length : Int) ≤ 10 ∧ (f.hatches.length : Int) ≤ 10 ∧ ((sbulk f.body + hnodes f.hatches : Nat) : Int) ≤ 80) ∧ checkN f = 0)) ∧ Ext w w') := by
 obtain ⟨a1, n1, rfl⟩ := hf.vars.form
 obtain ⟨a2, n2, rfl⟩ := hf.hatches.form
 obtain ⟨a3, n3, rfl⟩ := hf.body.form
 have hE := Keep.refl (fun _ => False) w
 refine G.in4 Tryz.func26 rfl Tryz.ntmps26 rfl (Gs 2 rfl (G.mem rfl rfl (M.box rfl rfl) ?_))
 rintro _ w_bx ⟨bx, rfl, hg_bx, hs_bx, hB_bx, hk_bx⟩
 have hge_bx : _ ≤ bx := Nat.le_trans hE.size (Nat.le_of_eq hg_bx.symm)
 obtain ⟨hE, hf⟩ := Tr2 hk_bx hE hf
 refine Gs 6 rfl (G.ldK rfl Tryz.isAgg26 Tryz.sizeOf26 hB_bx.cells rfl (G.call rfl Tryz.call15 (few17_ok f 10 80 _ _ _ D _ hf (by decide) (by decide)) ?_))
 rintro _ wz1 ⟨rfl, hz1⟩
 obtain ⟨hE, hf, hB_bx⟩ := Tr3 hz1 hE hf hB_bx
 refine G.ops1 rfl rfl (R.notU rfl (by first | exact not_decide_eq | rfl)) (Gs 1 rfl ?_)
 by_cases hfew : (f.vars.length : Int) ≤ 10 ∧ (f.hatches.length : Int) ≤ 10 ∧ ((sbulk f.body + hnodes f.hatches : Nat) : Int) ≤ 80
 ·
  have h1 := sbulk_snodes f.body
  have hsz : snodes f.body + hnodes f.hatches ≤ 1024 := by omega
  have hbk : sbulk f.body ≤ 1000000 := by omega
  refine G.sp 21 rfl (fun q1 => ?_) (fun q1 => ?_)
  · exact absurd hfew q1
  ·
   refine G.ldK rfl Tryz.isAgg26 Tryz.sizeOf26 hB_bx.cells rfl (G.call rfl Tryz.call17 (refCheck_ok f _ _ _ D _ hf hsz hbk) ?_)
   rintro _ wz2 ⟨rfl, hz2⟩
   obtain ⟨hE, hf, hB_bx⟩ := Tr3 hz2 hE hf hB_bx
   refine Gs 4 rfl (G.ite rfl (fun c0 => ?_) (fun c0 => ?_))
   · refine Gs 7 rfl (G.ret1 Tryz.results26 rfl ⟨_, rfl, ⟨_, rfl, fun h => by cases h⟩, hE⟩)
   ·
    have c0' : checkN f = 0 := by omega
    have hst := (check_parts c0').2.2.2.1
    refine Gs 5 rfl (G.ld rfl Tryz.isAgg22 (hB_bx.cells 0 _ rfl) (G.call rfl Tryz.call72 (refSpace13_ok f.vars 1 _ D _ hf.vars (by omega)) ?_))
    rintro _ wz3 ⟨⟨sa, sb, rfl⟩, hz3⟩
    obtain ⟨hE, hf, hB_bx⟩ := Tr3 hz3 hE hf hB_bx
    refine Gs 10 rfl (G.ld rfl Tryz.isAgg22 (hB_bx.cells 0 _ rfl) (G.call rfl Tryz.call72 (refSpace13_ok f.vars 2 _ D _ hf.vars (by omega)) ?_))
    rintro _ wz4 ⟨⟨ta, tb, rfl⟩, hz4⟩
    obtain ⟨hE, hf, hB_bx⟩ := Tr3 hz4 hE hf hB_bx
    refine Gs 10 rfl (G.ld rfl Tryz.isAgg22 (hB_bx.cells 0 _ rfl) (G.call rfl Tryz.call72 (refSpace13_ok f.vars 3 _ D _ hf.vars (by omega)) ?_))
    rintro _ wz5 ⟨⟨ua, ub, rfl⟩, hz5⟩
    obtain ⟨hE, hf, hB_bx⟩ := Tr3 hz5 hE hf hB_bx
    refine Gs 10 rfl (G.ld rfl Tryz.isAgg24 (hB_bx.cells 2 _ rfl) (G.call rfl Tryz.call67 (refBounds_ok f.vars f.hatches.length f.body _ D _ true hst hf.body hbk) ?_))
    rintro _ wz6 ⟨rfl, hz6⟩
    obtain ⟨hE, hf, hB_bx⟩ := Tr3 hz6 hE hf hB_bx
    refine Gs 15 rfl (G.sp 54 rfl (fun g1 => ?_) (fun g1 => ?_))
    ·
     refine Gs 5 rfl (G.sp 59 rfl (fun g2 => ?_) (fun g2 => ?_))
     ·
      refine Gs 5 rfl (G.sp 64 rfl (fun g3 => ?_) (fun g3 => ?_))
      · refine Gs 7 rfl (G.ret1 Tryz.results26 rfl ⟨_, rfl, ⟨_, rfl, fun _ => ⟨hfew, c0'⟩⟩, hE⟩)
      · refine Gs 7 rfl (G.ret1 Tryz.results26 rfl ⟨_, rfl, ⟨_, rfl, fun _ => ⟨hfew, c0'⟩⟩, hE⟩)
     · refine Gs 12 rfl (G.ret1 Tryz.results26 rfl ⟨_, rfl, ⟨_, rfl, fun _ => ⟨hfew, c0'⟩⟩, hE⟩)
    · refine Gs 17 rfl (G.ret1 Tryz.results26 rfl ⟨_, rfl, ⟨_, rfl, fun _ => ⟨hfew, c0'⟩⟩, hE⟩)
 ·
  refine G.sp 21 rfl (fun q1 => ?_) (fun q1 => ?_)
  · refine Gs 14 rfl (G.ret1 Tryz.results26 rfl ⟨_, rfl, ⟨_, rfl, fun h => by cases h⟩, hE⟩)
  · exact absurd (Decidable.not_not.1 q1) hfew
theorem eqInts_ok (a b : List Int) (va vb : Value) (Da Db : Nat → Prop) (w : World) (ha : SlR 1 RInt Da w va a) (hb : SlR 1 RInt Db w vb b) :
  Calls Tryz.prog 79 #[va, vb] w (Ret fun r w' => r = .bool (decide (a = b)) ∧ Ext w w') := by
 obtain ⟨aa, ca, rfl⟩ := ha.form
 obtain ⟨ab, cb, rfl⟩ := hb.form
 have hmx := ha.max
 refine G.in2 Tryz.func79 rfl Tryz.ntmps79 rfl (V.inn ?_)
 refine Vs 15 rfl ?_
 refine V.ite rfl (fun hl => ?_) (fun hl => ?_)
 ·
  refine Vs 7 rfl ?_
  refine V.ret1 Tryz.results79 rfl (fun w hI => ⟨_, rfl, by rw [decide_eq_false (fun h => by rw [h] at hl; omega)], hI.k0⟩)
 ·
  refine Vs 9 rfl ?_
  refine V.loopK (σ := Nat) [0, 1] [] [] rfl (fun e i => (5, .int .i64 i) :: e) (fun e i => e) (fun i => i ≤ a.length ∧ a.take i = b.take i) (fun i => a.length - i) (0) (Sub.of rfl) (Has.of rfl) (fun _ => rfl) (fun _ => rfl) (fun _ => rfl) (⟨Nat.zero_le _, by simp⟩) ?_
  rintro i ⟨hi, hall⟩
  refine Vs 9 rfl ?_
  refine V.ite rfl (fun hlt => ?_) (fun hlt => ?_)
  ·
   refine Vs 5 rfl ?_
   refine Vq (by kernel_rfl) ?_
   refine Vs 2 rfl ?_
   obtain ⟨x, he_x⟩ : ∃ z_, a[i]? = some z_ := ⟨_, List.getElem?_eq_getElem (by omega)⟩
   have hm_x := List.mem_of_getElem? he_x
   obtain ⟨b_x, o_x, c_x, ha_x, _, hc_x, hR_x⟩ := ha.at he_x
   obtain rfl := hR_x
   refine V.fr 1000 0 rfl rfl hc_x ?_
   refine V.ixQ 1000 Tryz.runUnderlying50 Tryz.sizeOf3 rfl ha_x (by omega) (_) (rfl) rfl ?_
   refine Vs 3 rfl ?_
   obtain ⟨y, he_y⟩ : ∃ z_, b[i]? = some z_ := ⟨_, List.getElem?_eq_getElem (by omega)⟩
   have hm_y := List.mem_of_getElem? he_y
   obtain ⟨b_y, o_y, c_y, ha_y, _, hc_y, hR_y⟩ := hb.at he_y
   obtain rfl := hR_y
   refine V.fr 2000 0 rfl rfl hc_y ?_
   refine V.ixQ 2000 Tryz.runUnderlying50 Tryz.sizeOf3 rfl ha_y (by omega) (_) (rfl) rfl ?_
   refine Vs 4 rfl ?_
   refine V.ite rfl (fun hne => ?_) (fun hne => ?_)
   ·
    refine Vs 11 rfl ?_
    refine V.ret1 Tryz.results79 rfl (fun w hI => ⟨_, rfl, by rw [decide_eq_false (fun h => by rw [h, he_y] at he_x; cases he_x; omega)], hI.k0⟩)
   ·
    obtain rfl : x = y := by omega
    refine Va 8 rfl (by omega) ?_
    refine V.back (i + 1) (Sub.of rfl) (Has.of rfl) (⟨by omega, by rw [take_get he_x, take_get he_y, hall]⟩) (by first | omega | (dsimp only; omega)) 0 rfl rfl
  ·
   refine Vs 11 rfl ?_
   refine V.ret1 Tryz.results79 rfl (fun w hI => ⟨_, rfl, by rw [decide_eq_true (by rw [List.take_of_length_le (by omega), List.take_of_length_le (by omega)] at hall; exact hall)], hI.k0⟩)
theorem same_ok (a b : List Int) (t u : Int) (va vb : Value) (Da Db : Nat → Prop) (w : World) (ha : SlR 1 RInt Da w va a) (hb : SlR 1 RInt Db w vb b) :
  Calls Tryz.prog 33 #[.agg #[va, .int .i64 t], .agg #[vb, .int .i64 u]] w (Ret fun r w' => r = .bool (decide (t = u ∧ a = b)) ∧ Ext w w') := by
 refine G.in2 Tryz.func33 rfl Tryz.ntmps33 rfl (V.inn ?_)
 refine Vs 2 rfl ?_
 refine V.box 2 rfl rfl (fun b2 => ?_)
 refine V.box 3 rfl rfl (fun b3 => ?_)
 refine Vs 11 rfl ?_
 refine V.sp 10 rfl (fun e => ?_) (fun e => ?_)
 ·
  refine Vs 4 rfl ?_
  refine V.call1 Tryz.call79 rfl (fun w hI => eqInts_ok a b va vb Da Db w (Tr1 hI.k0 ha) (Tr1 hI.k0 hb)) ?_
  refine Vs 5 rfl ?_
  refine V.ret1 Tryz.results33 rfl (fun w hI => ⟨_, rfl, by simp [e], hI.k0⟩)
 ·
  refine Vs 10 rfl ?_
  refine V.ret1 Tryz.results33 rfl (fun w hI => ⟨_, rfl, by rw [decide_eq_false (fun h => e h.1)], hI.k0⟩)
theorem lawRuns_ok (f : Fl) (g : List Nd) (r : Ins) (v1 v2 v3 gv s1 s2 s3 : Value) (D Dg : Nat → Prop) (W : World) (hf : RFl D W f v1 v2 v3) (hg : SlR 4 RNd Dg W gv g) (hi1 : SlR 1 RInt D W s1 r.secret) (hi2 : SlR 1 RInt D W s2 r.pub) (hi3 : SlR 1 RInt D W s3 r.random) :
  Calls Tryz.prog 7 #[.agg #[v1, v2, v3], .agg #[gv], .agg #[s1, s2, s3]] W (Ret fun r w' => r = .bool true ∧ Ext W w') := by
 obtain ⟨ag, cg, rfl⟩ := hg.form
 refine G.in3 Tryz.func7 rfl Tryz.ntmps7 rfl (V.inn ?_)
 refine Vs 2 rfl ?_
 refine V.box 3 rfl rfl (fun b3 => ?_)
 refine V.box 4 rfl rfl (fun b4 => ?_)
 refine V.box 5 rfl rfl (fun b5 => ?_)
 refine Vs 6 rfl ?_
 refine V.call1 Tryz.call14 rfl (fun w hI => known_ok w) ?_
 refine V.ops1 rfl (fun w hI => R.notU rfl (by first | exact not_decide_eq | rfl)) ?_
 refine Vs 2 rfl ?_
 refine V.bool rfl (fun k0 => ?_) (fun k0 => ?_)
 · cases k0
 ·
  refine Vs 3 rfl ?_
  refine V.cutK (σ := Unit) [3, 4, 5] [3, 4, 5] [3, 4, 5] rfl (fun e u => e) (fun e u => e) (fun u => snodes f.body + hnodes f.hatches ≤ 1024 ∧ sbulk f.body ≤ 1000000) (fun _ => rfl) (fun _ => rfl) ?_ ?_
  ·
   refine Vs 3 rfl ?_
   refine V.call1 Tryz.call15 rfl (fun w hI => few17_ok f 70 300 v1 v2 v3 D w (Tr1 hI.k0 hf) (by decide) (by decide)) ?_
   refine V.ops1 rfl (fun w hI => R.notU rfl (by first | exact not_decide_eq | rfl)) ?_
   refine Vs 1 rfl ?_
   refine V.sp 19 rfl (fun q1 => ?_) (fun q1 => ?_)
   ·
    refine Vs 26 rfl ?_
    refine V.ret1 Tryz.results7 rfl (fun w hI => ⟨_, rfl, rfl, hI.k0⟩)
   ·
    obtain ⟨hsz, hbk, _⟩ := few_size (Decidable.not_not.1 q1)
    refine Vs 6 rfl ?_
    refine V.sp 25 rfl (fun q2 => ?_) (fun q2 => ?_)
    ·
     refine Vs 20 rfl ?_
     refine V.ret1 Tryz.results7 rfl (fun w hI => ⟨_, rfl, rfl, hI.k0⟩)
    ·
     refine Vs 1 rfl ?_
     refine V.call1 Tryz.call17 rfl (fun w hI => refCheck_ok f v1 v2 v3 D w (Tr1 hI.k0 hf) hsz hbk) ?_
     refine Vs 2 rfl ?_
     refine V.sp 29 rfl (fun c0 => ?_) (fun c0 => ?_)
     ·
      refine Vs 1 rfl ?_
      refine V.call2 Tryz.call26 rfl (fun w hI => fit_ok f 4096 4096 256 v1 v2 v3 D w (Tr1 hI.k0 hf)) ?_
      rintro rr w1 w2 hI1 hk12 ⟨q, rfl, hq⟩ hlow
      refine V.ops1 rfl (fun w hI => R.notU rfl (by first | exact not_decide_eq | rfl)) ?_
      refine Vs 4 rfl ?_
      refine V.bool rfl (fun q3 => ?_) (fun q3 => ?_)
      ·
       refine Vs 8 rfl ?_
       refine V.ret1 Tryz.results7 rfl (fun w hI => ⟨_, rfl, rfl, hI.k1⟩)
      ·
       refine Vs 1 rfl ?_
       refine V.meet (()) (Sub.of rfl) (Has.of rfl) (⟨hsz, hbk⟩) 1 rfl rfl
     ·
      refine Vs 9 rfl ?_
      refine V.meet (()) (Sub.of rfl) (Has.of rfl) (⟨hsz, hbk⟩) 0 rfl rfl
  rintro u ⟨hsz, hbk⟩
  refine Vs 5 rfl ?_
  refine V.call2 Tryz.call31 rfl (fun w hI => refRun_ok f r v1 v2 v3 s1 s2 s3 D D D D w (Tr1 hI.k0 hf) (Tr1 hI.k0 hi1) (Tr1 hI.k0 hi2) (Tr1 hI.k0 hi3) hsz hbk) ?_
  rintro rr w1 w2 hI1 hk12 ⟨ov, t, rfl, ho1, ho2⟩ hlow
  obtain ⟨wl, wt, a7, c7, rfl, rfl, hov, hwl, hwl0⟩ : ∃ wl wt a7 c7, ov = .slice a7 (List.length wl) c7 ∧ t = wt ∧ SlI (fun b => w1.heap.size ≤ b) w2 a7 c7 wl ∧ (playCode f r = 0 → wl = (finOf f r).outs ∧ wt = (finOf f r).time) ∧ (playCode f r ≠ 0 → wl = [] ∧ wt = 0) := by
   by_cases h : playCode f r = 0
   ·
    obtain ⟨h1, h2⟩ := ho2 h
    obtain ⟨a, c, rfl⟩ := h2.form
    exact ⟨_, _, _, _, rfl, rfl, h2, fun _ => ⟨rfl, h1⟩, fun h' => absurd h h'⟩
   ·
    obtain ⟨rfl, rfl⟩ := ho1 h
    exact ⟨[], _, _, _, rfl, rfl, SlR.nil, fun h' => absurd h' h, fun _ => ⟨rfl, rfl⟩⟩
  refine V.dat 900 0 rfl rfl rfl (hov) (fun b hb _ hs => by have := hlow b hs; omega) ?_
  refine Vs 3 rfl ?_
  refine V.alloc 7 Tryz.zeroValue64 rfl rfl (fun b7 => ?_)
  refine Vs 9 rfl ?_
  refine V.call1 Tryz.call21 rfl (fun w hI => checked_ok f g v1 v2 v3 _ D Dg w (Tr1 hI.k1 hf) (Tr1 hI.k1 hg) hsz hbk) ?_
  refine Vs 3 rfl ?_
  refine V.cutK (σ := List Int × Int × Option Addr × Nat × (Nat → Prop)) [3, 4, 5, 7] [3, 4, 5] [3, 4, 5, 7] rfl (fun e ⟨xl, xt, xa, xc, F⟩ => (8, .int .i64 (walkCode f g r)) :: e) (fun e ⟨xl, xt, xa, xc, F⟩ => (7, .own b7 [.slice xa xl.length xc, .int .i64 xt] 64) :: (900, .dat F (fun w => SlI F w xa xc xl)) :: e) (fun ⟨xl, xt, xa, xc, F⟩ => (walkCode f g r = 0 → xl = (finOf f r).outs ∧ xt = (finOf f r).time) ∧ (walkCode f g r ≠ 0 → xl = [] ∧ xt = 0)) (fun _ => rfl) (fun _ => rfl) ?_ ?_
  ·
   refine Vs 6 rfl ?_
   refine V.ite rfl (fun d0 => ?_) (fun d0 => ?_)
   ·
    have hw : walkCode f g r = gcheckN f g := if_pos d0
    refine Vs 1 rfl ?_
    refine V.bld [Value.slice none 0 0, Value.int IntKind.i64 0] [(0, 1), (1, 1)] [] rfl rfl (fun _ => by kernel_rfl) ?_
    refine Vs 4 rfl ?_
    refine V.heq 900 rfl (e' := .dat (fun b => w1.heap.size ≤ b ∧ b < w2.heap.size) (fun w => SlI (fun b => w1.heap.size ≤ b ∧ b < w2.heap.size) w a7 c7 wl)) (rfl) ?_
    refine V.del 900 rfl ?_
    refine V.dat 900 0 rfl rfl rfl ((SlR.nil : SlI (fun _ => False) w2 none 0 [])) (fun _ h => h.elim) ?_
    refine V.meet (⟨[], 0, none, 0, _⟩) (Sub.cons (by rw [hw]; rfl) (Sub.of rfl)) (Has.of rfl) (⟨fun h => absurd (hw ▸ h) d0, fun _ => ⟨rfl, rfl⟩⟩) 0 rfl rfl
   ·
    have hg0 : gcheckN f g = 0 := by omega
    have hw : walkCode f g r = startCode f.vars r := if_neg d0
    have hc0 : checkN f = 0 := by
     unfold gcheckN at hg0
     split at hg0
     · contradiction
     · rename_i h; exact Decidable.not_not.1 h
    have hp : playCode f r = walkCode f g r := by rw [hw]; exact if_neg (by rw [hc0]; decide)
    rw [hp] at hwl hwl0
    refine Vs 1 rfl ?_
    refine V.meet (⟨wl, t, a7, c7, _⟩) (Sub.cons (by rw [hp]; rfl) (Sub.of rfl)) (Has.of rfl) (⟨hwl, hwl0⟩) 0 rfl rfl
  rintro ⟨xl, xt, xa, xc, F⟩ ⟨hx1, hx2⟩
  show V _ _ _ _ _ ((8, .int .i64 (walkCode f g r)) :: _) _ ((7, .own b7 [.slice xa xl.length xc, .int .i64 xt] 64) :: (900, .dat F (fun w => SlI F w xa xc xl)) :: _) _
  refine Vs 6 rfl ?_
  refine V.call2 Tryz.call32 rfl (fun w hI => cfgRun_ok f g r v1 v2 v3 _ s1 s2 s3 D Dg w (Tr1 hI.k1 hf) (Tr1 hI.k1 hg) (Tr1 hI.k1 hi1) (Tr1 hI.k1 hi2) (Tr1 hI.k1 hi3) hsz hbk) ?_
  rintro rr w3 w4 hI3 hk34 ⟨ov2, t2, rfl, g1, g2⟩ hlow2
  obtain ⟨yl, a9, c9, rfl, hov2, hyl⟩ : ∃ yl a9 c9, ov2 = .slice a9 (List.length yl) c9 ∧ SlI (fun b => w3.heap.size ≤ b) w4 a9 c9 yl ∧ yl = xl ∧ t2 = xt := by
   by_cases h : walkCode f g r = 0
   ·
    obtain ⟨h1, h2⟩ := g2 h
    obtain ⟨a, c, rfl⟩ := h1.form
    obtain ⟨e1, e2⟩ := hx1 h
    exact ⟨_, _, _, rfl, h1, e1.symm, by rw [h2, e2]⟩
   ·
    obtain ⟨rfl, rfl⟩ := g1 h
    obtain ⟨e1, e2⟩ := hx2 h
    exact ⟨[], _, _, rfl, SlR.nil, e1.symm, e2.symm⟩
  obtain ⟨rfl, rfl⟩ := hyl
  refine V.dat 901 0 rfl rfl rfl (hov2) (fun b hb _ hs => by have := hlow2 b hs; omega) ?_
  refine Vs 3 rfl ?_
  refine V.alloc 10 Tryz.zeroValue64 rfl rfl (fun b10 => ?_)
  refine Vs 9 rfl ?_
  refine V.call2 Tryz.call27 rfl (fun w hI => cfgWalk_ok f g r v1 v2 v3 _ s1 s2 s3 D Dg w (Tr1 hI.k2 hf) (Tr1 hI.k2 hg) (Tr1 hI.k2 hi1) (Tr1 hI.k2 hi2) (Tr1 hI.k2 hi3) hsz hbk) ?_
  rintro rr w5 w6 hI5 hk56 ⟨pv, rfl, p1, p2⟩ hlow3
  refine Vs 13 rfl ?_
  refine V.sp 65 rfl (fun e1 => ?_) (fun e1 => ?_)
  ·
   refine Vs 5 rfl ?_
   refine V.sp 70 rfl (fun e2 => ?_) (fun e2 => ?_)
   ·
    refine Vs 2 rfl ?_
    refine V.call1 Tryz.call33 rfl (fun w hI => same_ok yl yl t2 t2 _ _ _ _ w (hI.at 901 rfl).1 (hI.at 900 rfl).1) ?_
    have hT : decide (t2 = t2 ∧ yl = yl) = true := by simp
    rw [hT]
    refine Vs 2 rfl ?_
    refine V.sb 75 rfl (fun e3 => ?_) (fun e3 => ?_)
    ·
     refine Vs 3 rfl ?_
     refine V.sp 78 rfl (fun e4 => ?_) (fun e4 => ?_)
     ·
      refine Vs 9 rfl ?_
      refine V.ret1 Tryz.results7 rfl (fun w hI => ⟨_, rfl, rfl, hI.k3⟩)
     ·
      obtain rfl := p1 e4
      refine Vs 9 rfl ?_
      refine V.ret1 Tryz.results7 rfl (fun w hI => ⟨_, rfl, rfl, hI.k3⟩)
    · cases e3
   · exact absurd rfl e2
  · exact absurd rfl e1
end Go.Proofs.YtldhllpogdikdaaGreat
