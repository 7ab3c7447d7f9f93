/-
  dominance: Tree, Frontier, backwards, Post. Contracts; nothing here is a claim.
-/
import Derived.Test.YteilalejfphkgaaT11
namespace Go.Proofs.Yteilalejfphkgaa
open Go.GL Go.GL.Dom Go.GL.Dfs

/-- What a finished search knows of the graph. -/
structure Known (n root : Nat) (es : List (Int × Int)) (Rw : List (List Int)) (order : List Nat) (pl T : List Int) : Prop where
  hn : n ≤ 4096
  hroot : root < n
  rows : Dfs.Rows Rw
  succ : Succs n es Rw
  ord : Dfs.Order Rw root order
  place : Dfs.Place n order pl
  sol : Solved Rw root n pl T
theorem Prep.known {B n root : Nat} {es : List (Int × Int)} {bw : Nat} {Rw Pw : List (List Int)} {order : List Nat} {pl T : List Int} {nv bv ov : Value} {bp bt : Nat} {w : World} (h : Prep B w n root es bw Rw Pw order pl T nv bv ov bp bt) : Known n root es Rw order pl T := ⟨h.hn, h.hroot, h.rows, h.succ, h.ord, h.place, h.sol⟩

theorem code_zero {n root : Int} {es : List (Int × Int)} (h : codeOf n es root = 0) : Gr.check n es = 0 ∧ 0 ≤ root ∧ root < n := by
  unfold codeOf at h
  split at h
  · rename_i h1; exact absurd h h1
  · rename_i h1
    split at h
    · exact absurd h (by decide)
    · exact ⟨by simpa using h1, by omega, by omega⟩

theorem tree_ok (n root : Int) (es : List (Int × Int)) (ev : Value) (D : Nat → Prop) (w : World) (hes : SlR 2 RPair D w ev es) : Calls Try.prog 12 #[.agg #[.int .i64 n, ev], .int .i64 root] w (Ret fun v w' => ∃ u, v = .tuple #[u, .int .i64 (codeOf n es root)] ∧ (codeOf n es root ≠ 0 → u = .slice none 0 0) ∧ (codeOf n es root = 0 → ∃ Rw order pl T, Known n.toNat root.toNat es Rw order pl T ∧ SlR 1 RInt (fun b => w.heap.size ≤ b) w' u T) ∧ Ext w w') := by
  have hes' := hes
  obtain ⟨ao, cap, rfl, _⟩ := hes'
  refine calls Try.func12 rfl [(0, .agg #[.int .i64 n, .slice ao es.length cap]), (1, .int .i64 root)] 21 ⟨Nat.le_of_ble_eq_true rfl, Try.ntmps12⟩ (argsOk (Sub.cons rfl (Sub.cons rfl Sub.nil))) ?_
  refine WC.seq (WC.region ?_)
  refine WO.mem rfl rfl rfl (M.box rfl rfl) ?_
  rintro _ w1 ⟨b, rfl, hb, hs1, hB1, hk1⟩
  refine WO.op rfl rfl rfl (R.assign rfl) ?_
  refine WO.op rfl rfl rfl (R.assign rfl) ?_
  refine WO.nil (WX.next (WC.seq (WC.region ?_)))
  refine WO.op rfl rfl rfl (R.loadK Try.isAgg24 Try.sizeOf24 rfl (by rfl) hB1.cells) ?_
  refine WO.op rfl rfl rfl (R.move rfl) ?_
  refine WO.call rfl rfl rfl (F.call (vs := [_, _]) Try.call28 rfl) (prepare_ok n root es _ D w1 (hes.ext stable_pair hk1)) ?_
  rintro _ w2 ⟨u, rfl, hu0, hu1, hk2⟩
  have hE2 := hk1.ext hk2
  refine WO.op rfl rfl rfl (R.move rfl) ?_
  refine WO.op rfl rfl rfl (R.extract rfl rfl) ?_
  refine WO.op rfl rfl rfl (R.extract rfl rfl) ?_
  refine WO.op rfl rfl rfl (R.assign rfl) ?_
  refine WO.op rfl rfl rfl (R.assign rfl) ?_
  refine WO.nil (WX.next (WC.seq (WC.seq (WC.region ?_))))
  refine WO.op rfl rfl rfl (R.move rfl) ?_
  refine WO.op rfl rfl rfl (R.neq rfl rfl) ?_
  refine WO.nil (WX.next ?_)
  refine WC.ite rfl (fun hc => ?_) (fun hc => ?_)
  ·
    refine WC.seq (WC.region ?_)
    refine WO.op rfl rfl rfl (R.move rfl) ?_
    refine WO.op rfl rfl rfl (R.assign rfl) ?_
    refine WO.op rfl rfl rfl (R.assign rfl) ?_
    refine WO.nil (WX.next (WC.ret (WX.thenR ?_)))
    refine WX.ret2 Try.results12 rfl rfl ⟨_, rfl, .slice none 0 0, rfl, fun _ => rfl, fun h => absurd h hc, hE2⟩
  · have hc0 : codeOf n es root = 0 := by simpa using hc
    obtain ⟨bw, Rw, Pw, order, pl, T, nv, bv, ov, bp, bt, rfl, hp⟩ := hu1 hc0
    have hTl := hp.sol.len
    have hge := hp.ge
    have hnn := hp.hn
    refine WC.skip (WX.next (WC.seq (WC.region ?_)))
    refine WO.op rfl rfl rfl (R.move rfl) ?_
    refine WO.op rfl rfl rfl (R.nilCheck rfl) ?_
    refine WO.op rfl rfl rfl (R.fieldAddr Try.runUnderlying58 rfl Try.sizeOf27 rfl) ?_
    refine WO.op rfl rfl rfl (R.load Try.isAgg27 rfl (hp.hw.cells 4 _ rfl)) ?_
    refine WO.op rfl rfl rfl (R.assign rfl) ?_
    refine WO.op rfl rfl rfl (R.assign rfl) ?_
    refine WO.nil (WX.next (WC.ret ?_))
    rw [hc0]
    refine WX.ret2 Try.results12 rfl rfl ⟨_, rfl, .slice (some ⟨bt, 0, none⟩) n.toNat n.toNat, rfl, fun h => absurd rfl h, fun _ => ⟨Rw, order, pl, T, hp.known, ?_⟩, hE2⟩
    have h1 := SlR.ofBlk1 (R := RInt) (D := fun b => w.heap.size ≤ b) (n := n.toNat) (cap := n.toNat) (l := T) (.int .i64) (fun _ _ => rfl) hp.hT (by have := hk1.size; omega) (by rw [List.take_of_length_le (by simp; omega)]) hTl.symm (by omega) (by omega)
    exact h1

theorem frontier_ok (n root : Int) (es : List (Int × Int)) (ev : Value) (D : Nat → Prop) (w : World) (hes : SlR 2 RPair D w ev es) (hsm : n ≤ 1000) : Calls Try.prog 16 #[.agg #[.int .i64 n, ev], .int .i64 root] w (Ret fun v w' => ∃ u, v = .tuple #[u, .int .i64 (codeOf n es root)] ∧ (codeOf n es root ≠ 0 → u = .slice none 0 0) ∧ (codeOf n es root = 0 → ∃ Rw order pl T F, Known n.toNat root.toNat es Rw order pl T ∧ FrontRows Rw root.toNat n.toNat F ∧ SlR 1 (RSl 1 RInt) (fun b => w.heap.size ≤ b) w' u F) ∧ Ext w w') := by
  have hes' := hes
  obtain ⟨ao, cap, rfl, _⟩ := hes'
  refine calls Try.func16 rfl [(0, .agg #[.int .i64 n, .slice ao es.length cap]), (1, .int .i64 root)] 19 ⟨Nat.le_of_ble_eq_true rfl, Try.ntmps16⟩ (argsOk (Sub.cons rfl (Sub.cons rfl Sub.nil))) ?_
  refine WC.seq (WC.region ?_)
  refine WO.mem rfl rfl rfl (M.box rfl rfl) ?_
  rintro _ w1 ⟨b, rfl, hb, hs1, hB1, hk1⟩
  refine WO.op rfl rfl rfl (R.assign rfl) ?_
  refine WO.op rfl rfl rfl (R.assign rfl) ?_
  refine WO.nil (WX.next (WC.seq (WC.region ?_)))
  refine WO.op rfl rfl rfl (R.loadK Try.isAgg24 Try.sizeOf24 rfl (by rfl) hB1.cells) ?_
  refine WO.op rfl rfl rfl (R.move rfl) ?_
  refine WO.call rfl rfl rfl (F.call (vs := [_, _]) Try.call28 rfl) (prepare_ok n root es _ D w1 (hes.ext stable_pair hk1)) ?_
  rintro _ w2 ⟨u, rfl, hu0, hu1, hk2⟩
  have hE2 := hk1.ext hk2
  refine WO.op rfl rfl rfl (R.move rfl) ?_
  refine WO.op rfl rfl rfl (R.extract rfl rfl) ?_
  refine WO.op rfl rfl rfl (R.extract rfl rfl) ?_
  refine WO.op rfl rfl rfl (R.assign rfl) ?_
  refine WO.op rfl rfl rfl (R.assign rfl) ?_
  refine WO.nil (WX.next (WC.seq (WC.seq (WC.region ?_))))
  refine WO.op rfl rfl rfl (R.move rfl) ?_
  refine WO.op rfl rfl rfl (R.neq rfl rfl) ?_
  refine WO.nil (WX.next ?_)
  refine WC.ite rfl (fun hc => ?_) (fun hc => ?_)
  ·
    refine WC.seq (WC.region ?_)
    refine WO.op rfl rfl rfl (R.move rfl) ?_
    refine WO.op rfl rfl rfl (R.assign rfl) ?_
    refine WO.op rfl rfl rfl (R.assign rfl) ?_
    refine WO.nil (WX.next (WC.ret (WX.thenR ?_)))
    refine WX.ret2 Try.results16 rfl rfl ⟨_, rfl, .slice none 0 0, rfl, fun _ => rfl, fun h => absurd h hc, hE2⟩
  · have hc0 : codeOf n es root = 0 := by simpa using hc
    obtain ⟨bw, Rw, Pw, order, pl, T, nv, bv, ov, bp, bt, rfl, hp⟩ := hu1 hc0
    refine WC.skip (WX.next (WC.seq (WC.region ?_)))
    refine WO.op rfl rfl rfl (R.move rfl) ?_
    refine WO.call rfl rfl rfl (F.call (vs := [_]) Try.call31 rfl) (frontiers_ok w2 hp (by omega)) ?_
    rintro u w3 ⟨F, hF, hu, hk3⟩
    refine WO.op rfl rfl rfl (R.assign rfl) ?_
    refine WO.op rfl rfl rfl (R.assign rfl) ?_
    refine WO.nil (WX.next (WC.ret ?_))
    rw [hc0]
    refine WX.ret2 Try.results16 rfl rfl ⟨_, rfl, u, rfl, fun h => absurd rfl h, fun _ => ⟨Rw, order, pl, T, F, hp.known, hF, hu.wide (stable_sl stable_int) (fun b h => by have := hE2.size; omega)⟩, hE2.ext hk3⟩

/-- The edges turned and sorted. -/
def Turned (es s : List (Int × Int)) : Prop := Simple (es.map fun e => (e.2, e.1)) s
theorem check_turned {n : Int} {es s : List (Int × Int)} (hc : Gr.check n es = 0) (hs : Turned es s) : Gr.check n s = 0 := by
  obtain ⟨h1, h2, h3, h4⟩ := Gr.check_zero hc
  obtain ⟨_, hm, hl⟩ := hs
  have hall : s.all (Gr.okE n) = true := by
    rw [List.all_eq_true]
    intro e he
    obtain ⟨x, hx, rfl⟩ := List.mem_map.1 ((hm e).1 he)
    have := List.all_eq_true.1 h4 x hx
    simp [Gr.okE] at this ⊢
    omega
  rw [List.length_map] at hl
  unfold Gr.check
  rw [if_neg (by omega), if_neg (by omega), hall]
  rfl

theorem backwards_ok (n root : Int) (es : List (Int × Int)) (ev : Value) (D : Nat → Prop) (w : World) (hes : SlR 2 RPair D w ev es) : Calls Try.prog 32 #[.agg #[.int .i64 n, ev], .int .i64 root] w (Ret fun v w' => ∃ u, v = .tuple #[u, .int .i64 (codeOf n es root)] ∧ (codeOf n es root ≠ 0 → u = .pointer none) ∧ (codeOf n es root = 0 → ∃ s bw Rw Pw order pl T nv bv ov bp bt, Turned es s ∧ u = .pointer (some ⟨bw, 0, none⟩) ∧ Prep w.heap.size w' n.toNat root.toNat s bw Rw Pw order pl T nv bv ov bp bt) ∧ Ext w w') := by
  have hes' := hes
  obtain ⟨ao, cap, rfl, _⟩ := hes'
  refine calls Try.func32 rfl [(0, .agg #[.int .i64 n, .slice ao es.length cap]), (1, .int .i64 root)] 21 ⟨Nat.le_of_ble_eq_true rfl, Try.ntmps32⟩ (argsOk (Sub.cons rfl (Sub.cons rfl Sub.nil))) ?_
  refine WC.seq (WC.region ?_)
  refine WO.mem rfl rfl rfl (M.box rfl rfl) ?_
  rintro _ w1 ⟨b, rfl, hb, hs1, hB1, hk1⟩
  refine WO.op rfl rfl rfl (R.assign rfl) ?_
  refine WO.op rfl rfl rfl (R.assign rfl) ?_
  refine WO.nil (WX.next (WC.seq (WC.region ?_)))
  refine WO.op rfl rfl rfl (R.loadK Try.isAgg24 Try.sizeOf24 rfl (by rfl) hB1.cells) ?_
  refine WO.call rfl rfl rfl (F.call (vs := [_]) Try.call49 rfl) (reverse_ok n es _ D w1 (hes.ext stable_pair hk1)) ?_
  rintro _ w2 ⟨u, rfl, hu0, hu1, hk2⟩
  have hE2 := hk1.ext hk2
  refine WO.op rfl rfl rfl (R.move rfl) ?_
  refine WO.op rfl rfl rfl (R.extract rfl rfl) ?_
  refine WO.op rfl rfl rfl (R.extract rfl rfl) ?_
  refine WO.mem rfl rfl rfl (M.alloc (cs := _) Try.zeroValue24 rfl) ?_
  rintro _ w3 ⟨b3, rfl, hb3, hs3, hB3, hk3⟩
  obtain ⟨n', a', l', c', rfl⟩ : ∃ n' a' l' c', u = .agg #[.int .i64 n', .slice a' l' c'] := by
    by_cases h : Gr.check n es = 0
    · obtain ⟨s, v, _, h2, h3⟩ := hu1 h
      obtain ⟨ao, cap, rfl, _⟩ := h3
      exact ⟨_, _, _, _, h2⟩
    · exact ⟨_, _, _, _, hu0 h⟩
  refine WO.mem0 rfl rfl (M.storeK Try.sizeOf24 rfl rfl rfl rfl (by simp [Value.oneCell']) hB3 (by simp)) ?_
  rintro w4 ⟨hs4, hB4, hk4⟩
  have hE4 : Ext w w4 := (hE2.ext hk3).trans hk4 (fun q hq h => by have h : q = b3 := h; have := hE2.size; omega)
  refine WO.op rfl rfl rfl (R.assign rfl) ?_
  refine WO.nil (WX.next (WC.seq (WC.seq (WC.region ?_))))
  refine WO.op rfl rfl rfl (R.move rfl) ?_
  refine WO.op rfl rfl rfl (R.neq rfl rfl) ?_
  refine WO.nil (WX.next ?_)
  refine WC.ite rfl (fun hc => ?_) (fun hc => ?_)
  · have hcode : codeOf n es root = Gr.check n es := by unfold codeOf; rw [if_pos hc]
    refine WC.seq (WC.region ?_)
    refine WO.op rfl rfl rfl (R.move rfl) ?_
    refine WO.op rfl rfl rfl (R.assign rfl) ?_
    refine WO.op rfl rfl rfl (R.assign rfl) ?_
    refine WO.nil (WX.next (WC.ret (WX.thenR ?_)))
    refine WX.ret2 Try.results32 rfl rfl ⟨_, rfl, .pointer none, by rw [hcode]; rfl, fun _ => rfl, fun h => absurd (hcode ▸ h) hc, hE4⟩
  · have hc0 : Gr.check n es = 0 := by simpa using hc
    obtain ⟨s, v, hs, hv, hsl⟩ := hu1 hc0
    have hcs := check_turned hc0 hs
    have hcode : codeOf n s root = codeOf n es root := by unfold codeOf; rw [hcs, hc0]
    have hn' : n' = n ∧ v = .slice a' l' c' := by
      simp at hv
      exact ⟨hv.1, hv.2.symm⟩
    obtain ⟨rfl, rfl⟩ := hn'
    have hsl4 := hsl.ext stable_pair ((hk3.ext (Keep.refl _ _)).trans hk4 (fun q hq h => by have h : q = b3 := h; omega))
    refine WC.skip (WX.next (WC.seq (WC.region ?_)))
    refine WO.op rfl rfl rfl (R.loadK Try.isAgg24 Try.sizeOf24 rfl (by rfl) hB4.cells) ?_
    refine WO.op rfl rfl rfl (R.move rfl) ?_
    refine WO.call rfl rfl rfl (F.call (vs := [_, _]) Try.call28 rfl) (prepare_ok n' root s _ _ w4 hsl4) ?_
    rintro _ w5 ⟨u, rfl, hp0, hp1, hk5⟩
    rw [hcode] at hp0 hp1 ⊢
    refine WO.op rfl rfl rfl (R.extract rfl rfl) ?_
    refine WO.op rfl rfl rfl (R.extract rfl rfl) ?_
    refine WO.op rfl rfl rfl (R.assign rfl) ?_
    refine WO.op rfl rfl rfl (R.assign rfl) ?_
    refine WO.nil (WX.next (WC.ret ?_))
    refine WX.ret2 Try.results32 rfl rfl ⟨_, rfl, u, rfl, hp0, fun h => ?_, hE4.ext hk5⟩
    obtain ⟨bw, Rw, Pw, order, pl, T, nv, bv, ov, bp, bt, hu, hp⟩ := hp1 h
    have hsz := hE4.size
    refine ⟨s, bw, Rw, Pw, order, pl, T, nv, bv, ov, bp, bt, hs, hu, hp.hn, hp.hroot, hp.rows, hp.succ, hp.back, hp.ord, hp.place, hp.sol, hp.hw, hp.hnv.wide (stable_sl stable_int) (fun b h => by omega), hp.hbv.wide (stable_sl stable_int) (fun b h => by omega), hp.hov, fun g hg => by have := hp.hog g hg; omega, hp.hP, hp.hT, by have := hp.ge; omega⟩

theorem post_ok (n root : Int) (es : List (Int × Int)) (ev : Value) (D : Nat → Prop) (w : World) (hes : SlR 2 RPair D w ev es) : Calls Try.prog 18 #[.agg #[.int .i64 n, ev], .int .i64 root] w (Ret fun v w' => ∃ u, v = .tuple #[u, .int .i64 (codeOf n es root)] ∧ (codeOf n es root ≠ 0 → u = .slice none 0 0) ∧ (codeOf n es root = 0 → ∃ s Rw order pl T, Turned es s ∧ Known n.toNat root.toNat s Rw order pl T ∧ SlR 1 RInt (fun b => w.heap.size ≤ b) w' u T) ∧ Ext w w') := by
  have hes' := hes
  obtain ⟨ao, cap, rfl, _⟩ := hes'
  refine calls Try.func18 rfl [(0, .agg #[.int .i64 n, .slice ao es.length cap]), (1, .int .i64 root)] 21 ⟨Nat.le_of_ble_eq_true rfl, Try.ntmps18⟩ (argsOk (Sub.cons rfl (Sub.cons rfl Sub.nil))) ?_
  refine WC.seq (WC.region ?_)
  refine WO.mem rfl rfl rfl (M.box rfl rfl) ?_
  rintro _ w1 ⟨b, rfl, hb, hs1, hB1, hk1⟩
  refine WO.op rfl rfl rfl (R.assign rfl) ?_
  refine WO.op rfl rfl rfl (R.assign rfl) ?_
  refine WO.nil (WX.next (WC.seq (WC.region ?_)))
  refine WO.op rfl rfl rfl (R.loadK Try.isAgg24 Try.sizeOf24 rfl (by rfl) hB1.cells) ?_
  refine WO.op rfl rfl rfl (R.move rfl) ?_
  refine WO.call rfl rfl rfl (F.call (vs := [_, _]) Try.call32 rfl) (backwards_ok n root es _ D w1 (hes.ext stable_pair hk1)) ?_
  rintro _ w2 ⟨u, rfl, hu0, hu1, hk2⟩
  have hE2 := hk1.ext hk2
  refine WO.op rfl rfl rfl (R.move rfl) ?_
  refine WO.op rfl rfl rfl (R.extract rfl rfl) ?_
  refine WO.op rfl rfl rfl (R.extract rfl rfl) ?_
  refine WO.op rfl rfl rfl (R.assign rfl) ?_
  refine WO.op rfl rfl rfl (R.assign rfl) ?_
  refine WO.nil (WX.next (WC.seq (WC.seq (WC.region ?_))))
  refine WO.op rfl rfl rfl (R.move rfl) ?_
  refine WO.op rfl rfl rfl (R.neq rfl rfl) ?_
  refine WO.nil (WX.next ?_)
  refine WC.ite rfl (fun hc => ?_) (fun hc => ?_)
  ·
    refine WC.seq (WC.region ?_)
    refine WO.op rfl rfl rfl (R.move rfl) ?_
    refine WO.op rfl rfl rfl (R.assign rfl) ?_
    refine WO.op rfl rfl rfl (R.assign rfl) ?_
    refine WO.nil (WX.next (WC.ret (WX.thenR ?_)))
    refine WX.ret2 Try.results18 rfl rfl ⟨_, rfl, .slice none 0 0, rfl, fun _ => rfl, fun h => absurd h hc, hE2⟩
  · have hc0 : codeOf n es root = 0 := by simpa using hc
    obtain ⟨s, bw, Rw, Pw, order, pl, T, nv, bv, ov, bp, bt, hs, rfl, hp⟩ := hu1 hc0
    have hTl := hp.sol.len
    have hge := hp.ge
    have hnn := hp.hn
    refine WC.skip (WX.next (WC.seq (WC.region ?_)))
    refine WO.op rfl rfl rfl (R.move rfl) ?_
    refine WO.op rfl rfl rfl (R.nilCheck rfl) ?_
    refine WO.op rfl rfl rfl (R.fieldAddr Try.runUnderlying58 rfl Try.sizeOf27 rfl) ?_
    refine WO.op rfl rfl rfl (R.load Try.isAgg27 rfl (hp.hw.cells 4 _ rfl)) ?_
    refine WO.op rfl rfl rfl (R.assign rfl) ?_
    refine WO.op rfl rfl rfl (R.assign rfl) ?_
    refine WO.nil (WX.next (WC.ret ?_))
    rw [hc0]
    refine WX.ret2 Try.results18 rfl rfl ⟨_, rfl, .slice (some ⟨bt, 0, none⟩) n.toNat n.toNat, rfl, fun h => absurd rfl h, fun _ => ⟨s, Rw, order, pl, T, hs, hp.known, ?_⟩, hE2⟩
    have h1 := SlR.ofBlk1 (R := RInt) (D := fun b => w.heap.size ≤ b) (n := n.toNat) (cap := n.toNat) (l := T) (.int .i64) (fun _ _ => rfl) hp.hT (by have := hk1.size; omega) (by rw [List.take_of_length_le (by simp; omega)]) hTl.symm (by omega) (by omega)
    exact h1
end Go.Proofs.Yteilalejfphkgaa
