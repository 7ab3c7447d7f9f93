/-
  slices.Clone and slices.Compact at [][2]int. Contracts; nothing here is a claim.
-/
import Derived.Test.YteilalejfphkgaaT2
import Derived.Test.YteilalejfphkgaaOps2
namespace Go.Proofs.Yteilalejfphkgaa
open Go.GL

theorem flatP_len (l : List (Int × Int)) : (l.flatMap encP).length = l.length * 2 := flat_len encP_len l

theorem cloneP_ok (es : List (Int × Int)) (v : Value) (D : Nat → Prop) (w : World) (hes : SlR 2 RPair D w v es) (hlen : es.length ≤ 1048576) : Calls Try.prog 82 #[v] w (Ret fun u w' => w'.ownsRow 0 49 2 u es.length (es.flatMap encP) ∧ (∀ g, u.ownBlock = some g → w.heap.size ≤ g) ∧ Ext w w') := by
  obtain ⟨ao, cap, rfl, hlc, hcm, hel⟩ := hes
  refine calls Try.func82 rfl [(0, .slice ao es.length cap)] 8 ⟨Nat.le_of_ble_eq_true rfl, Try.ntmps82⟩ (argsOk (Sub.cons rfl Sub.nil)) ?_
  refine WC.seq (WC.region ?_)
  refine WO.op rfl rfl rfl (R.assign rfl) ?_
  refine WO.nil (WX.next (WC.seq (WC.seq (WC.region ?_))))
  refine WO.op rfl rfl rfl (R.move rfl) ?_
  refine WO.op rfl rfl rfl (R.eqNil Try.underlying22 rfl) ?_
  refine WO.nil (WX.next ?_)
  refine WC.bool rfl (fun h => ?_) (fun h => ?_)
  ·
    refine WC.seq (WC.region ?_)
    refine WO.op rfl rfl rfl (R.assign rfl) ?_
    refine WO.nil (WX.next (WC.ret (WX.thenR ?_)))
    have : es = [] := by
      cases es with
      | nil => rfl
      | cons x r =>
        obtain ⟨b, o, cs, hao, _⟩ := hel 0 x rfl
        rw [hao] at h; cases h
    subst this
    refine WX.ret1 Try.results82 rfl ⟨_, rfl, own_nil _ _ _, by simp [Value.ownBlock], Keep.refl _ _⟩
  · obtain ⟨a0, rfl⟩ : ∃ a0, ao = some a0 := by cases ao with
      | none => cases h
      | some a0 => exact ⟨a0, rfl⟩
    refine WC.skip (WX.next (WC.seq (WC.region ?_)))
    refine WO.mem rfl rfl rfl (M.buildSlice0 Try.runUnderlying22 Try.sizeOf49) ?_
    rintro _ w1 ⟨b, rfl, hb, hs, hB, hk⟩
    refine WO.op rfl rfl rfl (R.move rfl) ?_
    have hown : w1.ownsRow 0 49 2 (.slice (some ⟨b, 0, none⟩) 0 0) 0 [] := own_blk hB (Nat.le_refl _) (by omega) rfl
    have hnews : ∀ q u, (es.flatMap encP)[q]? = some u → w1.cell? (a0.add q) = some u := by
      intro q u hq
      have hq2 : q < es.length * 2 := by rw [← flatP_len]; exact (List.getElem?_eq_some_iff.1 hq).1
      obtain ⟨x, hx⟩ : ∃ x, es[q / 2]? = some x := ⟨_, List.getElem?_eq_getElem (by omega)⟩
      obtain ⟨b', o', cs, hao, _, hcl, hcs, rfl⟩ := hel (q / 2) x hx
      cases hao
      have h1 : ∃ u', (encP x)[q % 2]? = some u' := ⟨_, List.getElem?_eq_getElem (by rw [encP_len]; omega)⟩
      obtain ⟨u', hu'⟩ := h1
      have h2 := flat_at encP_len hx [] (q % 2) u' hu'
      rw [List.append_nil, show q / 2 * 2 + q % 2 = q from by omega, hq] at h2
      cases h2
      have h3 := hcs (q % 2) u hu'
      rw [addr_add]
      rw [show o' + q / 2 * 2 + q % 2 = o' + q from by omega] at h3
      exact hk.cell h3 (fun h => h)
    refine WO.mem rfl rfl rfl (M.append Try.underlying22 Try.el49 rfl (by decide) rfl rfl hown (flatP_len es) hnews (by intro u hu; obtain ⟨x, _, hx⟩ := List.mem_flatMap.1 hu; exact encP_one x u hx) (by omega) (by omega)) ?_
    rintro u w2 ⟨hown2, hfr, hk2, _⟩
    refine WO.op rfl rfl rfl (R.assign rfl) ?_
    refine WO.nil (WX.next (WC.ret ?_))
    refine WX.ret1 Try.results82 rfl ⟨_, rfl, by simpa using hown2, ?_, hk.trans hk2 (fun q hq h => by simp [Value.ownBlock] at h; omega)⟩
    intro g hg
    rcases hfr with h' | ⟨g', h', h''⟩
    · rw [h'] at hg; simp [Value.ownBlock] at hg; omega
    · rw [h'] at hg; cases hg; have := hk.size; omega

theorem zeros2 (m : Nat) : Builtin.zeroCells (Value.agg #[.int .i64 0, .int .i64 0]).cells m = (List.replicate (m * 2) (.int .i64 0)).toArray := by
  apply Array.ext
  · simp [Builtin.zeroCells, Value.cells]
  · intro i h1 h2
    have : i % 2 = 0 ∨ i % 2 = 1 := by omega
    rcases this with h | h <;> simp [Builtin.zeroCells, Value.cells, h]

theorem compactP_ok (es : List (Int × Int)) (v : Value) (n : Nat) (w : World) (hown : w.ownsRow 0 49 2 v n (es.flatMap encP)) (hlen : es.length ≤ 1048576) : Calls Try.prog 84 #[v] w (Ret fun u w' => w'.ownsRow 0 49 2 u (Gr.compactL es).length ((Gr.compactL es).flatMap encP) ∧ u.ownBlock = v.ownBlock ∧ Keep (fun q => v.ownBlock = some q) w w') := by
  have hn : n = es.length := by
    have := hown.1
    rw [flatP_len] at this
    omega
  subst hn
  by_cases h0 : es = []
  · subst h0
    obtain ⟨l, c, hv⟩ : ∃ ao c, v = .slice ao 0 c := by
      rcases hown.2 with ⟨rfl, _⟩ | ⟨g, cap, cur, rfl, _⟩ <;> exact ⟨_, _, rfl⟩
    subst hv
    refine calls Try.func84 rfl [(0, .slice l 0 c)] 61 ⟨Nat.le_of_ble_eq_true rfl, Try.ntmps84⟩ (argsOk (Sub.cons rfl Sub.nil)) ?_
    refine WC.seq (WC.region ?_)
    refine WO.op rfl rfl rfl (R.assign rfl) ?_
    refine WO.nil (WX.next (WC.seq (WC.seq (WC.region ?_))))
    refine WO.op rfl rfl rfl (R.move rfl) ?_
    refine WO.op rfl rfl rfl (R.lenS rfl Try.runUnderlying22 rfl) ?_
    refine WO.op rfl rfl rfl (R.lss rfl rfl) ?_
    refine WO.nil (WX.next ?_)
    refine WC.tt rfl (rfl) ?_
    refine WC.seq (WC.region ?_)
    refine WO.op rfl rfl rfl (R.move rfl) ?_
    refine WO.op rfl rfl rfl (R.assign rfl) ?_
    refine WO.nil (WX.next (WC.ret (WX.thenR ?_)))
    refine WX.ret1 Try.results84 rfl ⟨_, rfl, hown, rfl, Keep.refl _ _⟩
  obtain ⟨g, cap, sp, rfl, _, hnc, hcm, hB, hcl⟩ := own_open encP_len (by omega) hown h0
  refine calls Try.func84 rfl [(0, .slice (some ⟨g, 0, none⟩) es.length cap)] 61 ⟨Nat.le_of_ble_eq_true rfl, Try.ntmps84⟩ (argsOk (Sub.cons rfl Sub.nil)) ?_
  refine WC.seq (WC.region ?_)
  refine WO.op rfl rfl rfl (R.assign rfl) ?_
  refine WO.nil (WX.next (WC.seq (WC.seq (WC.region ?_))))
  refine WO.op rfl rfl rfl (R.move rfl) ?_
  refine WO.op rfl rfl rfl (R.lenS rfl Try.runUnderlying22 rfl) ?_
  refine WO.op rfl rfl rfl (R.lss rfl rfl) ?_
  refine WO.nil (WX.next ?_)
  refine WC.ite rfl (fun h2 => ?_) (fun h2 => ?_)
  ·
    refine WC.seq (WC.region ?_)
    refine WO.op rfl rfl rfl (R.move rfl) ?_
    refine WO.op rfl rfl rfl (R.assign rfl) ?_
    refine WO.nil (WX.next (WC.ret (WX.thenR ?_)))
    have e1 : Gr.compactL es = es := by
      match es, h0, h2 with
      | [x], _, _ => rfl
      | x :: y :: r, _, h => simp at h; omega
    refine WX.ret1 Try.results84 rfl ⟨_, rfl, by rw [e1]; exact hown, rfl, Keep.refl _ _⟩
  ·
    refine WC.skip (WX.next (WC.seq (WC.seq (WC.region ?_))))
    refine WO.op rfl rfl rfl (R.assign rfl) ?_
    refine WO.nil (WX.next (WC.block ?_))
    have e1 : Gr.compactL (es.take 1) = es.take 1 := by
      match es, h0 with
      | x :: r, _ => rfl
    refine WC.loop (σ := Nat) (fun k => [(0, .slice (some ⟨g, 0, none⟩) es.length cap), (3, .int .i64 k)]) (fun k => fun w' => 1 ≤ k ∧ k ≤ es.length ∧ Gr.compactL (es.take k) = es.take k ∧ Ext w w') (fun k => es.length - k) (1) (Sub.cons rfl (Sub.cons rfl Sub.nil)) (⟨by omega, by omega, e1, Keep.refl _ _⟩) ?_
    rintro k w2 ⟨hk1, hkn, hck, hk2⟩
    show WC _ _ _ _ [(0, .slice (some ⟨g, 0, none⟩) es.length cap), (3, .int .i64 k)] _
    have hB2 := hk2.blk hB (fun h => h)
    refine WC.seq (WC.seq (WC.region ?_))
    refine WO.op rfl rfl rfl (R.move rfl) ?_
    refine WO.op rfl rfl rfl (R.move rfl) ?_
    refine WO.op rfl rfl rfl (R.lenS rfl Try.runUnderlying22 rfl) ?_
    refine WO.op rfl rfl rfl (R.lss rfl rfl) ?_
    refine WO.nil (WX.next ?_)
    refine WC.ite rfl (fun hlt => ?_) (fun hge => ?_)
    ·
      refine WC.skip (WX.next (WC.seq (WC.block (WC.seq ?_))))
      refine WC.quiet (by kernel_rfl) (by kernel_rfl) ?_
      refine WQ.op rfl rfl rfl (fun w1 hw1 => R.move rfl) ?_
      refine WQ.op rfl rfl rfl (fun w1 hw1 => R.move rfl) ?_
      obtain ⟨x, hx⟩ : ∃ e, es[k]? = some e := ⟨_, List.getElem?_eq_getElem (by omega)⟩
      obtain ⟨y, hy⟩ : ∃ e, es[k - 1]? = some e := ⟨_, List.getElem?_eq_getElem (by omega)⟩
      refine WQ.op rfl rfl rfl (fun w1 hw1 => R.indexS Try.runUnderlying22 Try.sizeOf49 rfl rfl rfl (by omega)) ?_
      refine WQ.op rfl rfl rfl (fun w1 hw1 => R.loadK Try.isAgg49 Try.sizeOf49 rfl (by rfl) (hw1.cells (flat_cells encP_len hB2 hx) (fun h => h))) ?_
      refine WQ.op rfl rfl rfl (fun w1 hw1 => R.move rfl) ?_
      refine WQ.op rfl rfl rfl (fun w1 hw1 => R.move rfl) ?_
      refine WQ.op rfl rfl rfl (fun w1 hw1 => R.sub rfl rfl (wrap_i64_in (by omega))) ?_
      refine WQ.op rfl rfl rfl (fun w1 hw1 => R.indexS Try.runUnderlying22 Try.sizeOf49 rfl rfl rfl (by omega)) ?_
      refine WQ.op rfl rfl rfl (fun w1 hw1 => R.loadK Try.isAgg49 Try.sizeOf49 rfl (by rfl) (hw1.cells (show Cells w2 g (0 + ((k : Int) - 1).toNat * 2) (encP y) from by rw [show ((k : Int) - 1).toNat = k - 1 from by omega]; exact flat_cells encP_len hB2 hy) (fun h => h))) ?_
      refine WQ.op rfl rfl rfl (fun w1 hw1 => R.eqP Try.underlying49 Try.underlying3 (by kernel_rfl) (by kernel_rfl) Try.isAgg3 (by kernel_rfl) rfl rfl) ?_
      refine WQ.nil (fun w3 hw3 => ?_)
      have hB3 := hw3.blk hB2 (fun h => h)
      have hlast : (Gr.compactL (es.take k)).getLast? = some y := by
        have := Gr.compactL_last hy
        rwa [show k - 1 + 1 = k from by omega] at this
      refine WX.next ?_
      refine WC.ite rfl (fun heq => ?_) (fun hne => ?_)
      ·
        refine WC.seq (WC.region ?_)
        refine WO.op rfl rfl rfl (R.move rfl) ?_
        refine WO.op rfl rfl rfl (R.move rfl) ?_
        have hxy : x = y := heq
        refine WO.op rfl rfl rfl (R.cutLo Try.runUnderlying22 Try.sizeOf49 rfl rfl rfl (by omega) (by omega)) ?_
        refine WO.op rfl rfl rfl (R.assign rfl) ?_
        refine WO.nil (WX.next (WC.seq (WC.seq (WC.region ?_))))
        refine WO.op rfl rfl rfl (R.assign rfl) ?_
        refine WO.nil (WX.next (WC.block ?_))
        have hs0 : Gr.compactL (es.take (k + 1)) = es.take k := by
          rw [Gr.compactL_take hx]
          unfold Gr.cstep
          rw [if_pos (by rw [hlast, hxy]), hck]
        refine WC.loop (σ := Nat × Nat × List (Int × Int)) (fun ⟨q, k2, L⟩ => [(0, .slice (some ⟨g, 0, none⟩) es.length cap), (3, .int .i64 q), (4, .slice (some ⟨g, 0 + k * 2, none⟩) (es.length - k) (cap - k)), (5, .int .i64 k2)]) (fun ⟨q, k2, L⟩ => fun w' => Blk w' g (L.flatMap encP ++ sp) 49 ∧ L.length = es.length ∧ k ≤ q ∧ q + 1 ≤ k + k2 ∧ 1 ≤ k2 ∧ k2 ≤ es.length - k ∧ L.take q = Gr.compactL (es.take (k + k2)) ∧ L.drop (k + k2 - 1) = es.drop (k + k2 - 1) ∧ Keep (fun b => b = g) w w') (fun ⟨q, k2, L⟩ => es.length - k - k2) ((k, 1, es)) (Sub.cons rfl (Sub.cons rfl (Sub.cons rfl (Sub.cons rfl Sub.nil)))) (⟨hB3, rfl, Nat.le_refl _, by omega, by omega, by omega, hs0.symm, rfl, (hk2.ext hw3).mono (fun _ _ h => h.elim)⟩) ?_
        rintro ⟨q, k2, L⟩ w4 ⟨hB4, hL, hq1, hq2, hk21, hk22, htk, hdr, hK4⟩
        show WC _ _ _ _ [(0, .slice (some ⟨g, 0, none⟩) es.length cap), (3, .int .i64 q), (4, .slice (some ⟨g, 0 + k * 2, none⟩) (es.length - k) (cap - k)), (5, .int .i64 k2)] _
        have hclL : (L.flatMap encP ++ sp).length = cap * 2 := by rw [← hcl, List.length_append, List.length_append, flatP_len, flatP_len, hL]
        refine WC.seq (WC.seq (WC.region ?_))
        refine WO.op rfl rfl rfl (R.move rfl) ?_
        refine WO.op rfl rfl rfl (R.move rfl) ?_
        refine WO.op rfl rfl rfl (R.lenS rfl Try.runUnderlying22 rfl) ?_
        refine WO.op rfl rfl rfl (R.lss rfl rfl) ?_
        refine WO.nil (WX.next ?_)
        refine WC.ite rfl (fun hlt2 => ?_) (fun hge2 => ?_)
        ·
          refine WC.skip (WX.next (WC.seq (WC.block (WC.seq ?_))))
          refine WC.quiet (by kernel_rfl) (by kernel_rfl) ?_
          refine WQ.op rfl rfl rfl (fun w1 hw1 => R.move rfl) ?_
          refine WQ.op rfl rfl rfl (fun w1 hw1 => R.move rfl) ?_
          obtain ⟨x2, hx2⟩ : ∃ e, es[k + k2]? = some e := ⟨_, List.getElem?_eq_getElem (by omega)⟩
          obtain ⟨y2, hy2⟩ : ∃ e, es[k + k2 - 1]? = some e := ⟨_, List.getElem?_eq_getElem (by omega)⟩
          have hLx : L[k + k2]? = some x2 := by
            have := congrArg (fun l => l[1]?) hdr
            simp only [List.getElem?_drop] at this
            rw [show k + k2 - 1 + 1 = k + k2 from by omega] at this
            rw [this]; exact hx2
          have hLy : L[k + k2 - 1]? = some y2 := by
            have := congrArg (fun l => l[0]?) hdr
            simp only [List.getElem?_drop, Nat.add_zero] at this
            rw [this]; exact hy2
          have hcx : Cells w4 g (0 + k * 2 + (k2 : Int).toNat * 2) (encP x2) := by
            have := flat_cells encP_len hB4 hLx
            rwa [show 0 + (k + k2) * 2 = 0 + k * 2 + (k2 : Int).toNat * 2 from by rw [Int.toNat_natCast]; omega] at this
          have hcy : Cells w4 g (0 + k * 2 + ((k2 : Int) - 1).toNat * 2) (encP y2) := by
            have := flat_cells encP_len hB4 hLy
            rwa [show 0 + (k + k2 - 1) * 2 = 0 + k * 2 + ((k2 : Int) - 1).toNat * 2 from by omega] at this
          refine WQ.op rfl rfl rfl (fun w1 hw1 => R.indexS Try.runUnderlying22 Try.sizeOf49 rfl rfl rfl (by omega)) ?_
          refine WQ.op rfl rfl rfl (fun w1 hw1 => R.loadK Try.isAgg49 Try.sizeOf49 rfl (by rfl) (hw1.cells hcx (fun h => h))) ?_
          refine WQ.op rfl rfl rfl (fun w1 hw1 => R.move rfl) ?_
          refine WQ.op rfl rfl rfl (fun w1 hw1 => R.move rfl) ?_
          refine WQ.op rfl rfl rfl (fun w1 hw1 => R.sub rfl rfl (wrap_i64_in (by omega))) ?_
          refine WQ.op rfl rfl rfl (fun w1 hw1 => R.indexS Try.runUnderlying22 Try.sizeOf49 rfl rfl rfl (by omega)) ?_
          refine WQ.op rfl rfl rfl (fun w1 hw1 => R.loadK Try.isAgg49 Try.sizeOf49 rfl (by rfl) (hw1.cells hcy (fun h => h))) ?_
          refine WQ.op rfl rfl rfl (fun w1 hw1 => R.neP Try.underlying49 Try.underlying3 (by kernel_rfl) (by kernel_rfl) Try.isAgg3 (by kernel_rfl) rfl rfl) ?_
          refine WQ.nil (fun w5 hw5 => ?_)
          have hB5 := hw5.blk hB4 (fun h => h)
          have hlast2 : (Gr.compactL (es.take (k + k2))).getLast? = some y2 := by
            have := Gr.compactL_last hy2
            rwa [show k + k2 - 1 + 1 = k + k2 from by omega] at this
          refine WX.next ?_
          refine WC.ite rfl (fun hne2 => ?_) (fun heq2 => ?_)
          ·
            refine WC.seq (WC.region ?_)
            refine WO.op rfl rfl rfl (R.move rfl) ?_
            refine WO.op rfl rfl rfl (R.move rfl) ?_
            refine WO.op rfl rfl rfl (R.move rfl) ?_
            refine WO.op rfl rfl rfl (R.move rfl) ?_
            refine WO.op rfl rfl rfl (R.indexS Try.runUnderlying22 Try.sizeOf49 rfl rfl rfl (by omega)) ?_
            refine WO.op rfl rfl rfl (R.loadK Try.isAgg49 Try.sizeOf49 rfl (by rfl) (hw5.cells hcx (fun h => h))) ?_
            refine WO.op rfl rfl rfl (R.indexS Try.runUnderlying22 Try.sizeOf49 rfl rfl rfl (by omega)) ?_
            refine WO.mem0 rfl rfl (M.storeK Try.sizeOf49 rfl rfl rfl rfl (encP_one x2) hB5 (by rw [Int.toNat_natCast, hclL]; omega)) ?_
            rintro w6 ⟨hs6, hB6, hk6⟩
            rw [Int.toNat_natCast, Nat.zero_add, flat_set encP_len (by omega)] at hB6
            refine WO.nil (WX.next (WC.region ?_))
            refine WO.op rfl rfl rfl (R.move rfl) ?_
            refine WO.op rfl rfl rfl (R.add rfl rfl (wrap_i64_in (by omega))) ?_
            refine WO.op rfl rfl rfl (R.assign rfl) ?_
            refine WO.nil (WX.blockN (WX.next (WC.region ?_)))
            refine WO.op rfl rfl rfl (R.move rfl) ?_
            refine WO.op rfl rfl rfl (R.add rfl rfl (wrap_i64_in (by omega))) ?_
            refine WO.op rfl rfl rfl (R.assign rfl) ?_
            refine WO.nil ?_
            refine WX.back ((q + 1, k2 + 1, L.set q x2)) (Sub.cons rfl (Sub.cons rfl (Sub.cons rfl (Sub.cons rfl Sub.nil)))) (⟨hB6, by simp [hL], by omega, by omega, by omega, by omega, ?_, ?_, (hK4.ext hw5).trans hk6 (fun _ _ h => h)⟩) (by first | omega | (dsimp only; omega))
            · rw [show k + (k2 + 1) = k + k2 + 1 from by omega, Gr.compactL_take hx2, ← htk]
              unfold Gr.cstep
              rw [if_neg (by rw [htk, hlast2]; intro h; exact hne2 (by cases h; rfl))]
              rw [List.take_succ_eq_append_getElem (by simp; omega)]
              simp [List.take_set_of_le]
            · rw [List.drop_set_of_lt (by omega)]
              have := congrArg (List.drop 1) hdr
              simp only [List.drop_drop] at this
              rw [show k + (k2 + 1) - 1 = k + k2 - 1 + 1 from by omega]
              exact this
          ·
            refine WC.skip (WX.blockN (WX.next (WC.region ?_)))
            refine WO.op rfl rfl rfl (R.move rfl) ?_
            refine WO.op rfl rfl rfl (R.add rfl rfl (wrap_i64_in (by omega))) ?_
            refine WO.op rfl rfl rfl (R.assign rfl) ?_
            refine WO.nil ?_
            refine WX.back ((q, k2 + 1, L)) (Sub.cons rfl (Sub.cons rfl (Sub.cons rfl (Sub.cons rfl Sub.nil)))) (⟨hB5, hL, by omega, by omega, by omega, by omega, ?_, ?_, hK4.ext hw5⟩) (by first | omega | (dsimp only; omega))
            · rw [show k + (k2 + 1) = k + k2 + 1 from by omega, Gr.compactL_take hx2, ← htk]
              unfold Gr.cstep
              have : x2 = y2 := by
                have := heq2
                simp only [ne_eq, Decidable.not_not] at this
                exact this
              rw [if_pos (by rw [htk, hlast2, this])]
            · have := congrArg (List.drop 1) hdr
              simp only [List.drop_drop] at this
              rw [show k + (k2 + 1) - 1 = k + k2 - 1 + 1 from by omega]
              exact this
        ·
          refine WC.exit (WX.thenE (WX.thenE (WX.hit (WX.next (WC.seq (WC.region ?_))))))
          refine WO.op rfl rfl rfl (R.move rfl) ?_
          refine WO.op rfl rfl rfl (R.move rfl) ?_
          refine WO.op rfl rfl rfl (R.cutLo Try.runUnderlying22 Try.sizeOf49 rfl rfl rfl (by omega) (by omega)) ?_
          refine WO.memN rfl rfl (M.clear (k := 2) (zs := List.replicate ((es.length - q) * 2) (.int .i64 0)) Try.runUnderlying22 Try.zeroValue49 rfl (by omega) (zeros2 _) (by simp) (by intro u hu; rw [List.eq_of_mem_replicate hu]; rfl) hB4 (by rw [Int.toNat_natCast, hclL]; omega)) ?_
          rintro _ w6 ⟨rfl, hs6, hB6, hk6⟩
          refine WO.nil (WX.next (WC.seq (WC.region ?_)))
          refine WO.op rfl rfl rfl (R.move rfl) ?_
          refine WO.op rfl rfl rfl (R.move rfl) ?_
          refine WO.op rfl rfl rfl (R.cutHi Try.runUnderlying22 Try.sizeOf49 rfl rfl (by omega)) ?_
          refine WO.op rfl rfl rfl (R.assign rfl) ?_
          refine WO.nil (WX.next (WC.ret (WX.blockR (WX.thenR (WX.thenR (WX.blockR (WX.thenR ?_)))))))
          refine WX.ret1 Try.results84 rfl ⟨_, rfl, ?_, rfl, (hK4.trans hk6 (fun _ _ h => h)).mono (fun q _ h => by rw [h]; rfl)⟩
          have hk2e : k + k2 = es.length := by omega
          rw [hk2e, List.take_length] at htk
          have hlq : (Gr.compactL es).length = q := by rw [← htk, List.length_take]; omega
          have hql : q * 2 ≤ (L.flatMap encP ++ sp).length := by rw [hclL]; omega
          rw [hlq]
          rw [Int.toNat_natCast, Nat.zero_add] at hB6
          have h7 := own_blk (k := 2) (n := q) (cap := cap) hB6 (by omega) hcm (by simp only [List.length_append, List.length_take, List.length_drop, List.length_replicate] at *; omega)
          rw [List.append_assoc, List.take_append_of_le_length (by rw [List.length_take]; omega), List.take_take, Nat.min_self, List.take_append_of_le_length (by rw [flatP_len]; omega), flat_take encP_len, htk] at h7
          exact h7
      ·
        refine WC.skip (WX.blockN (WX.next (WC.region ?_)))
        refine WO.op rfl rfl rfl (R.move rfl) ?_
        refine WO.op rfl rfl rfl (R.add rfl rfl (wrap_i64_in (by omega))) ?_
        refine WO.op rfl rfl rfl (R.assign rfl) ?_
        refine WO.nil ?_
        refine WX.back (k + 1) (Sub.cons rfl (Sub.cons rfl Sub.nil)) (⟨by omega, by omega, ?_, hk2.ext hw3⟩) (by first | omega | (dsimp only; omega))
        rw [Gr.compactL_take hx]
        unfold Gr.cstep
        rw [if_neg (by rw [hlast]; intro h; exact hne (by cases h; rfl)), hck]
        rw [List.take_succ_eq_append_getElem (by omega)]
        rw [List.getElem?_eq_getElem (by omega)] at hx
        cases hx
        rfl
    ·
      refine WC.exit (WX.thenE (WX.thenE (WX.hit (WX.next (WC.seq (WC.region ?_))))))
      refine WO.op rfl rfl rfl (R.move rfl) ?_
      refine WO.op rfl rfl rfl (R.assign rfl) ?_
      refine WO.nil (WX.next (WC.ret ?_))
      have : k = es.length := by omega
      subst this
      rw [List.take_length] at hck
      refine WX.ret1 Try.results84 rfl ⟨_, rfl, by rw [hck]; exact own_keep hown hk2 (fun _ _ h => h), rfl, hk2.mono (fun _ _ h => h.elim)⟩
end Go.Proofs.Yteilalejfphkgaa
