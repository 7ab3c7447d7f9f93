/-
  slices of ints: Compact, Sort, Equal, Clone. Contracts; nothing here is a claim.
-/
import Derived.Test.YteilalejfphkgaaT9
import Derived.Test.YteilalejfphkgaaT4
namespace Go.Proofs.Yteilalejfphkgaa
open Go.GL

def encI (x : Int) : List Value := [.int .i64 x]
theorem encI_len (x : Int) : (encI x).length = 1 := rfl
theorem flatI_len (l : List Int) : (l.flatMap encI).length = l.length * 1 := flat_len encI_len l
theorem mapI (l : List Int) : l.map (Value.int .i64) = l.flatMap encI := map_flat l
theorem zeros1 (m : Nat) : Builtin.zeroCells (Value.int .i64 0).cells m = (List.replicate (m * 1) (.int .i64 0)).toArray := by
  apply Array.ext
  · simp [Builtin.zeroCells, Value.cells]
  · intro i h1 h2
    have : i % 1 = 0 := by omega
    simp [Builtin.zeroCells, Value.cells, this]

theorem compactI_ok (es : List Int) (v : Value) (n : Nat) (w : World) (hown : w.ownsRow 0 3 1 v n (es.flatMap encI)) (hlen : es.length ≤ 1048576) : Calls Try.prog 48 #[v] w (Ret fun u w' => w'.ownsRow 0 3 1 u (Gr.compactL es).length ((Gr.compactL es).flatMap encI) ∧ u.ownBlock = v.ownBlock ∧ Keep (fun q => v.ownBlock = some q) w w') := by
  have hn : n = es.length := by
    have := hown.1
    rw [flatI_len] at this
    omega
  subst hn
  by_cases h0 : es = []
  · subst h0
    obtain ⟨l, c, hv⟩ : ∃ ao c, v = .slice ao 0 c := by
      rcases hown.2 with ⟨rfl, _⟩ | ⟨g, cap, cur, rfl, _⟩ <;> exact ⟨_, _, rfl⟩
    subst hv
    refine calls Try.func48 rfl [(0, .slice l 0 c)] 61 ⟨Nat.le_of_ble_eq_true rfl, Try.ntmps48⟩ (argsOk (Sub.cons rfl Sub.nil)) ?_
    refine WC.seq (WC.region ?_)
    refine WO.op rfl rfl rfl (R.assign rfl) ?_
    refine WO.nil (WX.next (WC.seq (WC.seq (WC.region ?_))))
    refine WO.op rfl rfl rfl (R.move rfl) ?_
    refine WO.op rfl rfl rfl (R.lenS rfl Try.runUnderlying27 rfl) ?_
    refine WO.op rfl rfl rfl (R.lss rfl rfl) ?_
    refine WO.nil (WX.next ?_)
    refine WC.tt rfl (rfl) ?_
    refine WC.seq (WC.region ?_)
    refine WO.op rfl rfl rfl (R.move rfl) ?_
    refine WO.op rfl rfl rfl (R.assign rfl) ?_
    refine WO.nil (WX.next (WC.ret (WX.thenR ?_)))
    refine WX.ret1 Try.results48 rfl ⟨_, rfl, hown, rfl, Keep.refl _ _⟩
  obtain ⟨g, cap, sp, rfl, _, hnc, hcm, hB, hcl⟩ := own_open encI_len (by omega) hown h0
  refine calls Try.func48 rfl [(0, .slice (some ⟨g, 0, none⟩) es.length cap)] 61 ⟨Nat.le_of_ble_eq_true rfl, Try.ntmps48⟩ (argsOk (Sub.cons rfl Sub.nil)) ?_
  refine WC.seq (WC.region ?_)
  refine WO.op rfl rfl rfl (R.assign rfl) ?_
  refine WO.nil (WX.next (WC.seq (WC.seq (WC.region ?_))))
  refine WO.op rfl rfl rfl (R.move rfl) ?_
  refine WO.op rfl rfl rfl (R.lenS rfl Try.runUnderlying27 rfl) ?_
  refine WO.op rfl rfl rfl (R.lss rfl rfl) ?_
  refine WO.nil (WX.next ?_)
  refine WC.ite rfl (fun h2 => ?_) (fun h2 => ?_)
  ·
    refine WC.seq (WC.region ?_)
    refine WO.op rfl rfl rfl (R.move rfl) ?_
    refine WO.op rfl rfl rfl (R.assign rfl) ?_
    refine WO.nil (WX.next (WC.ret (WX.thenR ?_)))
    have e1 : Gr.compactL es = es := by
      match es, h0, h2 with
      | [x], _, _ => rfl
      | x :: y :: r, _, h => simp at h; omega
    refine WX.ret1 Try.results48 rfl ⟨_, rfl, by rw [e1]; exact hown, rfl, Keep.refl _ _⟩
  ·
    refine WC.skip (WX.next (WC.seq (WC.seq (WC.region ?_))))
    refine WO.op rfl rfl rfl (R.assign rfl) ?_
    refine WO.nil (WX.next (WC.block ?_))
    have e1 : Gr.compactL (es.take 1) = es.take 1 := by
      match es, h0 with
      | x :: r, _ => rfl
    refine WC.loop (σ := Nat) (fun k => [(0, .slice (some ⟨g, 0, none⟩) es.length cap), (3, .int .i64 k)]) (fun k => fun w' => 1 ≤ k ∧ k ≤ es.length ∧ Gr.compactL (es.take k) = es.take k ∧ Ext w w') (fun k => es.length - k) (1) (Sub.cons rfl (Sub.cons rfl Sub.nil)) (⟨by omega, by omega, e1, Keep.refl _ _⟩) ?_
    rintro k w2 ⟨hk1, hkn, hck, hk2⟩
    show WC _ _ _ _ [(0, .slice (some ⟨g, 0, none⟩) es.length cap), (3, .int .i64 k)] _
    have hB2 := hk2.blk hB (fun h => h)
    refine WC.seq (WC.seq (WC.region ?_))
    refine WO.op rfl rfl rfl (R.move rfl) ?_
    refine WO.op rfl rfl rfl (R.move rfl) ?_
    refine WO.op rfl rfl rfl (R.lenS rfl Try.runUnderlying27 rfl) ?_
    refine WO.op rfl rfl rfl (R.lss rfl rfl) ?_
    refine WO.nil (WX.next ?_)
    refine WC.ite rfl (fun hlt => ?_) (fun hge => ?_)
    ·
      refine WC.skip (WX.next (WC.seq (WC.block (WC.seq ?_))))
      refine WC.quiet (by kernel_rfl) (by kernel_rfl) ?_
      refine WQ.op rfl rfl rfl (fun w1 hw1 => R.move rfl) ?_
      refine WQ.op rfl rfl rfl (fun w1 hw1 => R.move rfl) ?_
      obtain ⟨x, hx⟩ : ∃ e, es[k]? = some e := ⟨_, List.getElem?_eq_getElem (by omega)⟩
      obtain ⟨y, hy⟩ : ∃ e, es[k - 1]? = some e := ⟨_, List.getElem?_eq_getElem (by omega)⟩
      refine WQ.op rfl rfl rfl (fun w1 hw1 => R.indexS Try.runUnderlying27 Try.sizeOf3 rfl rfl rfl (by omega)) ?_
      refine WQ.op rfl rfl rfl (fun w1 hw1 => R.load Try.isAgg3 rfl (hw1.cell (flat_cells encI_len hB2 hx 0 _ rfl) (fun h => h))) ?_
      refine WQ.op rfl rfl rfl (fun w1 hw1 => R.move rfl) ?_
      refine WQ.op rfl rfl rfl (fun w1 hw1 => R.move rfl) ?_
      refine WQ.op rfl rfl rfl (fun w1 hw1 => R.sub rfl rfl (wrap_i64_in (by omega))) ?_
      refine WQ.op rfl rfl rfl (fun w1 hw1 => R.indexS Try.runUnderlying27 Try.sizeOf3 rfl rfl rfl (by omega)) ?_
      refine WQ.op rfl rfl rfl (fun w1 hw1 => R.load Try.isAgg3 rfl ((show Cells w2 g (0 + ((k : Int) - 1).toNat * 1) (encI y) from by rw [show ((k : Int) - 1).toNat = k - 1 from by omega]; exact flat_cells encI_len hB2 hy) 0 _ rfl |> fun h => hw1.cell h (fun h => h))) ?_
      refine WQ.op rfl rfl rfl (fun w1 hw1 => R.eql rfl rfl) ?_
      refine WQ.nil (fun w3 hw3 => ?_)
      have hB3 := hw3.blk hB2 (fun h => h)
      have hlast : (Gr.compactL (es.take k)).getLast? = some y := by
        have := Gr.compactL_last hy
        rwa [show k - 1 + 1 = k from by omega] at this
      refine WX.next ?_
      refine WC.ite rfl (fun heq => ?_) (fun hne => ?_)
      ·
        refine WC.seq (WC.region ?_)
        refine WO.op rfl rfl rfl (R.move rfl) ?_
        refine WO.op rfl rfl rfl (R.move rfl) ?_
        have hxy : x = y := heq
        refine WO.op rfl rfl rfl (R.cutLo Try.runUnderlying27 Try.sizeOf3 rfl rfl rfl (by omega) (by omega)) ?_
        refine WO.op rfl rfl rfl (R.assign rfl) ?_
        refine WO.nil (WX.next (WC.seq (WC.seq (WC.region ?_))))
        refine WO.op rfl rfl rfl (R.assign rfl) ?_
        refine WO.nil (WX.next (WC.block ?_))
        have hs0 : Gr.compactL (es.take (k + 1)) = es.take k := by
          rw [Gr.compactL_take hx]
          unfold Gr.cstep
          rw [if_pos (by rw [hlast, hxy]), hck]
        refine WC.loop (σ := Nat × Nat × List Int) (fun ⟨q, k2, L⟩ => [(0, .slice (some ⟨g, 0, none⟩) es.length cap), (3, .int .i64 q), (4, .slice (some ⟨g, 0 + k * 1, none⟩) (es.length - k) (cap - k)), (5, .int .i64 k2)]) (fun ⟨q, k2, L⟩ => fun w' => Blk w' g (L.flatMap encI ++ sp) 3 ∧ L.length = es.length ∧ k ≤ q ∧ q + 1 ≤ k + k2 ∧ 1 ≤ k2 ∧ k2 ≤ es.length - k ∧ L.take q = Gr.compactL (es.take (k + k2)) ∧ L.drop (k + k2 - 1) = es.drop (k + k2 - 1) ∧ Keep (fun b => b = g) w w') (fun ⟨q, k2, L⟩ => es.length - k - k2) ((k, 1, es)) (Sub.cons rfl (Sub.cons rfl (Sub.cons rfl (Sub.cons rfl Sub.nil)))) (⟨hB3, rfl, Nat.le_refl _, by omega, by omega, by omega, hs0.symm, rfl, (hk2.ext hw3).mono (fun _ _ h => h.elim)⟩) ?_
        rintro ⟨q, k2, L⟩ w4 ⟨hB4, hL, hq1, hq2, hk21, hk22, htk, hdr, hK4⟩
        show WC _ _ _ _ [(0, .slice (some ⟨g, 0, none⟩) es.length cap), (3, .int .i64 q), (4, .slice (some ⟨g, 0 + k * 1, none⟩) (es.length - k) (cap - k)), (5, .int .i64 k2)] _
        have hclL : (L.flatMap encI ++ sp).length = cap * 1 := by rw [← hcl, List.length_append, List.length_append, flatI_len, flatI_len, hL]
        refine WC.seq (WC.seq (WC.region ?_))
        refine WO.op rfl rfl rfl (R.move rfl) ?_
        refine WO.op rfl rfl rfl (R.move rfl) ?_
        refine WO.op rfl rfl rfl (R.lenS rfl Try.runUnderlying27 rfl) ?_
        refine WO.op rfl rfl rfl (R.lss rfl rfl) ?_
        refine WO.nil (WX.next ?_)
        refine WC.ite rfl (fun hlt2 => ?_) (fun hge2 => ?_)
        ·
          refine WC.skip (WX.next (WC.seq (WC.block (WC.seq ?_))))
          refine WC.quiet (by kernel_rfl) (by kernel_rfl) ?_
          refine WQ.op rfl rfl rfl (fun w1 hw1 => R.move rfl) ?_
          refine WQ.op rfl rfl rfl (fun w1 hw1 => R.move rfl) ?_
          obtain ⟨x2, hx2⟩ : ∃ e, es[k + k2]? = some e := ⟨_, List.getElem?_eq_getElem (by omega)⟩
          obtain ⟨y2, hy2⟩ : ∃ e, es[k + k2 - 1]? = some e := ⟨_, List.getElem?_eq_getElem (by omega)⟩
          have hLx : L[k + k2]? = some x2 := by
            have := congrArg (fun l => l[1]?) hdr
            simp only [List.getElem?_drop] at this
            rw [show k + k2 - 1 + 1 = k + k2 from by omega] at this
            rw [this]; exact hx2
          have hLy : L[k + k2 - 1]? = some y2 := by
            have := congrArg (fun l => l[0]?) hdr
            simp only [List.getElem?_drop, Nat.add_zero] at this
            rw [this]; exact hy2
          have hcx : Cells w4 g (0 + k * 1 + (k2 : Int).toNat * 1) (encI x2) := by
            have := flat_cells encI_len hB4 hLx
            rwa [show 0 + (k + k2) * 1 = 0 + k * 1 + (k2 : Int).toNat * 1 from by rw [Int.toNat_natCast]; omega] at this
          have hcy : Cells w4 g (0 + k * 1 + ((k2 : Int) - 1).toNat * 1) (encI y2) := by
            have := flat_cells encI_len hB4 hLy
            rwa [show 0 + (k + k2 - 1) * 1 = 0 + k * 1 + ((k2 : Int) - 1).toNat * 1 from by omega] at this
          refine WQ.op rfl rfl rfl (fun w1 hw1 => R.indexS Try.runUnderlying27 Try.sizeOf3 rfl rfl rfl (by omega)) ?_
          refine WQ.op rfl rfl rfl (fun w1 hw1 => R.load Try.isAgg3 rfl (hw1.cell (hcx 0 _ rfl) (fun h => h))) ?_
          refine WQ.op rfl rfl rfl (fun w1 hw1 => R.move rfl) ?_
          refine WQ.op rfl rfl rfl (fun w1 hw1 => R.move rfl) ?_
          refine WQ.op rfl rfl rfl (fun w1 hw1 => R.sub rfl rfl (wrap_i64_in (by omega))) ?_
          refine WQ.op rfl rfl rfl (fun w1 hw1 => R.indexS Try.runUnderlying27 Try.sizeOf3 rfl rfl rfl (by omega)) ?_
          refine WQ.op rfl rfl rfl (fun w1 hw1 => R.load Try.isAgg3 rfl (hw1.cell (hcy 0 _ rfl) (fun h => h))) ?_
          refine WQ.op rfl rfl rfl (fun w1 hw1 => R.neq rfl rfl) ?_
          refine WQ.nil (fun w5 hw5 => ?_)
          have hB5 := hw5.blk hB4 (fun h => h)
          have hlast2 : (Gr.compactL (es.take (k + k2))).getLast? = some y2 := by
            have := Gr.compactL_last hy2
            rwa [show k + k2 - 1 + 1 = k + k2 from by omega] at this
          refine WX.next ?_
          refine WC.ite rfl (fun hne2 => ?_) (fun heq2 => ?_)
          ·
            refine WC.seq (WC.region ?_)
            refine WO.op rfl rfl rfl (R.move rfl) ?_
            refine WO.op rfl rfl rfl (R.move rfl) ?_
            refine WO.op rfl rfl rfl (R.move rfl) ?_
            refine WO.op rfl rfl rfl (R.move rfl) ?_
            refine WO.op rfl rfl rfl (R.indexS Try.runUnderlying27 Try.sizeOf3 rfl rfl rfl (by omega)) ?_
            refine WO.op rfl rfl rfl (R.load Try.isAgg3 rfl (hw5.cell (hcx 0 _ rfl) (fun h => h))) ?_
            refine WO.op rfl rfl rfl (R.indexS Try.runUnderlying27 Try.sizeOf3 rfl rfl rfl (by omega)) ?_
            refine WO.mem0 rfl rfl (M.store Try.sizeOf3 rfl rfl rfl rfl hB5 (by rw [Int.toNat_natCast, hclL]; omega)) ?_
            rintro w6 ⟨hs6, hB6, hk6⟩
            obtain ⟨z, hz⟩ : ∃ z, L[q]? = some z := ⟨_, List.getElem?_eq_getElem (by omega)⟩
            rw [Int.toNat_natCast, Nat.zero_add, ← Nat.add_zero (q * 1), flat_cell encI_len (y := x2) (by decide) rfl L q sp hz] at hB6
            refine WO.nil (WX.next (WC.region ?_))
            refine WO.op rfl rfl rfl (R.move rfl) ?_
            refine WO.op rfl rfl rfl (R.add rfl rfl (wrap_i64_in (by omega))) ?_
            refine WO.op rfl rfl rfl (R.assign rfl) ?_
            refine WO.nil (WX.blockN (WX.next (WC.region ?_)))
            refine WO.op rfl rfl rfl (R.move rfl) ?_
            refine WO.op rfl rfl rfl (R.add rfl rfl (wrap_i64_in (by omega))) ?_
            refine WO.op rfl rfl rfl (R.assign rfl) ?_
            refine WO.nil ?_
            refine WX.back ((q + 1, k2 + 1, L.set q x2)) (Sub.cons rfl (Sub.cons rfl (Sub.cons rfl (Sub.cons rfl Sub.nil)))) (⟨hB6, by simp [hL], by omega, by omega, by omega, by omega, ?_, ?_, (hK4.ext hw5).trans hk6 (fun _ _ h => h)⟩) (by first | omega | (dsimp only; omega))
            · rw [show k + (k2 + 1) = k + k2 + 1 from by omega, Gr.compactL_take hx2, ← htk]
              unfold Gr.cstep
              rw [if_neg (by rw [htk, hlast2]; intro h; exact hne2 (by cases h; rfl))]
              rw [List.take_succ_eq_append_getElem (by simp; omega)]
              simp [List.take_set_of_le]
            · rw [List.drop_set_of_lt (by omega)]
              have := congrArg (List.drop 1) hdr
              simp only [List.drop_drop] at this
              rw [show k + (k2 + 1) - 1 = k + k2 - 1 + 1 from by omega]
              exact this
          ·
            refine WC.skip (WX.blockN (WX.next (WC.region ?_)))
            refine WO.op rfl rfl rfl (R.move rfl) ?_
            refine WO.op rfl rfl rfl (R.add rfl rfl (wrap_i64_in (by omega))) ?_
            refine WO.op rfl rfl rfl (R.assign rfl) ?_
            refine WO.nil ?_
            refine WX.back ((q, k2 + 1, L)) (Sub.cons rfl (Sub.cons rfl (Sub.cons rfl (Sub.cons rfl Sub.nil)))) (⟨hB5, hL, by omega, by omega, by omega, by omega, ?_, ?_, hK4.ext hw5⟩) (by first | omega | (dsimp only; omega))
            · rw [show k + (k2 + 1) = k + k2 + 1 from by omega, Gr.compactL_take hx2, ← htk]
              unfold Gr.cstep
              have : x2 = y2 := by
                have := heq2
                simp only [ne_eq, Decidable.not_not] at this
                exact this
              rw [if_pos (by rw [htk, hlast2, this])]
            · have := congrArg (List.drop 1) hdr
              simp only [List.drop_drop] at this
              rw [show k + (k2 + 1) - 1 = k + k2 - 1 + 1 from by omega]
              exact this
        ·
          refine WC.exit (WX.thenE (WX.thenE (WX.hit (WX.next (WC.seq (WC.region ?_))))))
          refine WO.op rfl rfl rfl (R.move rfl) ?_
          refine WO.op rfl rfl rfl (R.move rfl) ?_
          refine WO.op rfl rfl rfl (R.cutLo Try.runUnderlying27 Try.sizeOf3 rfl rfl rfl (by omega) (by omega)) ?_
          refine WO.memN rfl rfl (M.clear (k := 1) (zs := List.replicate ((es.length - q) * 1) (.int .i64 0)) Try.runUnderlying27 Try.zeroValue3 rfl (by omega) (zeros1 _) (by simp) (by intro u hu; rw [List.eq_of_mem_replicate hu]; rfl) hB4 (by rw [Int.toNat_natCast, hclL]; omega)) ?_
          rintro _ w6 ⟨rfl, hs6, hB6, hk6⟩
          refine WO.nil (WX.next (WC.seq (WC.region ?_)))
          refine WO.op rfl rfl rfl (R.move rfl) ?_
          refine WO.op rfl rfl rfl (R.move rfl) ?_
          refine WO.op rfl rfl rfl (R.cutHi Try.runUnderlying27 Try.sizeOf3 rfl rfl (by omega)) ?_
          refine WO.op rfl rfl rfl (R.assign rfl) ?_
          refine WO.nil (WX.next (WC.ret (WX.blockR (WX.thenR (WX.thenR (WX.blockR (WX.thenR ?_)))))))
          refine WX.ret1 Try.results48 rfl ⟨_, rfl, ?_, rfl, (hK4.trans hk6 (fun _ _ h => h)).mono (fun q _ h => by rw [h]; rfl)⟩
          have hk2e : k + k2 = es.length := by omega
          rw [hk2e, List.take_length] at htk
          have hlq : (Gr.compactL es).length = q := by rw [← htk, List.length_take]; omega
          have hql : q * 1 ≤ (L.flatMap encI ++ sp).length := by rw [hclL]; omega
          rw [hlq]
          rw [Int.toNat_natCast, Nat.zero_add] at hB6
          have h7 := own_blk (k := 1) (n := q) (cap := cap) hB6 (by omega) hcm (by simp only [List.length_append, List.length_take, List.length_drop, List.length_replicate] at *; omega)
          rw [List.append_assoc, List.take_append_of_le_length (by rw [List.length_take]; omega), List.take_take, Nat.min_self, List.take_append_of_le_length (by rw [flatI_len]; omega), flat_take encI_len, htk] at h7
          exact h7
      ·
        refine WC.skip (WX.blockN (WX.next (WC.region ?_)))
        refine WO.op rfl rfl rfl (R.move rfl) ?_
        refine WO.op rfl rfl rfl (R.add rfl rfl (wrap_i64_in (by omega))) ?_
        refine WO.op rfl rfl rfl (R.assign rfl) ?_
        refine WO.nil ?_
        refine WX.back (k + 1) (Sub.cons rfl (Sub.cons rfl Sub.nil)) (⟨by omega, by omega, ?_, hk2.ext hw3⟩) (by first | omega | (dsimp only; omega))
        rw [Gr.compactL_take hx]
        unfold Gr.cstep
        rw [if_neg (by rw [hlast]; intro h; exact hne (by cases h; rfl)), hck]
        rw [List.take_succ_eq_append_getElem (by omega)]
        rw [List.getElem?_eq_getElem (by omega)] at hx
        cases hx
        rfl
    ·
      refine WC.exit (WX.thenE (WX.thenE (WX.hit (WX.next (WC.seq (WC.region ?_))))))
      refine WO.op rfl rfl rfl (R.move rfl) ?_
      refine WO.op rfl rfl rfl (R.assign rfl) ?_
      refine WO.nil (WX.next (WC.ret ?_))
      have : k = es.length := by omega
      subst this
      rw [List.take_length] at hck
      refine WX.ret1 Try.results48 rfl ⟨_, rfl, by rw [hck]; exact own_keep hown hk2 (fun _ _ h => h), rfl, hk2.mono (fun _ _ h => h.elim)⟩
theorem cloneI_ok (es : List Int) (v : Value) (D : Nat → Prop) (w : World) (hes : SlR 1 RInt D w v es) (hlen : es.length ≤ 1048576) : Calls Try.prog 40 #[v] w (Ret fun u w' => w'.ownsRow 0 3 1 u es.length (es.flatMap encI) ∧ (∀ g, u.ownBlock = some g → w.heap.size ≤ g) ∧ Ext w w') := by
  obtain ⟨ao, cap, rfl, hlc, hcm, hel⟩ := hes
  refine calls Try.func40 rfl [(0, .slice ao es.length cap)] 8 ⟨Nat.le_of_ble_eq_true rfl, Try.ntmps40⟩ (argsOk (Sub.cons rfl Sub.nil)) ?_
  refine WC.seq (WC.region ?_)
  refine WO.op rfl rfl rfl (R.assign rfl) ?_
  refine WO.nil (WX.next (WC.seq (WC.seq (WC.region ?_))))
  refine WO.op rfl rfl rfl (R.move rfl) ?_
  refine WO.op rfl rfl rfl (R.eqNil Try.underlying27 rfl) ?_
  refine WO.nil (WX.next ?_)
  refine WC.bool rfl (fun h => ?_) (fun h => ?_)
  ·
    refine WC.seq (WC.region ?_)
    refine WO.op rfl rfl rfl (R.assign rfl) ?_
    refine WO.nil (WX.next (WC.ret (WX.thenR ?_)))
    have : es = [] := by
      cases es with
      | nil => rfl
      | cons x r =>
        obtain ⟨b, o, cs, hao, _⟩ := hel 0 x rfl
        rw [hao] at h; cases h
    subst this
    refine WX.ret1 Try.results40 rfl ⟨_, rfl, own_nil _ _ _, by simp [Value.ownBlock], Keep.refl _ _⟩
  · obtain ⟨a0, rfl⟩ : ∃ a0, ao = some a0 := by cases ao with
      | none => cases h
      | some a0 => exact ⟨a0, rfl⟩
    refine WC.skip (WX.next (WC.seq (WC.region ?_)))
    refine WO.mem rfl rfl rfl (M.buildSlice0 Try.runUnderlying27 Try.sizeOf3) ?_
    rintro _ w1 ⟨b, rfl, hb, hs, hB, hk⟩
    refine WO.op rfl rfl rfl (R.move rfl) ?_
    have hown : w1.ownsRow 0 3 1 (.slice (some ⟨b, 0, none⟩) 0 0) 0 [] := own_blk hB (Nat.le_refl _) (by omega) rfl
    have hnews : ∀ q u, (es.flatMap encI)[q]? = some u → w1.cell? (a0.add q) = some u := by
      intro q u hq
      have hq2 : q < es.length * 1 := by rw [← flatI_len]; exact (List.getElem?_eq_some_iff.1 hq).1
      obtain ⟨x, hx⟩ : ∃ x, es[q / 1]? = some x := ⟨_, List.getElem?_eq_getElem (by omega)⟩
      obtain ⟨b', o', cs, hao, _, hcl, hcs, rfl⟩ := hel (q / 1) x hx
      cases hao
      have h1 : ∃ u', (encI x)[q % 1]? = some u' := ⟨_, List.getElem?_eq_getElem (by rw [encI_len]; omega)⟩
      obtain ⟨u', hu'⟩ := h1
      have h2 := flat_at encI_len hx [] (q % 1) u' hu'
      rw [List.append_nil, show q / 1 * 1 + q % 1 = q from by omega, hq] at h2
      cases h2
      have h3 := hcs (q % 1) u hu'
      rw [addr_add]
      rw [show o' + q / 1 * 1 + q % 1 = o' + q from by omega] at h3
      exact hk.cell h3 (fun h => h)
    refine WO.mem rfl rfl rfl (M.append Try.underlying27 Try.el3 rfl (by decide) rfl rfl hown (flatI_len es) hnews (by intro u hu; obtain ⟨x, _, hx⟩ := List.mem_flatMap.1 hu; rw [List.mem_singleton.1 hx]; rfl) (by omega) (by omega)) ?_
    rintro u w2 ⟨hown2, hfr, hk2, _⟩
    refine WO.op rfl rfl rfl (R.assign rfl) ?_
    refine WO.nil (WX.next (WC.ret ?_))
    refine WX.ret1 Try.results40 rfl ⟨_, rfl, by simpa using hown2, ?_, hk.trans hk2 (fun q hq h => by simp [Value.ownBlock] at h; omega)⟩
    intro g hg
    rcases hfr with h' | ⟨g', h', h''⟩
    · rw [h'] at hg; simp [Value.ownBlock] at hg; omega
    · rw [h'] at hg; cases hg; have := hk.size; omega


theorem same_ok (xs ys : List Int) (u v : Value) (D D' : Nat → Prop) (w : World) (hx : SlR 1 RInt D w u xs) (hy : SlR 1 RInt D' w v ys) : Calls Try.prog 14 #[u, v] w (Ret fun r w' => r = .bool (decide (xs = ys)) ∧ Ext w w') := by
  obtain ⟨ao, cx, rfl, hxc, hxm, hxe⟩ := hx
  obtain ⟨bo, cy, rfl, hyc, hym, hye⟩ := hy
  refine calls Try.func14 rfl [(0, .slice ao xs.length cx), (1, .slice bo ys.length cy)] 26 ⟨Nat.le_of_ble_eq_true rfl, Try.ntmps14⟩ (argsOk (Sub.cons rfl (Sub.cons rfl Sub.nil))) ?_
  refine WC.seq (WC.region ?_)
  refine WO.op rfl rfl rfl (R.assign rfl) ?_
  refine WO.nil (WX.next (WC.seq (WC.seq (WC.region ?_))))
  refine WO.op rfl rfl rfl (R.move rfl) ?_
  refine WO.op rfl rfl rfl (R.lenS rfl Try.runUnderlying27 rfl) ?_
  refine WO.op rfl rfl rfl (R.move rfl) ?_
  refine WO.op rfl rfl rfl (R.lenS rfl Try.runUnderlying27 rfl) ?_
  refine WO.op rfl rfl rfl (R.neq rfl rfl) ?_
  refine WO.nil (WX.next ?_)
  refine WC.ite rfl (fun hne => ?_) (fun heq => ?_)
  ·
    refine WC.seq (WC.region ?_)
    refine WO.op rfl rfl rfl (R.assign rfl) ?_
    refine WO.nil (WX.next (WC.ret (WX.thenR ?_)))
    have : ¬ xs = ys := fun h => hne (by rw [h])
    refine WX.ret1 Try.results14 rfl ⟨_, rfl, by rw [decide_eq_false this], Keep.refl _ _⟩
  · have hl : xs.length = ys.length := by omega
    refine WC.skip (WX.next (WC.seq (WC.seq (WC.region ?_))))
    refine WO.op rfl rfl rfl (R.move rfl) ?_
    refine WO.op rfl rfl rfl (R.lenS rfl Try.runUnderlying27 rfl) ?_
    refine WO.op rfl rfl rfl (R.move rfl) ?_
    refine WO.nil (WX.next (WC.block ?_))
    refine WC.loop (σ := Nat) (fun k => [(0, .slice ao xs.length cx), (1, .slice bo ys.length cy), (11, .slice ao xs.length cx), (12, .int .i64 xs.length), (13, .int .i64 k)]) (fun k => fun w' => k ≤ xs.length ∧ xs.take k = ys.take k ∧ Ext w w') (fun k => xs.length - k) (0) (Sub.cons rfl (Sub.cons rfl (Sub.cons rfl (Sub.cons rfl (Sub.cons rfl Sub.nil))))) (⟨Nat.zero_le _, rfl, Keep.refl _ _⟩) ?_
    rintro k w1 ⟨hkl, htk, hk1⟩
    show WC _ _ _ _ [(0, .slice ao xs.length cx), (1, .slice bo ys.length cy), (11, .slice ao xs.length cx), (12, .int .i64 xs.length), (13, .int .i64 k)] _
    refine WC.seq (WC.region ?_)
    refine WO.op rfl rfl rfl (R.lss rfl rfl) ?_
    refine WO.nil (WX.next (WC.seq ?_))
    refine WC.ite rfl (fun hlt => ?_) (fun hge => ?_)
    · obtain ⟨x, hx⟩ : ∃ x, xs[k]? = some x := ⟨_, List.getElem?_eq_getElem (by omega)⟩
      obtain ⟨y, hy⟩ : ∃ y, ys[k]? = some y := ⟨_, List.getElem?_eq_getElem (by omega)⟩
      obtain ⟨b1, o1, c1, hao, _, hcl1, hcs1, rfl⟩ := hxe k x hx
      obtain ⟨b2, o2, c2, hbo, _, hcl2, hcs2, rfl⟩ := hye k y hy
      have hcs1' := hk1.cells hcs1 (fun h => h)
      have hcs2' := hk1.cells hcs2 (fun h => h)
      refine WC.skip (WX.next (WC.seq (WC.block (WC.seq (WC.region ?_)))))
      refine WO.op rfl rfl rfl (R.move rfl) ?_
      refine WO.op rfl rfl rfl (R.assign rfl) ?_
      refine WO.nil (WX.next (WC.seq ?_))
      refine WC.quiet (by kernel_rfl) (by kernel_rfl) ?_
      refine WQ.op rfl rfl rfl (fun w1 hw1 => R.move rfl) ?_
      refine WQ.op rfl rfl rfl (fun w1 hw1 => R.move rfl) ?_
      refine WQ.op rfl rfl rfl (fun w1 hw1 => R.indexS Try.runUnderlying27 Try.sizeOf3 rfl rfl hao (by omega)) ?_
      refine WQ.op rfl rfl rfl (fun w1 hw1 => R.load Try.isAgg3 rfl (hw1.cell (hcs1' 0 _ rfl) (fun h => h))) ?_
      refine WQ.op rfl rfl rfl (fun w1 hw1 => R.move rfl) ?_
      refine WQ.op rfl rfl rfl (fun w1 hw1 => R.move rfl) ?_
      refine WQ.op rfl rfl rfl (fun w1 hw1 => R.indexS Try.runUnderlying27 Try.sizeOf3 rfl rfl hbo (by omega)) ?_
      refine WQ.op rfl rfl rfl (fun w1 hw1 => R.load Try.isAgg3 rfl (hw1.cell (hcs2' 0 _ rfl) (fun h => h))) ?_
      refine WQ.op rfl rfl rfl (fun w1 hw1 => R.neq rfl rfl) ?_
      refine WQ.nil (fun w2 hk2 => ?_)
      refine WX.next ?_
      refine WC.ite rfl (fun hd => ?_) (fun he => ?_)
      · have : ¬ xs = ys := by
          rintro rfl
          rw [hx] at hy
          exact hd (Option.some.inj hy)
        refine WC.seq (WC.region ?_)
        refine WO.op rfl rfl rfl (R.assign rfl) ?_
        refine WO.nil (WX.next (WC.ret (WX.blockR (WX.thenR (WX.thenR (WX.blockR (WX.thenR ?_)))))))
        refine WX.ret1 Try.results14 rfl ⟨_, rfl, by rw [decide_eq_false this], hk1.ext hk2⟩
      · have hxy : x = y := Decidable.not_not.1 he
        refine WC.skip (WX.blockN (WX.next (WC.region ?_)))
        refine WO.op rfl rfl rfl (R.add rfl rfl (wrap_i64_in (by omega))) ?_
        refine WO.op rfl rfl rfl (R.move rfl) ?_
        refine WO.nil ?_
        refine WX.back (k + 1) (Sub.cons rfl (Sub.cons rfl (Sub.cons rfl (Sub.cons rfl (Sub.cons rfl Sub.nil))))) (⟨by omega, ?_, hk1.ext hk2⟩) (by first | omega | (dsimp only; omega))
        obtain ⟨h1, h2⟩ := List.getElem?_eq_some_iff.1 hx
        obtain ⟨h3, h4⟩ := List.getElem?_eq_some_iff.1 hy
        rw [List.take_succ_eq_append_getElem h1, List.take_succ_eq_append_getElem h3, htk, h2, h4, hxy]
    · have hkk : k = xs.length := by omega
      have : xs = ys := by
        rw [hkk, List.take_length] at htk
        rw [hl, List.take_length] at htk
        exact htk
      refine WC.exit (WX.thenE (WX.thenE (WX.hit (WX.next (WC.seq (WC.region ?_))))))
      refine WO.op rfl rfl rfl (R.assign rfl) ?_
      refine WO.nil (WX.next (WC.ret ?_))
      refine WX.ret1 Try.results14 rfl ⟨_, rfl, by rw [decide_eq_true this], hk1⟩

theorem equal_ok (xs ys : List Int) (u v : Value) (D D' : Nat → Prop) (w : World) (hx : SlR 1 RInt D w u xs) (hy : SlR 1 RInt D' w v ys) : Calls Try.prog 37 #[u, v] w (Ret fun r w' => r = .bool (decide (xs = ys)) ∧ Ext w w') := by
  obtain ⟨ao, cx, rfl, hxc, hxm, hxe⟩ := hx
  obtain ⟨bo, cy, rfl, hyc, hym, hye⟩ := hy
  refine calls Try.func37 rfl [(0, .slice ao xs.length cx), (1, .slice bo ys.length cy)] 26 ⟨Nat.le_of_ble_eq_true rfl, Try.ntmps37⟩ (argsOk (Sub.cons rfl (Sub.cons rfl Sub.nil))) ?_
  refine WC.seq (WC.region ?_)
  refine WO.op rfl rfl rfl (R.assign rfl) ?_
  refine WO.nil (WX.next (WC.seq (WC.seq (WC.region ?_))))
  refine WO.op rfl rfl rfl (R.move rfl) ?_
  refine WO.op rfl rfl rfl (R.lenS rfl Try.runUnderlying27 rfl) ?_
  refine WO.op rfl rfl rfl (R.move rfl) ?_
  refine WO.op rfl rfl rfl (R.lenS rfl Try.runUnderlying27 rfl) ?_
  refine WO.op rfl rfl rfl (R.neq rfl rfl) ?_
  refine WO.nil (WX.next ?_)
  refine WC.ite rfl (fun hne => ?_) (fun heq => ?_)
  ·
    refine WC.seq (WC.region ?_)
    refine WO.op rfl rfl rfl (R.assign rfl) ?_
    refine WO.nil (WX.next (WC.ret (WX.thenR ?_)))
    have : ¬ xs = ys := fun h => hne (by rw [h])
    refine WX.ret1 Try.results37 rfl ⟨_, rfl, by rw [decide_eq_false this], Keep.refl _ _⟩
  · have hl : xs.length = ys.length := by omega
    refine WC.skip (WX.next (WC.seq (WC.seq (WC.region ?_))))
    refine WO.op rfl rfl rfl (R.move rfl) ?_
    refine WO.op rfl rfl rfl (R.lenS rfl Try.runUnderlying27 rfl) ?_
    refine WO.op rfl rfl rfl (R.move rfl) ?_
    refine WO.nil (WX.next (WC.block ?_))
    refine WC.loop (σ := Nat) (fun k => [(0, .slice ao xs.length cx), (1, .slice bo ys.length cy), (11, .slice ao xs.length cx), (12, .int .i64 xs.length), (13, .int .i64 k)]) (fun k => fun w' => k ≤ xs.length ∧ xs.take k = ys.take k ∧ Ext w w') (fun k => xs.length - k) (0) (Sub.cons rfl (Sub.cons rfl (Sub.cons rfl (Sub.cons rfl (Sub.cons rfl Sub.nil))))) (⟨Nat.zero_le _, rfl, Keep.refl _ _⟩) ?_
    rintro k w1 ⟨hkl, htk, hk1⟩
    show WC _ _ _ _ [(0, .slice ao xs.length cx), (1, .slice bo ys.length cy), (11, .slice ao xs.length cx), (12, .int .i64 xs.length), (13, .int .i64 k)] _
    refine WC.seq (WC.region ?_)
    refine WO.op rfl rfl rfl (R.lss rfl rfl) ?_
    refine WO.nil (WX.next (WC.seq ?_))
    refine WC.ite rfl (fun hlt => ?_) (fun hge => ?_)
    · obtain ⟨x, hx⟩ : ∃ x, xs[k]? = some x := ⟨_, List.getElem?_eq_getElem (by omega)⟩
      obtain ⟨y, hy⟩ : ∃ y, ys[k]? = some y := ⟨_, List.getElem?_eq_getElem (by omega)⟩
      obtain ⟨b1, o1, c1, hao, _, hcl1, hcs1, rfl⟩ := hxe k x hx
      obtain ⟨b2, o2, c2, hbo, _, hcl2, hcs2, rfl⟩ := hye k y hy
      have hcs1' := hk1.cells hcs1 (fun h => h)
      have hcs2' := hk1.cells hcs2 (fun h => h)
      refine WC.skip (WX.next (WC.seq (WC.block (WC.seq (WC.region ?_)))))
      refine WO.op rfl rfl rfl (R.move rfl) ?_
      refine WO.op rfl rfl rfl (R.assign rfl) ?_
      refine WO.nil (WX.next (WC.seq ?_))
      refine WC.quiet (by kernel_rfl) (by kernel_rfl) ?_
      refine WQ.op rfl rfl rfl (fun w1 hw1 => R.move rfl) ?_
      refine WQ.op rfl rfl rfl (fun w1 hw1 => R.move rfl) ?_
      refine WQ.op rfl rfl rfl (fun w1 hw1 => R.indexS Try.runUnderlying27 Try.sizeOf3 rfl rfl hao (by omega)) ?_
      refine WQ.op rfl rfl rfl (fun w1 hw1 => R.load Try.isAgg3 rfl (hw1.cell (hcs1' 0 _ rfl) (fun h => h))) ?_
      refine WQ.op rfl rfl rfl (fun w1 hw1 => R.move rfl) ?_
      refine WQ.op rfl rfl rfl (fun w1 hw1 => R.move rfl) ?_
      refine WQ.op rfl rfl rfl (fun w1 hw1 => R.indexS Try.runUnderlying27 Try.sizeOf3 rfl rfl hbo (by omega)) ?_
      refine WQ.op rfl rfl rfl (fun w1 hw1 => R.load Try.isAgg3 rfl (hw1.cell (hcs2' 0 _ rfl) (fun h => h))) ?_
      refine WQ.op rfl rfl rfl (fun w1 hw1 => R.neq rfl rfl) ?_
      refine WQ.nil (fun w2 hk2 => ?_)
      refine WX.next ?_
      refine WC.ite rfl (fun hd => ?_) (fun he => ?_)
      · have : ¬ xs = ys := by
          rintro rfl
          rw [hx] at hy
          exact hd (Option.some.inj hy)
        refine WC.seq (WC.region ?_)
        refine WO.op rfl rfl rfl (R.assign rfl) ?_
        refine WO.nil (WX.next (WC.ret (WX.blockR (WX.thenR (WX.thenR (WX.blockR (WX.thenR ?_)))))))
        refine WX.ret1 Try.results37 rfl ⟨_, rfl, by rw [decide_eq_false this], hk1.ext hk2⟩
      · have hxy : x = y := Decidable.not_not.1 he
        refine WC.skip (WX.blockN (WX.next (WC.region ?_)))
        refine WO.op rfl rfl rfl (R.add rfl rfl (wrap_i64_in (by omega))) ?_
        refine WO.op rfl rfl rfl (R.move rfl) ?_
        refine WO.nil ?_
        refine WX.back (k + 1) (Sub.cons rfl (Sub.cons rfl (Sub.cons rfl (Sub.cons rfl (Sub.cons rfl Sub.nil))))) (⟨by omega, ?_, hk1.ext hk2⟩) (by first | omega | (dsimp only; omega))
        obtain ⟨h1, h2⟩ := List.getElem?_eq_some_iff.1 hx
        obtain ⟨h3, h4⟩ := List.getElem?_eq_some_iff.1 hy
        rw [List.take_succ_eq_append_getElem h1, List.take_succ_eq_append_getElem h3, htk, h2, h4, hxy]
    · have hkk : k = xs.length := by omega
      have : xs = ys := by
        rw [hkk, List.take_length] at htk
        rw [hl, List.take_length] at htk
        exact htk
      refine WC.exit (WX.thenE (WX.thenE (WX.hit (WX.next (WC.seq (WC.region ?_))))))
      refine WO.op rfl rfl rfl (R.assign rfl) ?_
      refine WO.nil (WX.next (WC.ret ?_))
      refine WX.ret1 Try.results37 rfl ⟨_, rfl, by rw [decide_eq_true this], hk1⟩

theorem samePairs_ok (xs ys : List (Int × Int)) (u v : Value) (D D' : Nat → Prop) (w : World) (hx : SlR 2 RPair D w u xs) (hy : SlR 2 RPair D' w v ys) : Calls Try.prog 21 #[u, v] w (Ret fun r w' => r = .bool (decide (xs = ys)) ∧ Ext w w') := by
  obtain ⟨ao, cx, rfl, hxc, hxm, hxe⟩ := hx
  obtain ⟨bo, cy, rfl, hyc, hym, hye⟩ := hy
  refine calls Try.func21 rfl [(0, .slice ao xs.length cx), (1, .slice bo ys.length cy)] 26 ⟨Nat.le_of_ble_eq_true rfl, Try.ntmps21⟩ (argsOk (Sub.cons rfl (Sub.cons rfl Sub.nil))) ?_
  refine WC.seq (WC.region ?_)
  refine WO.op rfl rfl rfl (R.assign rfl) ?_
  refine WO.nil (WX.next (WC.seq (WC.seq (WC.region ?_))))
  refine WO.op rfl rfl rfl (R.move rfl) ?_
  refine WO.op rfl rfl rfl (R.lenS rfl Try.runUnderlying22 rfl) ?_
  refine WO.op rfl rfl rfl (R.move rfl) ?_
  refine WO.op rfl rfl rfl (R.lenS rfl Try.runUnderlying22 rfl) ?_
  refine WO.op rfl rfl rfl (R.neq rfl rfl) ?_
  refine WO.nil (WX.next ?_)
  refine WC.ite rfl (fun hne => ?_) (fun heq => ?_)
  ·
    refine WC.seq (WC.region ?_)
    refine WO.op rfl rfl rfl (R.assign rfl) ?_
    refine WO.nil (WX.next (WC.ret (WX.thenR ?_)))
    have : ¬ xs = ys := fun h => hne (by rw [h])
    refine WX.ret1 Try.results21 rfl ⟨_, rfl, by rw [decide_eq_false this], Keep.refl _ _⟩
  · have hl : xs.length = ys.length := by omega
    refine WC.skip (WX.next (WC.seq (WC.seq (WC.region ?_))))
    refine WO.op rfl rfl rfl (R.move rfl) ?_
    refine WO.op rfl rfl rfl (R.lenS rfl Try.runUnderlying22 rfl) ?_
    refine WO.op rfl rfl rfl (R.move rfl) ?_
    refine WO.nil (WX.next (WC.block ?_))
    refine WC.loop (σ := Nat) (fun k => [(0, .slice ao xs.length cx), (1, .slice bo ys.length cy), (11, .slice ao xs.length cx), (12, .int .i64 xs.length), (13, .int .i64 k)]) (fun k => fun w' => k ≤ xs.length ∧ xs.take k = ys.take k ∧ Ext w w') (fun k => xs.length - k) (0) (Sub.cons rfl (Sub.cons rfl (Sub.cons rfl (Sub.cons rfl (Sub.cons rfl Sub.nil))))) (⟨Nat.zero_le _, rfl, Keep.refl _ _⟩) ?_
    rintro k w1 ⟨hkl, htk, hk1⟩
    show WC _ _ _ _ [(0, .slice ao xs.length cx), (1, .slice bo ys.length cy), (11, .slice ao xs.length cx), (12, .int .i64 xs.length), (13, .int .i64 k)] _
    refine WC.seq (WC.region ?_)
    refine WO.op rfl rfl rfl (R.lss rfl rfl) ?_
    refine WO.nil (WX.next (WC.seq ?_))
    refine WC.ite rfl (fun hlt => ?_) (fun hge => ?_)
    · obtain ⟨x, hx⟩ : ∃ x, xs[k]? = some x := ⟨_, List.getElem?_eq_getElem (by omega)⟩
      obtain ⟨y, hy⟩ : ∃ y, ys[k]? = some y := ⟨_, List.getElem?_eq_getElem (by omega)⟩
      obtain ⟨b1, o1, c1, hao, _, hcl1, hcs1, rfl⟩ := hxe k x hx
      obtain ⟨b2, o2, c2, hbo, _, hcl2, hcs2, rfl⟩ := hye k y hy
      have hcs1' := hk1.cells hcs1 (fun h => h)
      have hcs2' := hk1.cells hcs2 (fun h => h)
      refine WC.skip (WX.next (WC.seq (WC.block (WC.seq (WC.region ?_)))))
      refine WO.op rfl rfl rfl (R.move rfl) ?_
      refine WO.op rfl rfl rfl (R.assign rfl) ?_
      refine WO.nil (WX.next (WC.seq ?_))
      refine WC.quiet (by kernel_rfl) (by kernel_rfl) ?_
      refine WQ.op rfl rfl rfl (fun w1 hw1 => R.move rfl) ?_
      refine WQ.op rfl rfl rfl (fun w1 hw1 => R.move rfl) ?_
      refine WQ.op rfl rfl rfl (fun w1 hw1 => R.indexS Try.runUnderlying22 Try.sizeOf49 rfl rfl hao (by omega)) ?_
      refine WQ.op rfl rfl rfl (fun w1 hw1 => R.loadK Try.isAgg49 Try.sizeOf49 rfl (by rfl) (hw1.cells hcs1' (fun h => h))) ?_
      refine WQ.op rfl rfl rfl (fun w1 hw1 => R.move rfl) ?_
      refine WQ.op rfl rfl rfl (fun w1 hw1 => R.move rfl) ?_
      refine WQ.op rfl rfl rfl (fun w1 hw1 => R.indexS Try.runUnderlying22 Try.sizeOf49 rfl rfl hbo (by omega)) ?_
      refine WQ.op rfl rfl rfl (fun w1 hw1 => R.loadK Try.isAgg49 Try.sizeOf49 rfl (by rfl) (hw1.cells hcs2' (fun h => h))) ?_
      refine WQ.op rfl rfl rfl (fun w1 hw1 => R.neP Try.underlying49 Try.underlying3 (by kernel_rfl) (by kernel_rfl) Try.isAgg3 (by kernel_rfl) rfl rfl) ?_
      refine WQ.nil (fun w2 hk2 => ?_)
      refine WX.next ?_
      refine WC.ite rfl (fun hd => ?_) (fun he => ?_)
      · have : ¬ xs = ys := by
          rintro rfl
          rw [hx] at hy
          exact hd (Option.some.inj hy)
        refine WC.seq (WC.region ?_)
        refine WO.op rfl rfl rfl (R.assign rfl) ?_
        refine WO.nil (WX.next (WC.ret (WX.blockR (WX.thenR (WX.thenR (WX.blockR (WX.thenR ?_)))))))
        refine WX.ret1 Try.results21 rfl ⟨_, rfl, by rw [decide_eq_false this], hk1.ext hk2⟩
      · have hxy : x = y := Decidable.not_not.1 he
        refine WC.skip (WX.blockN (WX.next (WC.region ?_)))
        refine WO.op rfl rfl rfl (R.add rfl rfl (wrap_i64_in (by omega))) ?_
        refine WO.op rfl rfl rfl (R.move rfl) ?_
        refine WO.nil ?_
        refine WX.back (k + 1) (Sub.cons rfl (Sub.cons rfl (Sub.cons rfl (Sub.cons rfl (Sub.cons rfl Sub.nil))))) (⟨by omega, ?_, hk1.ext hk2⟩) (by first | omega | (dsimp only; omega))
        obtain ⟨h1, h2⟩ := List.getElem?_eq_some_iff.1 hx
        obtain ⟨h3, h4⟩ := List.getElem?_eq_some_iff.1 hy
        rw [List.take_succ_eq_append_getElem h1, List.take_succ_eq_append_getElem h3, htk, h2, h4, hxy]
    · have hkk : k = xs.length := by omega
      have : xs = ys := by
        rw [hkk, List.take_length] at htk
        rw [hl, List.take_length] at htk
        exact htk
      refine WC.exit (WX.thenE (WX.thenE (WX.hit (WX.next (WC.seq (WC.region ?_))))))
      refine WO.op rfl rfl rfl (R.assign rfl) ?_
      refine WO.nil (WX.next (WC.ret ?_))
      refine WX.ret1 Try.results21 rfl ⟨_, rfl, by rw [decide_eq_true this], hk1⟩

theorem sorted_world1 {w : World} {b : Nat} {l : List Int} {sp : List Value} {e : TypeId} (hb : Blk w b (l.map (.int .i64) ++ sp) e) (d : List Int) (hs : d.length = l.length) (m : Nat) (os : Array Obj) :
    Blk (Go.Sort.grow (Go.Sort.putRow (Value.int .i64) (Go.Sort.ahead w m) b 0 d.toArray) os) b (d.map (.int .i64) ++ sp) e ∧ Keep (fun q => q = b) w (Go.Sort.grow (Go.Sort.putRow (Value.int .i64) (Go.Sort.ahead w m) b 0 d.toArray) os) := by
  have hblk := hb.lt
  have hsz : (Go.Sort.putRow (Value.int .i64) (Go.Sort.ahead w m) b 0 d.toArray).heap.size = w.heap.size := by simp [Go.Sort.ahead]
  have hat : ∀ i, i < w.heap.size → (Go.Sort.grow (Go.Sort.putRow (Value.int .i64) (Go.Sort.ahead w m) b 0 d.toArray) os).heap[i]? = (Go.Sort.putRow (Value.int .i64) (Go.Sort.ahead w m) b 0 d.toArray).heap[i]? := by
    intro i hi
    show ((Go.Sort.putRow (Value.int .i64) (Go.Sort.ahead w m) b 0 d.toArray).heap ++ os)[i]? = _
    rw [Array.getElem?_append_left (by rw [hsz]; exact hi)]
  refine ⟨?_, rfl, rfl, rfl, Nat.le_add_right _ _, ?_, ?_⟩
  · unfold Blk at *
    rw [hat b hblk]
    show (w.heap.modify b _)[b]? = _
    rw [Array.getElem?_modify, if_pos rfl, hb]
    simp only [Option.map_some, Go.Sort.onCells]
    congr 2
    apply Array.ext_getElem?
    intro j
    simp only [Go.Sort.putCells, Array.getElem?_mapIdx, List.getElem?_toArray]
    by_cases hj : j < d.length
    · rw [List.getElem?_append_left (by simpa [← hs] using hj), List.getElem?_append_left (by simpa using hj)]
      rw [List.getElem?_eq_getElem (by simpa [← hs] using hj)]
      simp [hj]
    · rw [List.getElem?_append_right (by simp; omega), List.getElem?_append_right (by simp; omega)]
      have hj' : ¬ j < l.length := by omega
      simp [hs, hj']
  · show w.heap.size ≤ ((Go.Sort.putRow (Value.int .i64) (Go.Sort.ahead w m) b 0 d.toArray).heap ++ os).size
    rw [Array.size_append, hsz]; omega
  · intro i hi hne
    rw [hat i hi]
    show (w.heap.modify b _)[i]? = _
    rw [Array.getElem?_modify, if_neg (fun h => hne h.symm)]

def sortL (l : List Int) : List Int := l.mergeSort fun x y => decide (x ≤ y)
theorem sortL_mem (l : List Int) (x : Int) : x ∈ sortL l ↔ x ∈ l := List.mem_mergeSort
theorem sortL_len (l : List Int) : (sortL l).length = l.length := List.length_mergeSort _
theorem sortL_sorted (l : List Int) : (sortL l).Pairwise (· ≤ ·) := by
  have := List.pairwise_mergeSort (le := fun x y : Int => decide (x ≤ y)) (by intro a b c; simp; omega) (by intro a b; simp; omega) l
  exact this.imp (by intro a b h; simpa using h)

theorem sortI_ok (l : List Int) (v : Value) (n : Nat) (w : World) (hown : w.ownsRow 0 3 1 v n (l.map (.int .i64))) (hlen : l.length ≤ 1048576) : Calls Try.prog 41 #[v] w (Ret fun u w' => u = .tuple #[] ∧ w'.ownsRow 0 3 1 v n ((sortL l).map (.int .i64)) ∧ Keep (fun q => v.ownBlock = some q) w w') := by
  have hn := own_len1 hown
  subst hn
  by_cases h0 : l = []
  · subst h0
    obtain ⟨ao, c, rfl⟩ := own_form hown
    refine (Try.slices_Sort_int_none ao c w).mono ?_
    rintro e w' ⟨rfl, rfl⟩
    exact ⟨_, rfl, rfl, by simpa [sortL] using hown, Keep.refl _ _⟩
  obtain ⟨g, cap, sp, rfl, _, hnc, hcm, hB, hcl⟩ := own_open1 hown h0
  have hH : Go.Sort.Holds (Value.int .i64) w g 0 l.toArray := by
    intro j hj
    have hj' : j < l.length := by simpa using hj
    refine ⟨?_, hB.frozen⟩
    refine hB.cells j _ ?_
    rw [List.getElem?_append_left (by simpa using hj'), List.getElem?_map, List.getElem?_eq_getElem hj']
    simp [hj']
  refine (Try.slices_Sort_int g 0 cap l w hH hB.lt (by omega)).mono ?_
  rintro e w' ⟨rfl, q, os, rfl⟩
  have hw := sorted_world1 hB (sortL l) (sortL_len l) q os
  refine ⟨_, rfl, rfl, ?_, hw.2.mono (fun q _ h => by rw [h]; rfl)⟩
  have := own_shut1 hw.1 (cap := cap) (by rw [← hcl]; simp [sortL_len]) hcm
  rw [sortL_len] at this
  exact this
end Go.Proofs.Yteilalejfphkgaa
