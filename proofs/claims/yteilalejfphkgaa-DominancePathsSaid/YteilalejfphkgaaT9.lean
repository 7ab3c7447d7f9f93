/-
  dominance: prepare. Contract; nothing here is a claim.
-/
import Derived.Test.YteilalejfphkgaaT8
import Derived.Test.YteilalejfphkgaaDraw2
namespace Go.GL
theorem SlR.bnd {α : Type} {k : Nat} {R : Rel α} {D : Nat → Prop} {w : World} {v : Value} {l : List α} (hk : 0 < k) (hR : ∀ x cs, R D w x cs → R (fun b => D b ∧ b < w.heap.size) w x cs) (h : SlR k R D w v l) : SlR k R (fun b => D b ∧ b < w.heap.size) w v l := by
  obtain ⟨ao, c, rfl, h1, h2, h3⟩ := h
  refine ⟨ao, c, rfl, h1, h2, fun i x hx => ?_⟩
  obtain ⟨b, o, cs, h4, h5, h6, h7, h8⟩ := h3 i x hx
  refine ⟨b, o, cs, h4, ⟨h5, ?_⟩, h6, h7, hR x cs h8⟩
  have h9 := h7 0 cs[0] (List.getElem?_eq_getElem (by omega))
  exact World.block_lt_of_cell? w _ h9
end Go.GL
namespace Go.Proofs.Yteilalejfphkgaa
open Go.GL Go.GL.Dom Go.GL.Dfs

/-- What prepare leaves. -/
structure Prep (B : Nat) (w : World) (n root : Nat) (es : List (Int × Int)) (bw : Nat) (Rw Pw : List (List Int)) (order : List Nat) (pl T : List Int) (nv bv ov : Value) (bp bt : Nat) : Prop where
  hn : n ≤ 4096
  hroot : root < n
  rows : Dfs.Rows Rw
  succ : Succs n es Rw
  back : BackRows Rw Pw
  ord : Dfs.Order Rw root order
  place : Dfs.Place n order pl
  sol : Solved Rw root n pl T
  hw : Blk w bw [nv, bv, ov, .slice (some ⟨bp, 0, none⟩) n n, .slice (some ⟨bt, 0, none⟩) n n] 58
  hnv : SlR 1 (RSl 1 RInt) (fun b => B ≤ b) w nv Rw
  hbv : SlR 1 (RSl 1 RInt) (fun b => B ≤ b) w bv Pw
  hov : w.ownsRow 0 3 1 ov order.length (order.map encN)
  hog : ∀ g, ov.ownBlock = some g → B ≤ g
  hP : Blk w bp (pl.map (.int .i64)) 3
  hT : Blk w bt (T.map (.int .i64)) 3
  ge : B ≤ bw ∧ B ≤ bp ∧ B ≤ bt

def codeOf (n : Int) (es : List (Int × Int)) (root : Int) : Int := if Gr.check n es ≠ 0 then Gr.check n es else if root < 0 ∨ n ≤ root then 3 else 0

theorem succ_rows {n : Nat} {es : List (Int × Int)} {Rw : List (List Int)} (h : Succs n es Rw) (hc : es.all (Gr.okE n) = true) : Dfs.Rows Rw := by
  refine ⟨fun a r hr y hy => ?_⟩
  have h1 := (h.mem a r hr y).1 hy
  have h2 := List.all_eq_true.1 hc _ h1
  simp [Gr.okE] at h2
  refine ⟨y.toNat, by omega, ?_⟩
  rw [h.len]; omega

/-- The predecessors that have been noted: of the rows before a all, of row a the first j. -/
structure Half (Rw : List (List Int)) (a j : Nat) (rows : List (List Int)) : Prop where
  len : rows.length = Rw.length
  mem : ∀ (b : Nat) r, rows[b]? = some r → ∀ y : Int, y ∈ r ↔ ∃ c : Nat, y = (c : Int) ∧ ((c < a ∧ Dfs.Edge Rw c b) ∨ (c = a ∧ ∃ r', Rw[a]? = some r' ∧ (b : Int) ∈ r'.take j))
  short : ∀ (b : Nat) r, rows[b]? = some r → r.length ≤ a + 1 ∧ ((∀ ra, Rw[a]? = some ra → (b : Int) ∉ ra.take j) → r.length ≤ a)

theorem Half.start (Rw : List (List Int)) : Half Rw 0 0 (List.replicate Rw.length []) := by
  refine ⟨by simp, fun b r hr y => ?_, fun b r hr => ?_⟩
  · have : r = [] := List.eq_of_mem_replicate (List.mem_of_getElem? hr)
    subst this
    simp
  · have : r = [] := List.eq_of_mem_replicate (List.mem_of_getElem? hr)
    subst this
    simp
theorem Half.next {Rw rows : List (List Int)} {a : Nat} {ra : List Int} (h : Half Rw a ra.length rows) (hra : Rw[a]? = some ra) : Half Rw (a + 1) 0 rows := by
  refine ⟨h.len, fun b r hr y => ?_, fun b r hr => ?_⟩
  · rw [h.mem b r hr y]
    constructor
    · rintro ⟨c, rfl, h1 | ⟨rfl, r', h2, h3⟩⟩
      · exact ⟨c, rfl, .inl ⟨by omega, h1.2⟩⟩
      · rw [hra] at h2
        cases h2
        rw [List.take_length] at h3
        exact ⟨c, rfl, .inl ⟨by omega, ra, hra, h3⟩⟩
    · rintro ⟨c, rfl, ⟨h1, h2⟩ | ⟨_, r', _, h3⟩⟩
      · by_cases e : c = a
        · subst e
          obtain ⟨r', h3, h4⟩ := h2
          rw [hra] at h3
          cases h3
          exact ⟨c, rfl, .inr ⟨rfl, ra, hra, by rw [List.take_length]; exact h4⟩⟩
        · exact ⟨c, rfl, .inl ⟨by omega, h2⟩⟩
      · simp at h3
  · have h5 := h.short b r hr
    exact ⟨by omega, fun _ => h5.1⟩
theorem Half.push {Rw rows : List (List Int)} {a j : Nat} {ra r : List Int} {b : Nat} (h : Half Rw a j rows) (hra : Rw[a]? = some ra) (hj : ra[j]? = some (b : Int)) (hs : ra.Pairwise (· < ·)) (hr : rows[b]? = some r) : Half Rw a (j + 1) (rows.set b (r ++ [(a : Int)])) := by
  obtain ⟨hjl, hje⟩ := List.getElem?_eq_some_iff.1 hj
  have htk : ∀ y, y ∈ ra.take (j + 1) ↔ y ∈ ra.take j ∨ y = (b : Int) := by
    intro y
    rw [List.take_succ_eq_append_getElem hjl, List.mem_append, List.mem_singleton, hje]
  refine ⟨by rw [List.length_set]; exact h.len, fun d q hq y => ?_, fun d q hq => ?_⟩
  · by_cases e : b = d
    · subst e
      rw [List.getElem?_set_self (List.getElem?_eq_some_iff.1 hr).1] at hq
      cases hq
      rw [List.mem_append, List.mem_singleton, h.mem b r hr y]
      constructor
      · rintro (⟨c, rfl, h1 | ⟨rfl, r', h2, h3⟩⟩ | rfl)
        · exact ⟨c, rfl, .inl h1⟩
        · rw [hra] at h2; cases h2
          exact ⟨c, rfl, .inr ⟨rfl, ra, hra, (htk _).2 (.inl h3)⟩⟩
        · exact ⟨a, rfl, .inr ⟨rfl, ra, hra, (htk _).2 (.inr rfl)⟩⟩
      · rintro ⟨c, rfl, h1 | ⟨rfl, r', h2, h3⟩⟩
        · exact .inl ⟨c, rfl, .inl h1⟩
        · exact .inr rfl
    · rw [List.getElem?_set_ne e] at hq
      rw [h.mem d q hq y]
      constructor
      · rintro ⟨c, rfl, h1 | ⟨rfl, r', h2, h3⟩⟩
        · exact ⟨c, rfl, .inl h1⟩
        · rw [hra] at h2; cases h2
          exact ⟨c, rfl, .inr ⟨rfl, ra, hra, (htk _).2 (.inl h3)⟩⟩
      · rintro ⟨c, rfl, h1 | ⟨rfl, r', h2, h3⟩⟩
        · exact ⟨c, rfl, .inl h1⟩
        · rw [hra] at h2; cases h2
          rcases (htk _).1 h3 with h4 | h4
          · exact ⟨c, rfl, .inr ⟨rfl, ra, hra, h4⟩⟩
          · exact absurd (Int.ofNat.inj h4).symm e
  · by_cases e : b = d
    · subst e
      rw [List.getElem?_set_self (List.getElem?_eq_some_iff.1 hr).1] at hq
      cases hq
      have h5 := (h.short b r hr).2 (fun ra' h6 h7 => by
        rw [hra] at h6
        cases h6
        obtain ⟨k, hk, hk2⟩ := List.mem_iff_getElem.1 h7
        rw [List.length_take] at hk
        rw [List.getElem_take] at hk2
        have := List.pairwise_iff_getElem.1 hs k j (by omega) hjl (by omega)
        omega)
      rw [List.length_append, List.length_singleton]
      refine ⟨by omega, fun h6 => absurd ((htk _).2 (.inr rfl)) (h6 ra hra)⟩
    · rw [List.getElem?_set_ne e] at hq
      have h5 := h.short d q hq
      refine ⟨h5.1, fun h6 => h5.2 (fun ra' h7 h8 => ?_)⟩
      rw [hra] at h7
      cases h7
      exact h6 ra hra ((htk _).2 (.inl h8))
theorem Half.back {Rw rows : List (List Int)} (h : Half Rw Rw.length 0 rows) : BackRows Rw rows := by
  refine ⟨h.len, fun b r hr y => ?_, fun b r hr => (h.short b r hr).2 (fun ra _ => by simp)⟩
  rw [h.mem b r hr y]
  constructor
  · rintro ⟨c, rfl, ⟨_, h1⟩ | ⟨_, r', _, h3⟩⟩
    · exact ⟨c, rfl, h1⟩
    · simp at h3
  · rintro ⟨c, rfl, h1⟩
    obtain ⟨r', h2, h3⟩ := h1
    exact ⟨c, rfl, .inl ⟨(List.getElem?_eq_some_iff.1 h2).1, r', h2, h3⟩⟩

theorem prepare_ok (n root : Int) (es : List (Int × Int)) (ev : Value) (D : Nat → Prop) (w : World) (hes : SlR 2 RPair D w ev es) : Calls Try.prog 28 #[.agg #[.int .i64 n, ev], .int .i64 root] w (Ret fun v w' => ∃ u, v = .tuple #[u, .int .i64 (codeOf n es root)] ∧ (codeOf n es root ≠ 0 → u = .pointer none) ∧ (codeOf n es root = 0 → ∃ bw Rw Pw order pl T nv bv ov bp bt, u = .pointer (some ⟨bw, 0, none⟩) ∧ Prep w.heap.size w' n.toNat root.toNat es bw Rw Pw order pl T nv bv ov bp bt) ∧ Ext w w') := by
  have hes' := hes
  obtain ⟨ao, cap, rfl, _⟩ := hes'
  refine calls Try.func28 rfl [(0, .agg #[.int .i64 n, .slice ao es.length cap]), (1, .int .i64 root)] 78 ⟨Nat.le_of_ble_eq_true rfl, Try.ntmps28⟩ (argsOk (Sub.cons rfl (Sub.cons rfl Sub.nil))) ?_
  refine WC.seq (WC.region ?_)
  refine WO.mem rfl rfl rfl (M.box rfl rfl) ?_
  rintro _ w1 ⟨b, rfl, hb, hs1, hB1, hk1⟩
  refine WO.op rfl rfl rfl (R.assign rfl) ?_
  refine WO.op rfl rfl rfl (R.assign rfl) ?_
  refine WO.nil (WX.next (WC.seq (WC.region ?_)))
  refine WO.op rfl rfl rfl (R.loadK Try.isAgg24 Try.sizeOf24 rfl (by rfl) hB1.cells) ?_
  refine WO.call rfl rfl rfl (F.call (vs := [_]) Try.call42 rfl) (successors_ok n es _ D w1 (hes.ext stable_pair hk1)) ?_
  rintro _ w2 ⟨u, rfl, hu0, hu1, hk2⟩
  have hE2 := hk1.ext hk2
  have hB2 := hk2.blk hB1 (fun h => h)
  refine WO.op rfl rfl rfl (R.move rfl) ?_
  refine WO.op rfl rfl rfl (R.extract rfl rfl) ?_
  refine WO.op rfl rfl rfl (R.extract rfl rfl) ?_
  refine WO.op rfl rfl rfl (R.assign rfl) ?_
  refine WO.op rfl rfl rfl (R.assign rfl) ?_
  refine WO.nil (WX.next (WC.seq (WC.seq (WC.region ?_))))
  refine WO.op rfl rfl rfl (R.move rfl) ?_
  refine WO.op rfl rfl rfl (R.neq rfl rfl) ?_
  refine WO.nil (WX.next ?_)
  refine WC.ite rfl (fun hc => ?_) (fun hc => ?_)
  · have hcode : codeOf n es root = Gr.check n es := by unfold codeOf; rw [if_pos hc]
    refine WC.seq (WC.region ?_)
    refine WO.op rfl rfl rfl (R.move rfl) ?_
    refine WO.op rfl rfl rfl (R.assign rfl) ?_
    refine WO.op rfl rfl rfl (R.assign rfl) ?_
    refine WO.nil (WX.next (WC.ret (WX.thenR ?_)))
    refine WX.ret2 Try.results28 rfl rfl ⟨_, rfl, .pointer none, by rw [hcode]; rfl, fun _ => rfl, fun h => absurd (hcode ▸ h) hc, hE2⟩
  · have hc0 : Gr.check n es = 0 := by simpa using hc
    obtain ⟨h1, h2, h3, h4⟩ := Gr.check_zero hc0
    obtain ⟨m, rfl⟩ := Int.eq_ofNat_of_zero_le h1
    refine WC.skip (WX.next (WC.seq (WC.seq (WC.region ?_))))
    refine WO.op rfl rfl rfl (R.move rfl) ?_
    refine WO.op rfl rfl rfl (R.lss rfl rfl) ?_
    refine WO.op rfl rfl rfl (R.move rfl) ?_
    refine WO.cases (p := root < 0) (fun hr0 => ?_) (fun hr0 => ?_)
    · have hcode : codeOf m es root = 3 := by unfold codeOf; rw [if_neg (by simpa using hc0), if_pos (.inl hr0)]
      refine WO.no rfl rfl (decide_eq_true hr0) rfl ?_
      refine WO.no rfl rfl (decide_eq_true hr0) rfl ?_
      refine WO.no rfl rfl (decide_eq_true hr0) rfl ?_
      refine WO.no rfl rfl (decide_eq_true hr0) rfl ?_
      refine WO.op rfl rfl rfl (R.pickT rfl (decide_eq_true hr0) rfl) ?_
      refine WO.nil (WX.next ?_)
      refine WC.tt rfl (rfl) ?_
      refine WC.seq (WC.region ?_)
      refine WO.op rfl rfl rfl (R.assign rfl) ?_
      refine WO.op rfl rfl rfl (R.assign rfl) ?_
      refine WO.nil (WX.next (WC.ret (WX.thenR ?_)))
      refine WX.ret2 Try.results28 rfl rfl ⟨_, rfl, .pointer none, by rw [hcode], fun _ => rfl, fun h => by rw [hcode] at h; exact absurd h (by decide), hE2⟩
    ·
      refine WO.yes rfl rfl (decide_eq_false hr0) ?_
      refine WO.op rfl rfl rfl (R.move rfl) ?_
      refine WO.yes rfl rfl (decide_eq_false hr0) ?_
      refine WO.op rfl rfl rfl (R.fieldAddr Try.runUnderlying24 rfl Try.sizeOf3 rfl) ?_
      refine WO.yes rfl rfl (decide_eq_false hr0) ?_
      refine WO.op rfl rfl rfl (R.load Try.isAgg3 rfl (hB2.cells 0 _ rfl)) ?_
      refine WO.yes rfl rfl (decide_eq_false hr0) ?_
      refine WO.op rfl rfl rfl (R.geq rfl rfl) ?_
      refine WO.op rfl rfl rfl (R.pickF rfl (decide_eq_false hr0) rfl) ?_
      refine WO.nil (WX.next ?_)
      refine WC.ite rfl (fun hr1 => ?_) (fun hr1 => ?_)
      · have hcode : codeOf m es root = 3 := by unfold codeOf; rw [if_neg (by simpa using hc0), if_pos (.inr (by omega))]
        refine WC.seq (WC.region ?_)
        refine WO.op rfl rfl rfl (R.assign rfl) ?_
        refine WO.op rfl rfl rfl (R.assign rfl) ?_
        refine WO.nil (WX.next (WC.ret (WX.thenR ?_)))
        refine WX.ret2 Try.results28 rfl rfl ⟨_, rfl, .pointer none, by rw [hcode], fun _ => rfl, fun h => by rw [hcode] at h; exact absurd h (by decide), hE2⟩
      · have hcode : codeOf m es root = 0 := by unfold codeOf; rw [if_neg (by simpa using hc0), if_neg (by omega)]
        obtain ⟨rt, rfl⟩ := Int.eq_ofNat_of_zero_le (by omega : 0 ≤ root)
        obtain ⟨Rw, hR, hu⟩ := hu1 hc0
        simp only [Int.toNat_natCast] at hR
        have hRows := succ_rows hR h4
        have hu' := hu
        obtain ⟨an, cn, rfl, hnl, hnm, hnel⟩ := hu'
        have hRl := hR.len
        have hmm : m ≤ 4096 := by omega
        refine WC.skip (WX.next (WC.seq ?_))
        refine WC.draw (fun w' => Blk w' b [.int .i64 m, .slice ao es.length cap] 24) [] (by kernel_rfl) (fun w3 hE3 hh3 => ?_)
        have hB3 := hE3.blk hB2 (fun h => h)
        refine WD.takeW 0 rfl (by kernel_rfl) rfl rfl rfl (fun w1 => R.move rfl) ?_
        refine WD.takeW 1 rfl (by kernel_rfl) rfl rfl rfl (fun w1 => R.fieldAddr Try.runUnderlying24 rfl Try.sizeOf3 rfl) ?_
        refine WD.take 2 rfl (by kernel_rfl) rfl rfl rfl hB3 (fun w1 hw1 => R.load Try.isAgg3 rfl (hw1.cells 0 _ rfl)) ?_
        refine WD.takeW 4 rfl (by kernel_rfl) rfl rfl rfl (fun w1 => R.fieldAddr Try.runUnderlying24 rfl Try.sizeOf3 rfl) ?_
        refine WD.take 5 rfl (by kernel_rfl) rfl rfl rfl hB3 (fun w1 hw1 => R.load Try.isAgg3 rfl (hw1.cells 0 _ rfl)) ?_
        refine WD.takeW 7 rfl (by kernel_rfl) rfl rfl rfl (fun w1 => R.fieldAddr Try.runUnderlying24 rfl Try.sizeOf3 rfl) ?_
        refine WD.take 8 rfl (by kernel_rfl) rfl rfl rfl hB3 (fun w1 hw1 => R.load Try.isAgg3 rfl (hw1.cells 0 _ rfl)) ?_
        refine WD.tri (Ri := fun w v w' => ∃ b, v = .slice (some ⟨b, 0, none⟩) m m ∧ New w (List.replicate m (.slice none 0 0)) 27 b w') (Rj := fun w v w' => ∃ b, v = .slice (some ⟨b, 0, none⟩) m m ∧ w.heap.size ≤ b ∧ Blk w' b (List.replicate m (.int .i64 (-1))) 3 ∧ Ext w w') (Rk := fun w v w' => ∃ b, v = .slice (some ⟨b, 0, none⟩) m m ∧ w.heap.size ≤ b ∧ Blk w' b (List.replicate m (.int .i64 (-1))) 3 ∧ Ext w w') 3 6 9 rfl rfl rfl (by kernel_rfl) (by kernel_rfl) (by kernel_rfl) (by kernel_rfl) (by kernel_rfl) (by kernel_rfl) rfl rfl rfl rfl rfl rfl rfl rfl rfl rfl rfl rfl rfl rfl rfl rfl rfl rfl (fun w' hw' => hw'.blk hB3 (fun h => h)) (fun w' hw' => ?_) (fun w' hw' => ?_) (fun w' hw' => ?_) ?_ ?_ ?_ ?_
        · exact .of (M.make Try.underlying35 Try.el27 rfl rfl (by omega) (by omega) (madeNil m))
        · exact .call (F.call (vs := [_]) Try.call43 rfl) (filled_ok m (by omega) w')
        · exact .call (F.call (vs := [_]) Try.call43 rfl) (filled_ok m (by omega) w')
        · rintro a v a' ⟨b, rfl, hN⟩
          exact ⟨hN.2.2.2, b, rfl, by have := hN.1; omega, by have := hN.1; have := hN.2.1; omega⟩
        · rintro a v a' ⟨b, rfl, hN, hB, hk⟩
          exact ⟨hk, b, rfl, hN, hB.lt⟩
        · rintro a v a' ⟨b, rfl, hN, hB, hk⟩
          exact ⟨hk, b, rfl, hN, hB.lt⟩
        rintro _ _ _ w4 hk4 ⟨a1, a1', k1, ⟨bo, rfl, hN1⟩, k1'⟩ ⟨a2, a2', k2, ⟨bp, rfl, hn2, hBp, k2''⟩, k2'⟩ ⟨a3, a3', k3, ⟨bt, rfl, hn3, hBt, k3''⟩, k3'⟩ hd1 hd2 hd3
        have hBo4 := k1'.blk hN1.2.2.1 (fun h => h)
        have hBp4 := k2'.blk hBp (fun h => h)
        have hBt4 := k3'.blk hBt (fun h => h)
        have hop : bo ≠ bp := fun h => hd1 (by rw [h])
        have hot : bo ≠ bt := fun h => hd2 (by rw [h])
        have hpt : bp ≠ bt := fun h => hd3 (by rw [h])
        have hgo : w3.heap.size ≤ bo := by have := hN1.1; have := k1.size; omega
        have hgp : w3.heap.size ≤ bp := by have := k2.size; omega
        have hgt : w3.heap.size ≤ bt := by have := k3.size; omega
        refine WD.takeW 10 rfl (by kernel_rfl) rfl rfl rfl (fun w1 => R.build (v := .agg #[.slice an Rw.length cn, .slice (some ⟨bo, 0, none⟩) m m, .slice none 0 0, .slice (some ⟨bp, 0, none⟩) m m, .slice (some ⟨bt, 0, none⟩) m m]) [(0, _), (1, _), (3, _), (4, _)] rfl (fun _ => by kernel_rfl)) ?_
        refine WD.mem 11 rfl (by kernel_rfl) rfl rfl rfl (M.box rfl rfl) ?_
        rintro _ w5 ⟨bw, rfl, hbw, hs5, hBw, hk5⟩
        refine ⟨fun _ => (hk4.ext hk5).blk hB3 (fun h => h), ?_⟩
        refine WD.takeW 12 rfl (by kernel_rfl) rfl rfl rfl (fun w1 => R.assign rfl) ?_
        refine WD.done (by kernel_rfl) ?_ _
        refine WX.next (WC.seq (WC.seq (WC.region ?_)))
        refine WO.op rfl rfl rfl (R.move rfl) ?_
        refine WO.op rfl rfl rfl (R.lenS rfl Try.runUnderlying35 rfl) ?_
        refine WO.op rfl rfl rfl (R.move rfl) ?_
        refine WO.nil (WX.next (WC.block ?_))
        have hs24 := hE3.size
        have hs34 := hk4.size
        have hE5 : Ext w3 w5 := hk4.ext hk5
        have hM5 : Mat (Value.int .i64) 3 27 w5.heap.size w5 bo (List.replicate m (.slice none 0 0)) (List.replicate Rw.length ([] : List Int)) := by
          rw [hRl]
          exact Mat.start (hk5.blk hBo4 (fun h => h))
        have hbwo : bw ≠ bo := by have := hBo4.lt; omega
        have hbo5 : bo < w5.heap.size := by have := hBo4.lt; omega
        refine WC.loop (σ := Nat × List Value × List (List Int)) (fun ⟨a, rv, rows⟩ => [(8, .pointer (some ⟨bw, 0, none⟩)), (1, .int .i64 rt), (41, .slice an Rw.length cn), (42, .int .i64 Rw.length), (43, .int .i64 a)]) (fun ⟨a, rv, rows⟩ => fun w' => a ≤ Rw.length ∧ Half Rw a 0 rows ∧ Mat (Value.int .i64) 3 27 w5.heap.size w' bo rv rows ∧ Keep (fun q => q = bo) w5 w') (fun ⟨a, rv, rows⟩ => Rw.length - a) ((0, List.replicate m (.slice none 0 0), List.replicate Rw.length [])) (Sub.cons rfl (Sub.cons rfl (Sub.cons rfl (Sub.cons rfl (Sub.cons rfl Sub.nil))))) (⟨Nat.zero_le _, Half.start Rw, hM5, Keep.refl _ _⟩) ?_
        rintro ⟨a, rv, rows⟩ w6 ⟨han, hH, hM, hk6⟩
        show WC _ _ _ _ [(8, .pointer (some ⟨bw, 0, none⟩)), (1, .int .i64 rt), (41, .slice an Rw.length cn), (42, .int .i64 Rw.length), (43, .int .i64 a)] _
        refine WC.seq (WC.region ?_)
        refine WO.op rfl rfl rfl (R.lss rfl rfl) ?_
        refine WO.nil (WX.next (WC.seq ?_))
        refine WC.ite rfl (fun hlt => ?_) (fun hge => ?_)
        · obtain ⟨r, hr⟩ : ∃ r, Rw[a]? = some r := ⟨_, List.getElem?_eq_getElem (by omega)⟩
          obtain ⟨b1, o1, cs1, hnao, hDb1, hcsl, hcs, hRs⟩ := hnel a r hr
          obtain ⟨rv1, rfl, ra, rc, rfl, hrlc, hrcm, hrel⟩ := hRs
          have hcs6 := (hcs.same (fun hlt => by rw [hk6.block b1 (by have := hE3.size; omega) (by omega), hE5.block b1 (by omega) (fun h => h), hE3.block b1 hlt (fun h => h)]))
          refine WC.skip (WX.next (WC.seq (WC.block (WC.seq (WC.region ?_)))))
          refine WO.op rfl rfl rfl (R.move rfl) ?_
          refine WO.op rfl rfl rfl (R.indexS Try.runUnderlying35 Try.sizeOf27 rfl rfl hnao (by omega)) ?_
          refine WO.op rfl rfl rfl (R.load Try.isAgg27 rfl (hcs6.el1 (cs := [_]) 0 rfl rfl)) ?_
          refine WO.op rfl rfl rfl (R.assign rfl) ?_
          refine WO.op rfl rfl rfl (R.assign rfl) ?_
          refine WO.nil (WX.next (WC.seq (WC.region ?_)))
          refine WO.op rfl rfl rfl (R.move rfl) ?_
          refine WO.op rfl rfl rfl (R.lenS rfl Try.runUnderlying27 rfl) ?_
          refine WO.op rfl rfl rfl (R.move rfl) ?_
          refine WO.nil (WX.next (WC.block ?_))
          have hrl : r.length ≤ 4096 := by
            have h5 := nodup_le m (r.map Int.toNat) (by
              rw [List.Nodup, List.pairwise_map]
              refine (hR.sorted a r hr).imp_of_mem ?_
              intro x y hx hy hxy
              obtain ⟨q, rfl, _⟩ := hRows.ok a r hr x hx
              obtain ⟨q', rfl, _⟩ := hRows.ok a r hr y hy
              omega) (by
              intro x hx
              obtain ⟨y, hy, rfl⟩ := List.mem_map.1 hx
              obtain ⟨q, rfl, hq⟩ := hRows.ok a r hr y hy
              omega)
            rw [List.length_map] at h5
            omega
          refine WC.loop (σ := Nat × List Value × List (List Int)) (fun ⟨j, rv, rows⟩ => [(8, .pointer (some ⟨bw, 0, none⟩)), (1, .int .i64 rt), (41, .slice an Rw.length cn), (42, .int .i64 Rw.length), (43, .int .i64 a), (9, .int .i64 a), (48, .slice ra r.length rc), (49, .int .i64 r.length), (50, .int .i64 j)]) (fun ⟨j, rv, rows⟩ => fun w' => j ≤ r.length ∧ Half Rw a j rows ∧ Mat (Value.int .i64) 3 27 w5.heap.size w' bo rv rows ∧ Keep (fun q => q = bo) w5 w') (fun ⟨j, rv, rows⟩ => r.length - j) ((0, rv, rows)) (Sub.cons rfl (Sub.cons rfl (Sub.cons rfl (Sub.cons rfl (Sub.cons rfl (Sub.cons rfl (Sub.cons rfl (Sub.cons rfl (Sub.cons rfl Sub.nil))))))))) (⟨Nat.zero_le _, hH, hM, hk6⟩) ?_
          rintro ⟨j, rv, rows⟩ w7 ⟨hjr, hH7, hM7, hk7⟩
          show WC _ _ _ _ [(8, .pointer (some ⟨bw, 0, none⟩)), (1, .int .i64 rt), (41, .slice an Rw.length cn), (42, .int .i64 Rw.length), (43, .int .i64 a), (9, .int .i64 a), (48, .slice ra r.length rc), (49, .int .i64 r.length), (50, .int .i64 j)] _
          refine WC.seq (WC.region ?_)
          refine WO.op rfl rfl rfl (R.lss rfl rfl) ?_
          refine WO.nil (WX.next (WC.seq ?_))
          refine WC.ite rfl (fun hjl => ?_) (fun hjg => ?_)
          · obtain ⟨y, hy⟩ : ∃ y, r[j]? = some y := ⟨_, List.getElem?_eq_getElem (by omega)⟩
            obtain ⟨b, rfl, hbn⟩ := hRows.ok a r hr y (List.mem_of_getElem? hy)
            obtain ⟨be, oe, ce, hra, hDb, hcel, hce, rfl⟩ := hrel j _ hy
            have hce7 := (hce.same (fun hlt => by rw [hk7.block be (by have := hE3.size; omega) (by omega), hE5.block be (by omega) (fun h => h), hE3.block be hlt (fun h => h)]))
            have hBw7 := hk7.blk hBw hbwo
            have hm := Mat.at (i := b) hM7 (by rw [hH7.len]; omega)
            obtain ⟨v, q, hv, hq⟩ := hm
            refine WC.skip (WX.next (WC.seq (WC.block (WC.seq (WC.region ?_)))))
            refine WO.op rfl rfl rfl (R.indexS Try.runUnderlying27 Try.sizeOf3 rfl rfl hra (by omega)) ?_
            refine WO.op rfl rfl rfl (R.load Try.isAgg3 rfl (hce7.el1 (cs := [_]) 0 rfl rfl)) ?_
            refine WO.op rfl rfl rfl (R.assign rfl) ?_
            refine WO.nil (WX.next ?_)
            refine WC.draw (fun w' => Blk w' bw [.slice an Rw.length cn, .slice (some ⟨bo, 0, none⟩) m m, .slice none 0 0, .slice (some ⟨bp, 0, none⟩) m m, .slice (some ⟨bt, 0, none⟩) m m] 58 ∧ Blk w' bo rv 27) [16] (by kernel_rfl) (fun w8 hE8 hh8 => ?_)
            have hBw8 := hE8.blk hBw7 (fun h => h)
            have hM8 := hM7.ext hE8
            refine WD.takeW 0 rfl (by kernel_rfl) rfl rfl rfl (fun w1 => R.move rfl) ?_
            refine WD.takeW 1 rfl (by kernel_rfl) rfl rfl rfl (fun w1 => R.nilCheck rfl) ?_
            refine WD.takeW 2 rfl (by kernel_rfl) rfl rfl rfl (fun w1 => R.fieldAddr Try.runUnderlying58 rfl Try.sizeOf35 rfl) ?_
            refine WD.take 3 rfl (by kernel_rfl) rfl rfl rfl ⟨hBw8, hM8.out⟩ (fun w1 hw1 => R.load Try.isAgg35 rfl (hw1.1.cells 1 _ rfl)) ?_
            refine WD.takeW 4 rfl (by kernel_rfl) rfl rfl rfl (fun w1 => R.move rfl) ?_
            refine WD.takeW 5 rfl (by kernel_rfl) rfl rfl rfl (fun w1 => R.move rfl) ?_
            refine WD.takeW 6 rfl (by kernel_rfl) rfl rfl rfl (fun w1 => R.nilCheck rfl) ?_
            refine WD.takeW 7 rfl (by kernel_rfl) rfl rfl rfl (fun w1 => R.fieldAddr Try.runUnderlying58 rfl Try.sizeOf35 rfl) ?_
            refine WD.take 8 rfl (by kernel_rfl) rfl rfl rfl ⟨hBw8, hM8.out⟩ (fun w1 hw1 => R.load Try.isAgg35 rfl (hw1.1.cells 1 _ rfl)) ?_
            refine WD.takeW 9 rfl (by kernel_rfl) rfl rfl rfl (fun w1 => R.move rfl) ?_
            refine WD.takeW 10 rfl (by kernel_rfl) rfl rfl rfl (fun w1 => R.indexS Try.runUnderlying35 Try.sizeOf27 rfl rfl rfl (by omega)) ?_
            refine WD.take 11 rfl (by kernel_rfl) rfl rfl rfl ⟨hBw8, hM8.out⟩ (fun w1 hw1 => R.load Try.isAgg27 rfl (hw1.2.cells.el1 b rfl hv)) ?_
            refine WD.takeW 12 rfl (by kernel_rfl) rfl rfl rfl (fun w1 => R.move rfl) ?_
            refine WD.mem 13 rfl (by kernel_rfl) rfl rfl rfl (M.buildSlice (cs := [.int .i64 a]) [(0, _)] Try.runUnderlying27 Try.sizeOf3 Try.zeroValue3 (by decide) rfl (by kernel_rfl)) ?_
            rintro _ w9 ⟨b9, rfl, hb9, hs9, hB9, hk9⟩
            refine ⟨fun _ => ⟨hk9.blk hBw8 (fun h => h), hk9.blk hM8.out (fun h => h)⟩, ?_⟩
            have hM9 := hM8.ext hk9
            have hrow := hM9.row b v q hv hq
            have hql := hH7.short b q hq
            have hqb : q.length ≤ 20000 := by have := hql.1; omega
            refine WD.mem 14 rfl (by kernel_rfl) rfl rfl rfl (M.append Try.underlying27 Try.el3 rfl (by decide) rfl rfl hrow rfl (Cells.add hB9.cells) (by simp; rfl) (by omega) (by omega)) ?_
            rintro v' w10 ⟨hown10, hfr10, hk10, _⟩
            obtain ⟨av, cv, rfl⟩ := own_form hown10
            have hbo10 : v.ownBlock ≠ some bo := fun h => (hM9.far b v bo hv h).2 rfl
            have hbw10 : v.ownBlock ≠ some bw := fun h => by have := (hM9.far b v bw hv h).1; have := hBw.lt; omega
            have hBw10 := hk10.blk (hk9.blk hBw8 (fun h => h)) hbw10
            refine ⟨fun _ => ⟨hBw10, hk10.blk hM9.out hbo10⟩, ?_⟩
            refine WD.takeW 15 rfl (by kernel_rfl) rfl rfl rfl (fun w1 => R.indexS Try.runUnderlying35 Try.sizeOf27 rfl rfl rfl (by omega)) ?_
            refine WD.mem0 16 rfl (by kernel_rfl) rfl rfl (M.store Try.sizeOf27 rfl rfl rfl rfl (hk10.blk hM9.out hbo10) (by rw [hM9.len, hH7.len]; omega)) ?_
            rintro w11 hW11
            refine ⟨fun h => absurd (List.mem_singleton.2 rfl) h, ?_⟩
            rw [show 0 + (b : Int).toNat * 1 = b from by omega] at hW11
            have hk911 : Keep (fun q => v.ownBlock = some q ∨ q = bo) w9 w11 := (hk10.mono (fun _ _ h => .inl h)).trans hW11.2.2 (fun _ _ h => .inr h)
            have hk711 : Keep (fun q => v.ownBlock = some q ∨ q = bo) w7 w11 := ((hE8.ext hk9).mono (fun _ _ h => h.elim)).trans hk911 (fun _ _ h => h)
            refine WD.done (by kernel_rfl) ?_ _
            refine WX.blockN (WX.next (WC.region ?_))
            refine WO.op rfl rfl rfl (R.add rfl rfl (wrap_i64_in (by omega))) ?_
            refine WO.op rfl rfl rfl (R.move rfl) ?_
            refine WO.nil ?_
            refine WX.back ((j + 1, rv.set b (.slice av (q.length + 1) cv), rows.set b (q ++ [(a : Int)]))) (Sub.cons rfl (Sub.cons rfl (Sub.cons rfl (Sub.cons rfl (Sub.cons rfl (Sub.cons rfl (Sub.cons rfl (Sub.cons rfl (Sub.cons rfl Sub.nil))))))))) (⟨by omega, hH7.push hr hy (hR.sorted a r hr) hq, ?_, ?_⟩) (by first | omega | (dsimp only; omega))
            · exact hM9.push (by have := hk9.size; have := hE8.size; have := hk7.size; omega) hv hq hown10 hfr10 hk10 hW11
            · exact hk7.trans hk711 (fun q' hq' h => by
                rcases h with h | h
                · have := (hM7.far b v q' hv h).1; omega
                · exact h)
          · have hjr' : j = r.length := by omega
            subst hjr'
            refine WC.exit (WX.thenE (WX.thenE (WX.hit (WX.blockN (WX.next (WC.region ?_))))))
            refine WO.op rfl rfl rfl (R.add rfl rfl (wrap_i64_in (by omega))) ?_
            refine WO.op rfl rfl rfl (R.move rfl) ?_
            refine WO.nil ?_
            refine WX.back ((a + 1, rv, rows)) (Sub.cons rfl (Sub.cons rfl (Sub.cons rfl (Sub.cons rfl (Sub.cons rfl Sub.nil))))) (⟨by omega, hH7.next hr, hM7, hk7⟩) (by first | omega | (dsimp only; omega))
        · have han' : a = Rw.length := by omega
          subst han'
          have hPw := hH.back
          have hBw6 := hk6.blk hBw hbwo
          have hBp6 := hk6.blk (hk5.blk hBp4 (fun h => h)) (fun h => hop h.symm)
          have hBt6 := hk6.blk (hk5.blk hBt4 (fun h => h)) (fun h => hot h.symm)
          have hk36 : Keep (fun q => q = bo) w3 w6 := (hE5.mono (fun _ _ h => h.elim)).trans hk6 (fun _ _ h => h)
          have hk26 : Keep (fun q => q = bo) w2 w6 := (hE3.mono (fun _ _ h => h.elim)).trans hk36 (fun _ _ h => h)
          have hnv6 := (SlR.bnd (by decide) (fun x cs h => by
            obtain ⟨v, h1, h2⟩ := h
            exact ⟨v, h1, SlR.bnd (by decide) (fun _ _ h => h) h2⟩) hu).keep (stable_sl stable_int) hk26 (fun q hq hlt h => by have h2 : q < w2.heap.size := hq.2; have h3 : q = bo := h; omega)
          have hltp := hBp4.lt
          have hltt := hBt4.lt
          refine WC.exit (WX.thenE (WX.thenE (WX.hit (WX.next (WC.seq (WC.region ?_))))))
          refine WO.op rfl rfl rfl (R.move rfl) ?_
          refine WO.op rfl rfl rfl (R.move rfl) ?_
          refine WO.call rfl rfl rfl (F.call (vs := [_, _]) Try.call44 rfl) (search_ok Rw rt m bw bp _ _ _ (fun b => w1.heap.size ≤ b ∧ b < w2.heap.size) w6 hRows hRl hmm (by omega) hR.sorted hnv6 (fun q hq => by omega) (by omega) hBw6 hBp6) ?_
          rintro _ w7 ⟨rfl, order, pl, ov, hO, hPl, hBw7, hov7, hog7, hBp7, hk7⟩
          have hk47 : Keep (fun q => q = bo ∨ q = bw ∨ q = bp) w3 w7 := (hk36.mono (fun _ _ h => .inl h)).trans hk7 (fun _ _ h => .inr h)
          have hM7 := hM.keep hk7 (fun h => h.elim (fun h => hbwo h.symm) hop) (fun i v q hv hq h => by
            have := (hM.far i v q hv hq).1
            rcases h with h | h <;> omega)
          have hBt7 := hk7.blk hBt6 (fun h => h.elim (fun h => by omega) (fun h => hpt h.symm))
          have hbv7 : SlR 1 (RSl 1 RInt) (fun q => q = bo ∨ w5.heap.size ≤ q) w7 (.slice (some ⟨bo, 0, none⟩) m m) rows := by
            refine hM7.sl (fun _ => rfl) (.inl rfl) (fun i v g hv hg => .inr (hM7.far i v g hv hg).1) ?_ ?_ (by omega)
            · rw [hH.len]; exact hRl.symm
            · rw [hH.len]; omega
          have hs67 := hk6.size
          have hog7' : ∀ g, ov.ownBlock = some g → w5.heap.size ≤ g := fun g hg => by have := hog7 g hg; omega
          refine WO.nil (WX.next (WC.seq (WC.region ?_)))
          refine WO.op rfl rfl rfl (R.move rfl) ?_
          refine WO.call rfl rfl rfl (F.call (vs := [_]) Try.call45 rfl) (solve_ok Rw rows rt m bw bp bt _ _ _ order pl (fun q => q = bo ∨ w5.heap.size ≤ q) w7 hRl (by omega) hO hPl hPw hbv7 (fun q hq => by rcases hq with h | h <;> omega) hBw7 hov7 (fun g hg => by have := hog7' g hg; omega) hBp7 hBt7 (by omega) hpt) ?_
          rintro _ w8 ⟨rfl, T, hS, hBt8, hk8⟩
          have hwt : bw ≠ bt := by omega
          have hk28 : Keep (fun q => q = bo ∨ q = bw ∨ q = bp ∨ q = bt) w3 w8 := (hk47.mono (fun _ _ h => by rcases h with h | h | h <;> simp [h])).trans hk8 (fun _ _ h => .inr (.inr (.inr h)))
          have hk28' : Ext w2 w8 := hE3.trans hk28 (fun q hq h => by rcases h with h | h | h | h <;> omega)
          refine WO.nil (WX.next (WC.seq (WC.region ?_)))
          refine WO.op rfl rfl rfl (R.move rfl) ?_
          refine WO.op rfl rfl rfl (R.assign rfl) ?_
          refine WO.op rfl rfl rfl (R.assign rfl) ?_
          refine WO.nil (WX.next (WC.ret ?_))
          rw [hcode]
          refine WX.ret2 Try.results28 rfl rfl ⟨_, rfl, .pointer (some ⟨bw, 0, none⟩), rfl, fun h => absurd rfl h, fun _ => ⟨bw, Rw, rows, order, pl, T, .slice an Rw.length cn, .slice (some ⟨bo, 0, none⟩) m m, ov, bp, bt, rfl, ?_⟩, hE2.ext hk28'⟩
          have hw1 := hE2.size
          refine ⟨hmm, by simp; omega, hRows, hR, hPw, hO, hPl, hS, hk8.blk hBw7 hwt, ?_, ?_, ?_, ?_, hk8.blk hBp7 hpt, hBt8, ?_⟩
          · exact (hu.ext (stable_sl stable_int) hk28').wide (stable_sl stable_int) (fun b h => by have := hk1.size; omega)
          · exact (hbv7.keep (stable_sl stable_int) hk8 (fun q hq _ h => by rcases hq with h' | h' <;> omega)).wide (stable_sl stable_int) (fun b h => by rcases h with h | h <;> omega)
          · exact own_keep hov7 hk8 (fun g hg h => by have := hog7' g hg; omega)
          · exact fun g hg => by have := hog7' g hg; omega
          · omega
end Go.Proofs.Yteilalejfphkgaa
