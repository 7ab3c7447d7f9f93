/-
  The reference's Has, Simple, Reverse, its control dependence, and the law DominancePost: walks. Nothing here is a claim.
-/
import Derived.Test.YteilalejfphkgaaT23
namespace Go.Proofs.Yteilalejfphkgaa
open Go.GL Go.GL.Dom Go.GL.Dfs

theorem refHas_ok (n a b : Int) (es : List (Int × Int)) (ev : Value) (D : Nat → Prop) (w : World) (hes : SlR 2 RPair D w ev es) : Calls Try.prog 53 #[.agg #[.int .i64 n, ev], .int .i64 a, .int .i64 b] w (Ret fun r w' => r = .bool (decide ((a, b) ∈ es)) ∧ Ext w w') := by
  have hes' := hes
  obtain ⟨ao, cap, rfl, hlc, hcm, hel⟩ := hes'
  refine calls Try.func53 rfl [(0, .agg #[.int .i64 n, .slice ao es.length cap]), (1, .int .i64 a), (2, .int .i64 b)] 33 ⟨Nat.le_of_ble_eq_true rfl, Try.ntmps53⟩ (argsOk (Sub.cons rfl (Sub.cons rfl (Sub.cons rfl Sub.nil)))) ?_
  refine WC.seq (WC.region ?_)
  refine WO.mem rfl rfl rfl (M.box rfl rfl) ?_
  rintro _ w1 ⟨g, rfl, hg, hs1, hB1, hk1⟩
  refine WO.op rfl rfl rfl (R.assign rfl) ?_
  refine WO.nil (WX.next (WC.seq (WC.seq (WC.region ?_))))
  refine WO.op rfl rfl rfl (R.assign rfl) ?_
  refine WO.nil (WX.next (WC.block ?_))
  refine WC.loop (σ := Nat) (fun i => [(3, .pointer (some ⟨g, 0, none⟩)), (1, .int .i64 a), (2, .int .i64 b), (7, .int .i64 i)]) (fun i => fun w' => w' = w1 ∧ i ≤ es.length ∧ (a, b) ∉ es.take i) (fun i => es.length - i) (0) (Sub.cons rfl (Sub.cons rfl (Sub.cons rfl (Sub.cons rfl Sub.nil)))) (⟨rfl, Nat.zero_le _, by simp⟩) ?_
  rintro i w2 ⟨hw2, hi, hn⟩
  show WC _ _ _ _ [(3, .pointer (some ⟨g, 0, none⟩)), (1, .int .i64 a), (2, .int .i64 b), (7, .int .i64 i)] _
  subst hw2
  refine WC.seq (WC.seq (WC.region ?_))
  refine WO.op rfl rfl rfl (R.move rfl) ?_
  refine WO.op rfl rfl rfl (R.fieldAddr Try.runUnderlying24 rfl Try.sizeOf22 rfl) ?_
  refine WO.op rfl rfl rfl (R.load Try.isAgg22 rfl (hB1.cells 1 _ rfl)) ?_
  refine WO.op rfl rfl rfl (R.lenS rfl Try.runUnderlying22 rfl) ?_
  refine WO.op rfl rfl rfl (R.lss rfl rfl) ?_
  refine WO.nil (WX.next ?_)
  refine WC.ite rfl (fun hlt => ?_) (fun hge => ?_)
  · obtain ⟨e, he⟩ : ∃ e, es[i]? = some e := ⟨_, List.getElem?_eq_getElem (by omega)⟩
    obtain ⟨be, oe, ce, hao, hDb, hcl, hcs, rfl⟩ := hel i e he
    have hcs1 := hk1.cells hcs (fun h => h)
    have hstep : ¬ (e.1 = a ∧ e.2 = b) → (a, b) ∉ es.take (i + 1) := by
      intro h1 h2
      rw [List.take_add_one, he] at h2
      rcases List.mem_append.1 h2 with h3 | h3
      · exact hn h3
      · simp at h3
        subst h3
        exact h1 ⟨rfl, rfl⟩
    refine WC.skip (WX.next (WC.seq (WC.block (WC.seq (WC.region ?_)))))
    refine WO.op rfl rfl rfl (R.fieldAddr Try.runUnderlying24 rfl Try.sizeOf22 rfl) ?_
    refine WO.op rfl rfl rfl (R.load Try.isAgg22 rfl (hB1.cells 1 _ rfl)) ?_
    refine WO.op rfl rfl rfl (R.move rfl) ?_
    refine WO.op rfl rfl rfl (R.indexS Try.runUnderlying22 Try.sizeOf49 rfl rfl hao (by omega)) ?_
    refine WO.op rfl rfl rfl (R.indexA Try.runUnderlying49 Try.sizeOf3 rfl rfl (by omega)) ?_
    refine WO.op rfl rfl rfl (R.load Try.isAgg3 rfl (hcs1 0 _ rfl)) ?_
    refine WO.op rfl rfl rfl (R.move rfl) ?_
    refine WO.op rfl rfl rfl (R.eql rfl rfl) ?_
    refine WO.op rfl rfl rfl (R.move rfl) ?_
    refine WO.cases (p := e.1 = a) (fun h1 => ?_) (fun h1 => ?_)
    ·
      refine WO.yes rfl rfl (decide_eq_true h1) ?_
      refine WO.op rfl rfl rfl (R.fieldAddr Try.runUnderlying24 rfl Try.sizeOf22 rfl) ?_
      refine WO.yes rfl rfl (decide_eq_true h1) ?_
      refine WO.op rfl rfl rfl (R.load Try.isAgg22 rfl (hB1.cells 1 _ rfl)) ?_
      refine WO.yes rfl rfl (decide_eq_true h1) ?_
      refine WO.op rfl rfl rfl (R.move rfl) ?_
      refine WO.yes rfl rfl (decide_eq_true h1) ?_
      refine WO.op rfl rfl rfl (R.indexS Try.runUnderlying22 Try.sizeOf49 rfl rfl hao (by omega)) ?_
      refine WO.yes rfl rfl (decide_eq_true h1) ?_
      refine WO.op rfl rfl rfl (R.indexA Try.runUnderlying49 Try.sizeOf3 rfl rfl (by omega)) ?_
      refine WO.yes rfl rfl (decide_eq_true h1) ?_
      refine WO.op rfl rfl rfl (R.load Try.isAgg3 rfl (hcs1 1 _ rfl)) ?_
      refine WO.yes rfl rfl (decide_eq_true h1) ?_
      refine WO.op rfl rfl rfl (R.move rfl) ?_
      refine WO.yes rfl rfl (decide_eq_true h1) ?_
      refine WO.op rfl rfl rfl (R.eql rfl rfl) ?_
      refine WO.op rfl rfl rfl (R.pickT rfl (decide_eq_true h1) rfl) ?_
      refine WO.nil (WX.next ?_)
      refine WC.ite rfl (fun h2 => ?_) (fun h2 => ?_)
      ·
        refine WC.seq (WC.region ?_)
        refine WO.op rfl rfl rfl (R.assign rfl) ?_
        refine WO.nil (WX.next (WC.ret (WX.blockR (WX.thenR (WX.thenR (WX.blockR (WX.thenR ?_)))))))
        refine WX.ret1 Try.results53 rfl ⟨_, rfl, by rw [decide_eq_true (show (a, b) ∈ es from by rw [← h1, ← h2]; exact List.mem_of_getElem? he)], hk1⟩
      ·
        refine WC.skip (WX.blockN (WX.next (WC.region ?_)))
        refine WO.op rfl rfl rfl (R.move rfl) ?_
        refine WO.op rfl rfl rfl (R.add rfl rfl (wrap_i64_in (by omega))) ?_
        refine WO.op rfl rfl rfl (R.assign rfl) ?_
        refine WO.nil ?_
        refine WX.back (i + 1) (Sub.cons rfl (Sub.cons rfl (Sub.cons rfl (Sub.cons rfl Sub.nil)))) (⟨rfl, by omega, hstep (fun h => h2 h.2)⟩) (by first | omega | (dsimp only; omega))
    ·
      refine WO.no rfl rfl (decide_eq_false h1) rfl ?_
      refine WO.no rfl rfl (decide_eq_false h1) rfl ?_
      refine WO.no rfl rfl (decide_eq_false h1) rfl ?_
      refine WO.no rfl rfl (decide_eq_false h1) rfl ?_
      refine WO.no rfl rfl (decide_eq_false h1) rfl ?_
      refine WO.no rfl rfl (decide_eq_false h1) rfl ?_
      refine WO.no rfl rfl (decide_eq_false h1) rfl ?_
      refine WO.no rfl rfl (decide_eq_false h1) rfl ?_
      refine WO.op rfl rfl rfl (R.pickF rfl (decide_eq_false h1) rfl) ?_
      refine WO.nil (WX.next ?_)
      refine WC.ff rfl (rfl) ?_
      refine WC.skip (WX.blockN (WX.next (WC.region ?_)))
      refine WO.op rfl rfl rfl (R.move rfl) ?_
      refine WO.op rfl rfl rfl (R.add rfl rfl (wrap_i64_in (by omega))) ?_
      refine WO.op rfl rfl rfl (R.assign rfl) ?_
      refine WO.nil ?_
      refine WX.back (i + 1) (Sub.cons rfl (Sub.cons rfl (Sub.cons rfl (Sub.cons rfl Sub.nil)))) (⟨rfl, by omega, hstep (fun h => h1 h.1)⟩) (by first | omega | (dsimp only; omega))
  · have : i = es.length := by omega
    subst this
    rw [List.take_length] at hn
    refine WC.exit (WX.thenE (WX.thenE (WX.hit (WX.next (WC.seq (WC.region ?_))))))
    refine WO.op rfl rfl rfl (R.assign rfl) ?_
    refine WO.nil (WX.next (WC.ret ?_))
    refine WX.ret1 Try.results53 rfl ⟨_, rfl, by rw [decide_eq_false hn], hk1⟩

/-- The pairs that have p, row by row, as far as b of row a. -/
structure PrP (p : Nat → Nat → Prop) (m a b : Nat) (acc : List (Int × Int)) : Prop where
  mem : ∀ e, e ∈ acc ↔ ∃ x y : Nat, e = ((x : Int), (y : Int)) ∧ y < m ∧ p x y ∧ (x < a ∨ x = a ∧ y < b)
  sorted : acc.Pairwise lexLt
  short : acc.length ≤ a * m + b
section
variable {p : Nat → Nat → Prop} {m a b : Nat} {acc : List (Int × Int)}
theorem PrP.start : PrP p m 0 0 [] := ⟨fun e => ⟨fun h => by simp at h, fun ⟨x, y, _, _, _, h⟩ => by omega⟩, .nil, Nat.zero_le _⟩
theorem PrP.no (h : PrP p m a b acc) (hn : ¬ p a b) : PrP p m a (b + 1) acc := by
  refine ⟨fun e => ?_, h.sorted, by have := h.short; omega⟩
  rw [h.mem]
  constructor
  · rintro ⟨x, y, h1, h2, h3, h4⟩; exact ⟨x, y, h1, h2, h3, by omega⟩
  · rintro ⟨x, y, h1, h2, h3, h4⟩
    refine ⟨x, y, h1, h2, h3, ?_⟩
    by_cases e : x = a ∧ y = b
    · rw [e.1, e.2] at h3; exact absurd h3 hn
    · omega
theorem PrP.yes (h : PrP p m a b acc) (hb : b < m) (hn : p a b) : PrP p m a (b + 1) (acc ++ [((a : Int), (b : Int))]) := by
  refine ⟨fun e => ?_, ?_, by have := h.short; simp; omega⟩
  · rw [List.mem_append, h.mem, List.mem_singleton]
    constructor
    · rintro (⟨x, y, h1, h2, h3, h4⟩ | h1)
      · exact ⟨x, y, h1, h2, h3, by omega⟩
      · exact ⟨a, b, h1, hb, hn, by omega⟩
    · rintro ⟨x, y, h1, h2, h3, h4⟩
      by_cases e : x = a ∧ y = b
      · right; rw [h1, e.1, e.2]
      · left; exact ⟨x, y, h1, h2, h3, by omega⟩
  · rw [List.pairwise_append]
    refine ⟨h.sorted, by simp, fun e he f hf => ?_⟩
    rw [List.mem_singleton] at hf
    subst hf
    obtain ⟨x, y, rfl, _, _, h4⟩ := (h.mem e).1 he
    unfold lexLt
    dsimp only
    omega
theorem PrP.next (h : PrP p m a m acc) : PrP p m (a + 1) 0 acc := by
  refine ⟨fun e => ?_, h.sorted, by have := h.short; rw [Nat.succ_mul]; omega⟩
  rw [h.mem]
  constructor
  · rintro ⟨x, y, h1, h2, h3, h4⟩; exact ⟨x, y, h1, h2, h3, by omega⟩
  · rintro ⟨x, y, h1, h2, h3, h4⟩; exact ⟨x, y, h1, h2, h3, by omega⟩
end

theorem refSimple_ok (m : Nat) (es : List (Int × Int)) (ev : Value) (D : Nat → Prop) (w : World) (hes : SlR 2 RPair D w ev es) (hc : Gr.check m es = 0) : Calls Try.prog 36 #[.agg #[.int .i64 m, ev]] w (Ret fun r w' => ∃ v s, r = .tuple #[.agg #[.int .i64 m, v], .int .i64 0] ∧ PrP (fun x y => ((x : Int), (y : Int)) ∈ es) m m 0 s ∧ SlR 2 RPair (fun b => w.heap.size ≤ b) w' v s ∧ Ext w w') := by
  have hes' := hes
  obtain ⟨ao, cap, rfl, hlc, hcm, _⟩ := hes'
  obtain ⟨hz1, hz2, hz3, hz4⟩ := Gr.check_zero hc
  refine calls Try.func36 rfl [(0, .agg #[.int .i64 m, .slice ao es.length cap])] 42 ⟨Nat.le_of_ble_eq_true rfl, Try.ntmps36⟩ (argsOk (Sub.cons rfl Sub.nil)) ?_
  refine WC.seq (WC.region ?_)
  refine WO.mem rfl rfl rfl (M.box rfl rfl) ?_
  rintro _ w1 ⟨g, rfl, hg, hs1, hB1, hk1⟩
  refine WO.mem rfl rfl rfl (M.alloc (cs := _) Try.zeroValue24 rfl) ?_
  rintro _ w2 ⟨b2, rfl, hb2, hs2, hB2, hk2⟩
  have hB12 := hk2.blk hB1 (fun h => h)
  refine WO.op rfl rfl rfl (R.assign rfl) ?_
  refine WO.nil (WX.next (WC.seq (WC.region ?_)))
  refine WO.op rfl rfl rfl (R.loadK Try.isAgg24 Try.sizeOf24 rfl (by rfl) hB12.cells) ?_
  refine WO.call rfl rfl rfl (F.call (vs := [_]) Try.call29 rfl) (refCheck_ok m es _ D w2 ((hes.ext stable_pair hk1).ext stable_pair hk2)) ?_
  rintro _ w3 ⟨rfl, hk3⟩
  have hB13 := hk3.blk hB12 (fun h => h)
  have hB23 := hk3.blk hB2 (fun h => h)
  have hE3 := (hk1.ext hk2).ext hk3
  rw [hc]
  refine WO.op rfl rfl rfl (R.assign rfl) ?_
  refine WO.nil (WX.next (WC.seq (WC.seq (WC.region ?_))))
  refine WO.op rfl rfl rfl (R.move rfl) ?_
  refine WO.op rfl rfl rfl (R.neq rfl rfl) ?_
  refine WO.nil (WX.next ?_)
  refine WC.ff rfl (rfl) ?_
  refine WC.skip (WX.next (WC.seq (WC.region ?_)))
  refine WO.op rfl rfl rfl (R.fieldAddr Try.runUnderlying24 rfl Try.sizeOf3 rfl) ?_
  refine WO.op rfl rfl rfl (R.load Try.isAgg3 rfl (hB13.cells 0 _ rfl)) ?_
  refine WO.op rfl rfl rfl (R.build (v := .agg #[.int .i64 m, .slice none 0 0]) [(0, _)] rfl (fun _ => by kernel_rfl)) ?_
  refine WO.mem rfl rfl rfl (M.alloc (cs := _) Try.zeroValue24 rfl) ?_
  rintro _ w4 ⟨b4, rfl, hb4, hs4, hB4, hk4⟩
  refine WO.mem0 rfl rfl (M.storeK Try.sizeOf24 rfl rfl rfl rfl (by simp [Value.oneCell']) hB4 (by simp)) ?_
  rintro w5 ⟨hs5, hB5, hk5⟩
  have hk35 : Ext w3 w5 := hk4.trans hk5 (fun q hq h => by omega)
  have hB15 := hk35.blk hB13 (fun h => h)
  have hB25 := hk35.blk hB23 (fun h => h)
  have hE5 := hE3.ext hk35
  have hg4 : g ≠ b4 := by have := hB13.lt; omega
  have hsz1 := hk2.size
  have hsz2 := hk3.size
  refine WO.nil (WX.next (WC.seq (WC.seq (WC.region ?_))))
  refine WO.op rfl rfl rfl (R.assign rfl) ?_
  refine WO.nil (WX.next (WC.block ?_))
  refine WC.loop (σ := Nat × List (Int × Int) × Value) (fun ⟨a, acc, va⟩ => [(1, .pointer (some ⟨g, 0, none⟩)), (2, .pointer (some ⟨b2, 0, none⟩)), (5, .pointer (some ⟨b4, 0, none⟩)), (6, .int .i64 a)]) (fun ⟨a, acc, va⟩ => fun w' => a ≤ m ∧ PrP (fun x y => ((x : Int), (y : Int)) ∈ es) m a 0 acc ∧ w'.ownsRow 0 49 2 va acc.length (acc.flatMap encP) ∧ (∀ q, va.ownBlock = some q → w5.heap.size ≤ q) ∧ Blk w' b4 [.int .i64 m, va] 24 ∧ Keep (fun q => q = b4) w5 w') (fun ⟨a, acc, va⟩ => m - a) ((0, [], .slice none 0 0)) (Sub.cons rfl (Sub.cons rfl (Sub.cons rfl (Sub.cons rfl Sub.nil)))) (⟨Nat.zero_le _, PrP.start, own_nil _ _ _, by simp [Value.ownBlock], hB5, Keep.refl _ _⟩) ?_
  rintro ⟨a, acc, va⟩ w6 ⟨ham, hP, hown, hfr, hB6, hk6⟩
  show WC _ _ _ _ [(1, .pointer (some ⟨g, 0, none⟩)), (2, .pointer (some ⟨b2, 0, none⟩)), (5, .pointer (some ⟨b4, 0, none⟩)), (6, .int .i64 a)] _
  have hB16 := hk6.blk hB15 hg4
  refine WC.seq (WC.seq (WC.region ?_))
  refine WO.op rfl rfl rfl (R.move rfl) ?_
  refine WO.op rfl rfl rfl (R.fieldAddr Try.runUnderlying24 rfl Try.sizeOf3 rfl) ?_
  refine WO.op rfl rfl rfl (R.load Try.isAgg3 rfl (hB16.cells 0 _ rfl)) ?_
  refine WO.op rfl rfl rfl (R.lss rfl rfl) ?_
  refine WO.nil (WX.next ?_)
  refine WC.ite rfl (fun hla => ?_) (fun hga => ?_)
  ·
    refine WC.skip (WX.next (WC.seq (WC.block (WC.seq (WC.region ?_)))))
    refine WO.op rfl rfl rfl (R.assign rfl) ?_
    refine WO.nil (WX.next (WC.block ?_))
    refine WC.loop (σ := Nat × List (Int × Int) × Value) (fun ⟨b, acc, va⟩ => [(1, .pointer (some ⟨g, 0, none⟩)), (2, .pointer (some ⟨b2, 0, none⟩)), (5, .pointer (some ⟨b4, 0, none⟩)), (6, .int .i64 a), (7, .int .i64 b)]) (fun ⟨b, acc, va⟩ => fun w' => b ≤ m ∧ PrP (fun x y => ((x : Int), (y : Int)) ∈ es) m a b acc ∧ w'.ownsRow 0 49 2 va acc.length (acc.flatMap encP) ∧ (∀ q, va.ownBlock = some q → w5.heap.size ≤ q) ∧ Blk w' b4 [.int .i64 m, va] 24 ∧ Keep (fun q => q = b4) w5 w') (fun ⟨b, acc, va⟩ => m - b) ((0, acc, va)) (Sub.cons rfl (Sub.cons rfl (Sub.cons rfl (Sub.cons rfl (Sub.cons rfl Sub.nil))))) (⟨Nat.zero_le _, hP, hown, hfr, hB6, hk6⟩) ?_
    rintro ⟨b, acc, va⟩ w7 ⟨hbm, hP7, hown7, hfr7, hB7, hk7⟩
    show WC _ _ _ _ [(1, .pointer (some ⟨g, 0, none⟩)), (2, .pointer (some ⟨b2, 0, none⟩)), (5, .pointer (some ⟨b4, 0, none⟩)), (6, .int .i64 a), (7, .int .i64 b)] _
    have hB17 := hk7.blk hB15 hg4
    refine WC.seq (WC.seq (WC.region ?_))
    refine WO.op rfl rfl rfl (R.move rfl) ?_
    refine WO.op rfl rfl rfl (R.fieldAddr Try.runUnderlying24 rfl Try.sizeOf3 rfl) ?_
    refine WO.op rfl rfl rfl (R.load Try.isAgg3 rfl (hB17.cells 0 _ rfl)) ?_
    refine WO.op rfl rfl rfl (R.lss rfl rfl) ?_
    refine WO.nil (WX.next ?_)
    refine WC.ite rfl (fun hlb => ?_) (fun hgb => ?_)
    · have hE7 : Ext w w7 := hE5.trans hk7 (fun q hq h => by have h : q = b4 := h; have := hE3.size; omega)
      refine WC.skip (WX.next (WC.seq (WC.block (WC.seq (WC.region ?_)))))
      refine WO.op rfl rfl rfl (R.loadK Try.isAgg24 Try.sizeOf24 rfl (by rfl) hB17.cells) ?_
      refine WO.op rfl rfl rfl (R.move rfl) ?_
      refine WO.op rfl rfl rfl (R.move rfl) ?_
      refine WO.call rfl rfl rfl (F.call (vs := [_, _, _]) Try.call53 rfl) (refHas_ok m a b es _ D w7 (hes.ext stable_pair hE7)) ?_
      rintro _ w8 ⟨rfl, hk8⟩
      have hB8 := hk8.blk hB7 (fun h => h)
      have hown8 := own_keep hown7 hk8 (fun _ _ h => h)
      refine WO.nil (WX.next ?_)
      refine WC.ite rfl (fun hin => ?_) (fun hin => ?_)
      ·
        refine WC.region ?_
        refine WO.op rfl rfl rfl (R.fieldAddr Try.runUnderlying24 rfl Try.sizeOf22 rfl) ?_
        refine WO.op rfl rfl rfl (R.load Try.isAgg22 rfl (hB8.cells 1 _ rfl)) ?_
        refine WO.op rfl rfl rfl (R.move rfl) ?_
        refine WO.op rfl rfl rfl (R.move rfl) ?_
        refine WO.op rfl rfl rfl (R.build (v := .agg #[.int .i64 a, .int .i64 b]) [(0, _), (1, _)] rfl (fun _ => by kernel_rfl)) ?_
        refine WO.mem rfl rfl rfl (M.buildSlice (cs := encP ((a : Int), (b : Int))) [(0, _)] Try.runUnderlying22 Try.sizeOf49 Try.zeroValue49 (by decide) rfl (by kernel_rfl)) ?_
        rintro _ w9 ⟨b9, rfl, hb9, hs9, hB9, hk9⟩
        have hown9 := own_keep hown8 hk9 (fun _ _ h => h)
        have hsh := hP7.short
        have hmm : a * m ≤ 4096 * 4096 := Nat.mul_le_mul (by omega) (by omega)
        refine WO.mem rfl rfl rfl (M.append Try.underlying22 Try.el49 rfl (by decide) rfl rfl hown9 rfl (Cells.add hB9.cells) (encP_one _) (by omega) (by omega)) ?_
        rintro va' w10 ⟨hown10, hfr10, hk10, _⟩
        have hb4o : va.ownBlock ≠ some b4 := fun h => by have := hfr7 b4 h; have := hB5.lt; omega
        have hB10 := hk10.blk (hk9.blk hB8 (fun h => h)) hb4o
        have hv10 : va'.oneCell' = true ∧ va'.cells = #[va'] := by obtain ⟨x, y, rfl⟩ := own_form hown10; exact ⟨rfl, rfl⟩
        refine WO.op rfl rfl rfl (R.fieldAddr Try.runUnderlying24 rfl Try.sizeOf22 rfl) ?_
        obtain ⟨av, cv, rfl⟩ := own_form hown10
        refine WO.mem0 rfl rfl (M.store Try.sizeOf22 rfl rfl rfl rfl hB10 (by simp)) ?_
        rintro w11 ⟨hs11, hB11, hk11⟩
        have hsz7 := hk7.size
        have hsz8 := hk8.size
        have hsz9 := hk9.size
        have hfr' : ∀ q, (Value.slice av (acc.length + 1) cv).ownBlock = some q → w5.heap.size ≤ q := by
          intro q hq
          rcases hfr10 with h | ⟨q', h, h'⟩
          · exact hfr7 q (by rw [← h]; exact hq)
          · rw [h] at hq; cases hq; omega
        have hb4n : (Value.slice av (acc.length + 1) cv).ownBlock ≠ some b4 := fun h => by have := hfr' b4 h; have := hB5.lt; omega
        refine WO.nil (WX.blockN (WX.next (WC.region ?_)))
        refine WO.op rfl rfl rfl (R.move rfl) ?_
        refine WO.op rfl rfl rfl (R.add rfl rfl (wrap_i64_in (by omega))) ?_
        refine WO.op rfl rfl rfl (R.assign rfl) ?_
        refine WO.nil ?_
        refine WX.back ((b + 1, acc ++ [((a : Int), (b : Int))], .slice av (acc.length + 1) cv)) (Sub.cons rfl (Sub.cons rfl (Sub.cons rfl (Sub.cons rfl (Sub.cons rfl Sub.nil))))) (⟨by omega, hP7.yes (by omega) hin, ?_, hfr', hB11, ?_⟩) (by first | omega | (dsimp only; omega))
        · rw [List.length_append, List.flatMap_append]
          exact own_keep hown10 hk11 (fun q hq h => hb4n (by rw [hq]; exact congrArg some h))
        · exact ((hk7.ext (hk8.ext hk9)).trans hk10 (fun q hq h => by have := hfr7 q h; omega)).trans hk11 (fun q hq h => h)
      ·
        refine WC.skip (WX.blockN (WX.next (WC.region ?_)))
        refine WO.op rfl rfl rfl (R.move rfl) ?_
        refine WO.op rfl rfl rfl (R.add rfl rfl (wrap_i64_in (by omega))) ?_
        refine WO.op rfl rfl rfl (R.assign rfl) ?_
        refine WO.nil ?_
        refine WX.back ((b + 1, acc, va)) (Sub.cons rfl (Sub.cons rfl (Sub.cons rfl (Sub.cons rfl (Sub.cons rfl Sub.nil))))) (⟨by omega, hP7.no hin, hown8, hfr7, hB8, hk7.ext hk8⟩) (by first | omega | (dsimp only; omega))
    · have hb' : b = m := by omega
      subst hb'
      refine WC.exit (WX.thenE (WX.thenE (WX.hit (WX.blockN (WX.next (WC.region ?_))))))
      refine WO.op rfl rfl rfl (R.move rfl) ?_
      refine WO.op rfl rfl rfl (R.add rfl rfl (wrap_i64_in (by omega))) ?_
      refine WO.op rfl rfl rfl (R.assign rfl) ?_
      refine WO.nil ?_
      refine WX.back ((a + 1, acc, va)) (Sub.cons rfl (Sub.cons rfl (Sub.cons rfl (Sub.cons rfl Sub.nil)))) (⟨by omega, hP7.next, hown7, hfr7, hB7, hk7⟩) (by first | omega | (dsimp only; omega))
  · have ha' : a = m := by omega
    subst ha'
    have hb24 : b2 ≠ b4 := by have := hB23.lt; omega
    obtain ⟨av, cv, rfl⟩ := own_form hown
    refine WC.exit (WX.thenE (WX.thenE (WX.hit (WX.next (WC.seq (WC.region ?_))))))
    refine WO.op rfl rfl rfl (R.loadK Try.isAgg24 Try.sizeOf24 rfl (by rfl) hB6.cells) ?_
    refine WO.mem0 rfl rfl (M.storeK Try.sizeOf24 rfl rfl rfl rfl (by simp [Value.oneCell']) (hk6.blk hB25 hb24) (by simp)) ?_
    rintro w7 ⟨hs7, hB7, hk7⟩
    refine WO.op rfl rfl rfl (R.assign rfl) ?_
    refine WO.nil (WX.next (WC.ret ?_))
    refine WX.retCT Try.results36 rfl (run_loadK Try.isAgg24 Try.sizeOf24 rfl hB7.cells) rfl ?_
    have hsz6 := hk6.size
    have hsz5 := hE5.size
    have hlt2 := hB25.lt
    have hown7 := own_keep hown hk7 (fun q hq h => by have := hfr q hq; have h : q = b2 := h; omega)
    exact ⟨_, rfl, _, acc, rfl, hP, SlR.ofRowK (by omega) encP encP_len (fun x _ => rfl) hown7 (fun q hq => by have := hfr q hq; omega), (hE5.trans hk6 (fun q hq h => by have h : q = b4 := h; have := hE3.size; omega)).trans hk7 (fun q hq h => by have h : q = b2 := h; have := hk1.size; omega)⟩

theorem check_swap {n : Int} {es : List (Int × Int)} (hc : Gr.check n es = 0) : Gr.check n (es.map fun e => (e.2, e.1)) = 0 := by
  obtain ⟨h1, h2, h3, h4⟩ := Gr.check_zero hc
  have hall : (es.map fun e => (e.2, e.1)).all (Gr.okE n) = true := by
    rw [List.all_eq_true]
    intro e he
    obtain ⟨x, hx, rfl⟩ := List.mem_map.1 he
    have := List.all_eq_true.1 h4 x hx
    simp [Gr.okE] at this ⊢
    omega
  unfold Gr.check
  rw [if_neg (by omega), if_neg (by rw [List.length_map]; omega), hall]
  rfl

theorem refReverse_ok (m : Nat) (es : List (Int × Int)) (ev : Value) (D : Nat → Prop) (w : World) (hes : SlR 2 RPair D w ev es) (hc : Gr.check m es = 0) : Calls Try.prog 20 #[.agg #[.int .i64 m, ev]] w (Ret fun r w' => ∃ v s, r = .tuple #[.agg #[.int .i64 m, v], .int .i64 0] ∧ PrP (fun x y => ((y : Int), (x : Int)) ∈ es) m m 0 s ∧ SlR 2 RPair (fun b => w.heap.size ≤ b) w' v s ∧ Ext w w') := by
  have hes' := hes
  obtain ⟨ao, cap, rfl, hlc, hcm, hel⟩ := hes'
  obtain ⟨hz1, hz2, hz3, hz4⟩ := Gr.check_zero hc
  refine calls Try.func20 rfl [(0, .agg #[.int .i64 m, .slice ao es.length cap])] 45 ⟨Nat.le_of_ble_eq_true rfl, Try.ntmps20⟩ (argsOk (Sub.cons rfl Sub.nil)) ?_
  refine WC.seq (WC.region ?_)
  refine WO.mem rfl rfl rfl (M.box rfl rfl) ?_
  rintro _ w1 ⟨g, rfl, hg, hs1, hB1, hk1⟩
  refine WO.mem rfl rfl rfl (M.alloc (cs := _) Try.zeroValue24 rfl) ?_
  rintro _ w2 ⟨b2, rfl, hb2, hs2, hB2, hk2⟩
  have hB12 := hk2.blk hB1 (fun h => h)
  refine WO.op rfl rfl rfl (R.assign rfl) ?_
  refine WO.nil (WX.next (WC.seq (WC.region ?_)))
  refine WO.op rfl rfl rfl (R.loadK Try.isAgg24 Try.sizeOf24 rfl (by rfl) hB12.cells) ?_
  refine WO.call rfl rfl rfl (F.call (vs := [_]) Try.call29 rfl) (refCheck_ok m es _ D w2 ((hes.ext stable_pair hk1).ext stable_pair hk2)) ?_
  rintro _ w3 ⟨rfl, hk3⟩
  have hB13 := hk3.blk hB12 (fun h => h)
  have hB23 := hk3.blk hB2 (fun h => h)
  have hE3 := (hk1.ext hk2).ext hk3
  rw [hc]
  refine WO.op rfl rfl rfl (R.assign rfl) ?_
  refine WO.nil (WX.next (WC.seq (WC.seq (WC.region ?_))))
  refine WO.op rfl rfl rfl (R.move rfl) ?_
  refine WO.op rfl rfl rfl (R.neq rfl rfl) ?_
  refine WO.nil (WX.next ?_)
  refine WC.ff rfl (rfl) ?_
  refine WC.skip (WX.next (WC.seq (WC.region ?_)))
  refine WO.op rfl rfl rfl (R.fieldAddr Try.runUnderlying24 rfl Try.sizeOf3 rfl) ?_
  refine WO.op rfl rfl rfl (R.load Try.isAgg3 rfl (hB13.cells 0 _ rfl)) ?_
  refine WO.op rfl rfl rfl (R.build (v := .agg #[.int .i64 m, .slice none 0 0]) [(0, _)] rfl (fun _ => by kernel_rfl)) ?_
  refine WO.mem rfl rfl rfl (M.alloc (cs := _) Try.zeroValue24 rfl) ?_
  rintro _ w4 ⟨b4, rfl, hb4, hs4, hB4, hk4⟩
  refine WO.mem0 rfl rfl (M.storeK Try.sizeOf24 rfl rfl rfl rfl (by simp [Value.oneCell']) hB4 (by simp)) ?_
  rintro w5 ⟨hs5, hB5, hk5⟩
  have hk35 : Ext w3 w5 := hk4.trans hk5 (fun q hq h => by omega)
  have hB15 := hk35.blk hB13 (fun h => h)
  have hB25 := hk35.blk hB23 (fun h => h)
  have hE5 := hE3.ext hk35
  have hg4 : g ≠ b4 := by have := hB13.lt; omega
  have hsz1 := hk2.size
  have hsz2 := hk3.size
  have hlt4 := hB5.lt
  have hltg := hB15.lt
  refine WO.nil (WX.next (WC.seq (WC.seq (WC.region ?_))))
  refine WO.op rfl rfl rfl (R.assign rfl) ?_
  refine WO.nil (WX.next (WC.block ?_))
  refine WC.loop (σ := Nat × Value) (fun ⟨k, va⟩ => [(1, .pointer (some ⟨g, 0, none⟩)), (2, .pointer (some ⟨b2, 0, none⟩)), (5, .pointer (some ⟨b4, 0, none⟩)), (6, .int .i64 k)]) (fun ⟨k, va⟩ => fun w' => k ≤ es.length ∧ w'.ownsRow 0 49 2 va k ((es.take k).flatMap fun e => encP (e.2, e.1)) ∧ (∀ q, va.ownBlock = some q → w5.heap.size ≤ q) ∧ Blk w' b4 [.int .i64 m, va] 24 ∧ Keep (fun q => q = b4) w5 w') (fun ⟨k, va⟩ => es.length - k) ((0, .slice none 0 0)) (Sub.cons rfl (Sub.cons rfl (Sub.cons rfl (Sub.cons rfl Sub.nil)))) (⟨Nat.zero_le _, own_nil _ _ _, by simp [Value.ownBlock], hB5, Keep.refl _ _⟩) ?_
  rintro ⟨k, va⟩ w6 ⟨hk, hown, hfr, hB6, hk6⟩
  show WC _ _ _ _ [(1, .pointer (some ⟨g, 0, none⟩)), (2, .pointer (some ⟨b2, 0, none⟩)), (5, .pointer (some ⟨b4, 0, none⟩)), (6, .int .i64 k)] _
  have hB16 := hk6.blk hB15 hg4
  refine WC.seq (WC.seq (WC.region ?_))
  refine WO.op rfl rfl rfl (R.move rfl) ?_
  refine WO.op rfl rfl rfl (R.fieldAddr Try.runUnderlying24 rfl Try.sizeOf22 rfl) ?_
  refine WO.op rfl rfl rfl (R.load Try.isAgg22 rfl (hB16.cells 1 _ rfl)) ?_
  refine WO.op rfl rfl rfl (R.lenS rfl Try.runUnderlying22 rfl) ?_
  refine WO.op rfl rfl rfl (R.lss rfl rfl) ?_
  refine WO.nil (WX.next ?_)
  refine WC.ite rfl (fun hlt => ?_) (fun hge => ?_)
  · obtain ⟨e, he⟩ : ∃ e, es[k]? = some e := ⟨_, List.getElem?_eq_getElem (by omega)⟩
    obtain ⟨be, oe, ce, hao, hDb, hcl, hcs, rfl⟩ := hel k e he
    have hbe : be < w.heap.size := World.block_lt_of_cell? w _ (hcs 0 _ rfl)
    have hcs6 := (hk6.cells (hE5.cells hcs (fun h => h)) (fun h => by have h : be = b4 := h; have := hE3.size; omega))
    have hsz6 := hk6.size
    have hsz5 := hE5.size
    have hb4o : va.ownBlock ≠ some b4 := fun h => by have := hfr b4 h; omega
    have hgo : va.ownBlock ≠ some g := fun h => by have := hfr g h; omega
    have hbo : va.ownBlock ≠ some be := fun h => by have := hfr be h; omega
    refine WC.skip (WX.next (WC.seq (WC.block ?_)))
    refine WC.draw (fun w' => Keep (fun q => va.ownBlock = some q) w6 w') [18] (by kernel_rfl) (fun w7 hE7 hh7 => ?_)
    have hK7 : Keep (fun q => va.ownBlock = some q) w6 w7 := hE7.mono (fun _ _ h => h.elim)
    refine WD.takeW 0 rfl (by kernel_rfl) rfl rfl rfl (fun w1 => R.fieldAddr Try.runUnderlying24 rfl Try.sizeOf22 rfl) ?_
    refine WD.take 1 rfl (by kernel_rfl) rfl rfl rfl hK7 (fun w1 hw1 => R.load Try.isAgg22 rfl ((hw1.blk hB6 hb4o).cells 1 _ rfl)) ?_
    refine WD.takeW 2 rfl (by kernel_rfl) rfl rfl rfl (fun w1 => R.fieldAddr Try.runUnderlying24 rfl Try.sizeOf22 rfl) ?_
    refine WD.take 3 rfl (by kernel_rfl) rfl rfl rfl hK7 (fun w1 hw1 => R.load Try.isAgg22 rfl ((hw1.blk hB16 hgo).cells 1 _ rfl)) ?_
    refine WD.takeW 4 rfl (by kernel_rfl) rfl rfl rfl (fun w1 => R.move rfl) ?_
    refine WD.takeW 5 rfl (by kernel_rfl) rfl rfl rfl (fun w1 => R.indexS Try.runUnderlying22 Try.sizeOf49 rfl rfl hao (by omega)) ?_
    refine WD.takeW 6 rfl (by kernel_rfl) rfl rfl rfl (fun w1 => R.indexA Try.runUnderlying49 Try.sizeOf3 rfl rfl (by omega)) ?_
    refine WD.take 7 rfl (by kernel_rfl) rfl rfl rfl hK7 (fun w1 hw1 => R.load Try.isAgg3 rfl (hw1.cells hcs6 hbo 1 _ rfl)) ?_
    refine WD.takeW 8 rfl (by kernel_rfl) rfl rfl rfl (fun w1 => R.fieldAddr Try.runUnderlying24 rfl Try.sizeOf22 rfl) ?_
    refine WD.take 9 rfl (by kernel_rfl) rfl rfl rfl hK7 (fun w1 hw1 => R.load Try.isAgg22 rfl ((hw1.blk hB16 hgo).cells 1 _ rfl)) ?_
    refine WD.takeW 10 rfl (by kernel_rfl) rfl rfl rfl (fun w1 => R.move rfl) ?_
    refine WD.takeW 11 rfl (by kernel_rfl) rfl rfl rfl (fun w1 => R.indexS Try.runUnderlying22 Try.sizeOf49 rfl rfl hao (by omega)) ?_
    refine WD.takeW 12 rfl (by kernel_rfl) rfl rfl rfl (fun w1 => R.indexA Try.runUnderlying49 Try.sizeOf3 rfl rfl (by omega)) ?_
    refine WD.take 13 rfl (by kernel_rfl) rfl rfl rfl hK7 (fun w1 hw1 => R.load Try.isAgg3 rfl (hw1.cells hcs6 hbo 0 _ rfl)) ?_
    refine WD.takeW 14 rfl (by kernel_rfl) rfl rfl rfl (fun w1 => R.build (v := .agg #[.int .i64 e.2, .int .i64 e.1]) [(0, _), (1, _)] rfl (fun _ => by kernel_rfl)) ?_
    refine WD.mem 15 rfl (by kernel_rfl) rfl rfl rfl (M.buildSlice (cs := encP (e.2, e.1)) [(0, _)] Try.runUnderlying22 Try.sizeOf49 Try.zeroValue49 (by decide) rfl (by kernel_rfl)) ?_
    rintro _ w8 ⟨b8, rfl, hb8, hs8, hB8, hk8⟩
    refine ⟨fun _ => hK7.ext hk8, ?_⟩
    have hown8 := own_keep (own_keep hown hE7 (fun _ _ h => h)) hk8 (fun _ _ h => h)
    refine WD.mem 16 rfl (by kernel_rfl) rfl rfl rfl (M.append Try.underlying22 Try.el49 rfl (by decide) rfl rfl hown8 rfl (Cells.add hB8.cells) (encP_one _) (by omega) (by omega)) ?_
    rintro va' w9 ⟨hown9, hfr9, hk9, _⟩
    have hK9 : Keep (fun q => va.ownBlock = some q) w6 w9 := (hK7.ext hk8).trans hk9 (fun _ _ h => h)
    refine ⟨fun _ => hK9, ?_⟩
    refine WD.takeW 17 rfl (by kernel_rfl) rfl rfl rfl (fun w1 => R.fieldAddr Try.runUnderlying24 rfl Try.sizeOf22 rfl) ?_
    obtain ⟨av, cv, rfl⟩ := own_form hown9
    refine WD.mem0 18 rfl (by kernel_rfl) rfl rfl (M.store Try.sizeOf22 rfl rfl rfl rfl (hK9.blk hB6 hb4o) (by simp)) ?_
    rintro w10 ⟨hs10, hB10, hk10⟩
    refine ⟨fun h => absurd (List.mem_singleton.2 rfl) h, ?_⟩
    rw [take_flat (fun e : Int × Int => encP (e.2, e.1)) he] at hown9
    have hsz7 := hE7.size
    have hsz8 := hk8.size
    have hfr' : ∀ q, (Value.slice av (k + 1) cv).ownBlock = some q → w5.heap.size ≤ q := by
      intro q hq
      rcases hfr9 with h | ⟨q', h, h'⟩
      · exact hfr q (by rw [← h]; exact hq)
      · rw [h] at hq; cases hq; omega
    have hb4n : (Value.slice av (k + 1) cv).ownBlock ≠ some b4 := fun h => by have := hfr' b4 h; omega
    refine WD.done (by kernel_rfl) ?_ _
    refine WX.blockN (WX.next (WC.region ?_))
    refine WO.op rfl rfl rfl (R.move rfl) ?_
    refine WO.op rfl rfl rfl (R.add rfl rfl (wrap_i64_in (by omega))) ?_
    refine WO.op rfl rfl rfl (R.assign rfl) ?_
    refine WO.nil ?_
    refine WX.back ((k + 1, .slice av (k + 1) cv)) (Sub.cons rfl (Sub.cons rfl (Sub.cons rfl (Sub.cons rfl Sub.nil)))) (⟨by omega, own_keep hown9 hk10 (fun q hq h => hb4n (by rw [hq]; exact congrArg some h)), hfr', hB10, ?_⟩) (by first | omega | (dsimp only; omega))
    exact (hk6.trans hK9 (fun q hq h => by have := hfr q h; omega)).trans hk10 (fun q hq h => h)
  · have hk' : k = es.length := by omega
    subst hk'
    rw [List.take_length] at hown
    have e1 : (es.flatMap fun e => encP (e.2, e.1)) = (es.map fun e => (e.2, e.1)).flatMap encP := by rw [List.flatMap_map]
    rw [e1] at hown
    have hb24 : b2 ≠ b4 := by have := hB23.lt; omega
    have hE6 : Ext w w6 := hE5.trans hk6 (fun q hq h => by have h : q = b4 := h; have := hE3.size; omega)
    have hB26 := hk6.blk hB25 hb24
    have hsl : SlR 2 RPair (fun _ => True) w6 va (es.map fun e => (e.2, e.1)) := SlR.ofRowK (by omega) encP encP_len (fun x _ => rfl) hown (fun q hq => trivial)
    refine WC.exit (WX.thenE (WX.thenE (WX.hit (WX.next (WC.seq (WC.region ?_))))))
    refine WO.op rfl rfl rfl (R.loadK Try.isAgg24 Try.sizeOf24 rfl (by rfl) hB6.cells) ?_
    refine WO.call rfl rfl rfl (F.call (vs := [_]) Try.call36 rfl) (refSimple_ok m _ _ _ w6 hsl (check_swap hc)) ?_
    rintro _ w7 ⟨v, s, rfl, hP, hsl7, hk7⟩
    have hB27 := hk7.blk hB26 (fun h => h)
    obtain ⟨a7, c7, rfl⟩ : ∃ a7 c7, v = .slice a7 s.length c7 := by obtain ⟨ao, cap, rfl, _⟩ := hsl7; exact ⟨_, _, rfl⟩
    refine WO.op rfl rfl rfl (R.extract rfl rfl) ?_
    refine WO.op rfl rfl rfl (R.extract rfl rfl) ?_
    refine WO.mem0 rfl rfl (M.storeK Try.sizeOf24 rfl rfl rfl rfl (by simp [Value.oneCell']) hB27 (by simp)) ?_
    rintro w8 ⟨hs8, hB8, hk8⟩
    refine WO.op rfl rfl rfl (R.assign rfl) ?_
    refine WO.nil (WX.next (WC.ret ?_))
    refine WX.retCT Try.results20 rfl (run_loadK Try.isAgg24 Try.sizeOf24 rfl hB8.cells) rfl ?_
    have hlt2 := hB26.lt
    have hsz6 := hE6.size
    refine ⟨_, rfl, _, s, rfl, ?_, (hsl7.keep stable_pair hk8 (fun q hq _ h => by have h : q = b2 := h; omega)).wide stable_pair (fun q hq => by omega), (hE6.ext hk7).trans hk8 (fun q hq h => by have h : q = b2 := h; have := hk1.size; omega)⟩
    refine ⟨fun e => ?_, hP.sorted, hP.short⟩
    rw [hP.mem]
    constructor
    · rintro ⟨x, y, h1, h2, h3, h4⟩
      obtain ⟨f, hf, hf2⟩ := List.mem_map.1 h3
      injection hf2 with hf3 hf4
      exact ⟨x, y, h1, h2, by rw [← hf3, ← hf4]; exact hf, h4⟩
    · rintro ⟨x, y, h1, h2, h3, h4⟩
      exact ⟨x, y, h1, h2, List.mem_map.2 ⟨_, h3, rfl⟩, h4⟩
end Go.Proofs.Yteilalejfphkgaa
