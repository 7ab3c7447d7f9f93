/-
  digraph: simple, next, Successors, Reverse. Contracts; nothing here is a claim.
-/
import Derived.Test.YteilalejfphkgaaT4
namespace Go.Proofs.Yteilalejfphkgaa
open Go.GL

/-- The edges in ascending order, each once. -/
def Simple (es s : List (Int × Int)) : Prop := s.Pairwise lexLt ∧ (∀ e, e ∈ s ↔ e ∈ es) ∧ s.length ≤ es.length

theorem simple_ok (n : Int) (es : List (Int × Int)) (ev : Value) (D : Nat → Prop) (w : World) (hes : SlR 2 RPair D w ev es) (hlen : es.length ≤ 1048576) (hb : ∀ e ∈ es, bd e) : Calls Try.prog 59 #[.int .i64 n, ev] w (Ret fun u w' => ∃ s v, Simple es s ∧ u = .agg #[.int .i64 n, v] ∧ SlR 2 RPair (fun b => w.heap.size ≤ b) w' v s ∧ Ext w w') := by
  have hev : ev.oneCell' = true ∧ ev.cells = #[ev] := by obtain ⟨ao, cap, rfl, _⟩ := hes; exact ⟨rfl, rfl⟩
  refine calls Try.func59 rfl [(0, .int .i64 n), (1, ev)] 13 ⟨Nat.le_of_ble_eq_true rfl, Try.ntmps59⟩ (argsOk (Sub.cons rfl (Sub.cons rfl Sub.nil))) ?_
  refine WC.seq (WC.region ?_)
  refine WO.mem rfl rfl rfl (M.alloc (cs := _) Try.zeroValue24 rfl) ?_
  rintro _ w1 ⟨b, rfl, hb1, hs1, hB1, hk1⟩
  refine WO.nil (WX.next (WC.seq (WC.region ?_)))
  refine WO.op rfl rfl rfl (R.move rfl) ?_
  refine WO.call rfl rfl rfl (F.call (vs := [_]) Try.call82 rfl) (cloneP_ok es ev D w1 (hes.ext stable_pair hk1) hlen) ?_
  rintro v2 w2 ⟨hown2, hfr2, hk2⟩
  refine WO.op rfl rfl rfl (R.assign rfl) ?_
  refine WO.nil (WX.next (WC.seq (WC.region ?_)))
  refine WO.op rfl rfl rfl (R.move rfl) ?_
  refine WO.call rfl rfl rfl (F.call (vs := [_, _]) Try.call33 rfl) (sortP_ok 83 Try.call83 (fun a b => if a.1 ≠ b.1 then a.1 - b.1 else a.2 - b.2) (fun x y W hx hy => compare_ok x y W hx hy) (fun x y _ _ => by unfold lexLt; split <;> omega) es hb hlen v2 es.length w2 hown2) ?_
  rintro _ w3 ⟨rfl, es', hperm, hsort, hown3, hk3⟩
  refine WO.nil (WX.next (WC.seq (WC.region ?_)))
  refine WO.op rfl rfl rfl (R.move rfl) ?_
  refine WO.op rfl rfl rfl (R.move rfl) ?_
  refine WO.call rfl rfl rfl (F.call (vs := [_]) Try.call84 rfl) (compactP_ok es' v2 es.length w3 hown3 (by rw [hperm.length_eq]; exact hlen)) ?_
  rintro v4 w4 ⟨hown4, hbk4, hk4⟩
  have hE4 : Ext w1 w4 := (hk2.trans hk3 (fun q hq h => by have := hfr2 q h; omega)).trans hk4 (fun q hq h => by have := hfr2 q h; omega)
  have hv4 : v4.oneCell' = true ∧ v4.cells = #[v4] := by
    rcases hown4.2 with ⟨rfl, _⟩ | ⟨g, cap, cur, rfl, _⟩ <;> exact ⟨rfl, rfl⟩
  obtain ⟨a4, l4, c4, rfl⟩ : ∃ a l c, v4 = .slice a l c := by
    rcases hown4.2 with ⟨rfl, _⟩ | ⟨g, cap, cur, rfl, _⟩ <;> exact ⟨_, _, _, rfl⟩
  refine WO.op rfl rfl rfl (R.build (v := .agg #[.int .i64 n, .slice a4 l4 c4]) [(0, _), (1, _)] rfl (fun _ => by kernel_rfl)) ?_
  refine WO.mem0 rfl rfl (M.storeK Try.sizeOf24 rfl rfl rfl rfl (by simp [Value.oneCell']) (hE4.blk hB1 (fun h => h)) (by simp)) ?_
  rintro w5 ⟨hs5, hB5, hk5⟩
  refine WO.nil (WX.next (WC.ret ?_))
  refine WX.retC Try.results59 rfl (run_loadK Try.isAgg24 Try.sizeOf24 rfl hB5.cells) ?_
  have hk15 : Ext w w5 := (hk1.ext hE4).trans hk5 (fun q hq h => by omega)
  have hb4 : b < w4.heap.size := by have := hE4.size; omega
  refine ⟨_, rfl, Gr.compactL es', .slice a4 l4 c4, ⟨?_, ?_, by rw [← hperm.length_eq]; exact Gr.compactL_len _⟩, rfl, ?_, hk15⟩
  · have h1 := Gr.compactL_strict (le := fun a b => ¬ lexLt b a) (fun a b h1 h2 => by unfold lexLt at h1 h2; apply Prod.ext <;> omega) hsort
    refine h1.imp ?_
    rintro a b ⟨h2, h3⟩
    unfold lexLt at *
    by_cases h4 : a.1 = b.1
    · by_cases h5 : a.2 = b.2
      · exact absurd (Prod.ext h4 h5) h3
      · omega
    · omega
  · intro e
    rw [Gr.compactL_mem]
    exact hperm.mem_iff
  · have h5 := own_keep hown4 hk5 (fun g hg h => by rw [hbk4] at hg; have := hfr2 g hg; omega)
    exact SlR.ofRowK (by omega) encP encP_len (fun x _ => rfl) h5 (fun g hg => by rw [hbk4] at hg; have := hfr2 g hg; omega)

/-- R: for each node the nodes to which edges lead, in ascending order. -/
structure Succs (n : Nat) (es : List (Int × Int)) (R : List (List Int)) : Prop where
  len : R.length = n
  mem : ∀ (a : Nat) r, R[a]? = some r → ∀ b, b ∈ r ↔ ((a : Int), b) ∈ es
  sorted : ∀ (a : Nat) r, R[a]? = some r → r.Pairwise (· < ·)

theorem madeNil (n : Nat) : madeCells (Value.slice none 0 0).cells (n * 1) = (List.replicate n (.slice none 0 0)).toArray := made1 _ n rfl

theorem flat_one {α : Type} (f : α → Value) (l : List α) (x : α) : l.map f ++ [f x] = (l ++ [x]).map f := by simp

theorem next_ok (n : Nat) (es : List (Int × Int)) (ev : Value) (D : Nat → Prop) (w : World) (hes : SlR 2 RPair D w ev es) (hlen : es.length ≤ 1048576) (hn : n ≤ 4096) (hok : es.all (Gr.okE n) = true) : Calls Try.prog 56 #[.int .i64 n, ev] w (Ret fun u w' => ∃ R, Succs n es R ∧ SlR 1 (RSl 1 RInt) (fun b => w.heap.size ≤ b) w' u R ∧ Ext w w') := by
  have hed : ∀ e ∈ es, 0 ≤ e.1 ∧ e.1 < n ∧ 0 ≤ e.2 ∧ e.2 < n := by
    intro e he
    have := List.all_eq_true.1 hok e he
    simp [Gr.okE] at this
    omega
  refine calls Try.func56 rfl [(0, .int .i64 n), (1, ev)] 34 ⟨Nat.le_of_ble_eq_true rfl, Try.ntmps56⟩ (argsOk (Sub.cons rfl (Sub.cons rfl Sub.nil))) ?_
  refine WC.seq (WC.region ?_)
  refine WO.op rfl rfl rfl (R.assign rfl) ?_
  refine WO.nil (WX.next (WC.seq (WC.region ?_)))
  refine WO.op rfl rfl rfl (R.move rfl) ?_
  refine WO.mem rfl rfl rfl (M.make Try.underlying35 Try.el27 rfl rfl (by omega) (by omega) (madeNil n)) ?_
  rintro _ w1 ⟨bo, rfl, hbo, hs1, hB1, hk1⟩
  refine WO.op rfl rfl rfl (R.assign rfl) ?_
  refine WO.nil (WX.next (WC.seq (WC.seq (WC.region ?_))))
  refine WO.op rfl rfl rfl (R.move rfl) ?_
  refine WO.op rfl rfl rfl (R.move rfl) ?_
  refine WO.call rfl rfl rfl (F.call (vs := [_, _]) Try.call59 rfl) (simple_ok n es ev D w1 (hes.ext stable_pair hk1) hlen (fun e he => by have := hed e he; unfold bd; omega)) ?_
  rintro _ w2 ⟨s, v, ⟨hss, hsm, hsle⟩, rfl, hsl, hk2⟩
  obtain ⟨ao, cap, rfl, hlc, hcm, hel⟩ := hsl
  refine WO.op rfl rfl rfl (R.field Try.runUnderlying24 rfl Try.isAgg22 rfl rfl) ?_
  refine WO.op rfl rfl rfl (R.lenS rfl Try.runUnderlying22 rfl) ?_
  refine WO.op rfl rfl rfl (R.move rfl) ?_
  refine WO.nil (WX.next (WC.block ?_))
  have hM2 : Mat (Value.int .i64) 3 27 w2.heap.size w2 bo (List.replicate n (.slice none 0 0)) (Gr.rowsOf n []) := by
    rw [Gr.rowsOf_nil]
    exact (Mat.start hB1).ext hk2
  refine WC.loop (σ := Nat × List Value) (fun ⟨k, rv⟩ => [(5, .slice (some ⟨bo, 0, none⟩) n n), (13, .slice ao s.length cap), (14, .int .i64 s.length), (15, .int .i64 k)]) (fun ⟨k, rv⟩ => fun w' => k ≤ s.length ∧ Mat (Value.int .i64) 3 27 w2.heap.size w' bo rv (Gr.rowsOf n (s.take k)) ∧ (∀ b, w1.heap.size ≤ b → b < w2.heap.size → w'.heap[b]? = w2.heap[b]?) ∧ Ext w w' ∧ w2.heap.size ≤ w'.heap.size) (fun ⟨k, rv⟩ => s.length - k) ((0, List.replicate n (.slice none 0 0))) (Sub.cons rfl (Sub.cons rfl (Sub.cons rfl (Sub.cons rfl Sub.nil)))) (⟨Nat.zero_le _, hM2, fun _ _ _ => rfl, hk1.ext hk2, Nat.le_refl _⟩) ?_
  rintro ⟨k, rv⟩ w3 ⟨hkn, hM, hfix, hE3, hsz3⟩
  show WC _ _ _ _ [(5, .slice (some ⟨bo, 0, none⟩) n n), (13, .slice ao s.length cap), (14, .int .i64 s.length), (15, .int .i64 k)] _
  refine WC.seq (WC.region ?_)
  refine WO.op rfl rfl rfl (R.lss rfl rfl) ?_
  refine WO.nil (WX.next (WC.seq ?_))
  refine WC.ite rfl (fun hlt => ?_) (fun hge => ?_)
  ·
    refine WC.skip (WX.next (WC.seq (WC.block (WC.seq (WC.region ?_)))))
    obtain ⟨e, he⟩ : ∃ e, s[k]? = some e := ⟨_, List.getElem?_eq_getElem (by omega)⟩
    obtain ⟨be, oe, ce, hao, hDb, hcl, hcs, rfl⟩ := hel k e he
    have hee := hed e ((hsm e).1 (List.mem_of_getElem? he))
    obtain ⟨a, ha⟩ : ∃ a : Nat, e.1 = (a : Int) := ⟨e.1.toNat, by omega⟩
    have he' : s[k]? = some ((a : Int), e.2) := by rw [he, ← ha]
    refine WO.op rfl rfl rfl (R.indexS Try.runUnderlying22 Try.sizeOf49 rfl rfl hao (by omega)) ?_
    refine WO.op rfl rfl rfl (R.loadK Try.isAgg49 Try.sizeOf49 rfl (by rfl) (hcs.same (fun hlt => hfix be hDb hlt))) ?_
    refine WO.mem rfl rfl rfl (M.alloc (cs := _) Try.zeroValue49 rfl) ?_
    rintro _ w4 ⟨b4, rfl, hb4, hs4, hB4, hk4⟩
    refine WO.mem0 rfl rfl (M.storeK Try.sizeOf49 rfl rfl rfl rfl (encP_one e) hB4 (by simp)) ?_
    rintro w5 ⟨hs5, hB5, hk5⟩
    have hE35 : Ext w3 w5 := hk4.trans hk5 (fun q hq h => by omega)
    have hM5 := hM.ext hE35
    have hm := Mat.at (i := a) hM5 (by rw [Gr.rowsOf_len]; omega)
    obtain ⟨v, r, hv, hr⟩ := hm
    refine WO.nil (WX.next ?_)
    refine WC.draw (fun w' => Blk w' b4 (encP e) 49 ∧ Blk w' bo rv 27) [13] (by kernel_rfl) (fun w6 hE6 hh6 => ?_)
    have hB6 := hE6.blk hB5 (fun h => h)
    have hM6 := hM5.ext hE6
    refine WD.takeW 0 rfl (by kernel_rfl) rfl rfl rfl (fun w1 => R.move rfl) ?_
    refine WD.takeW 1 rfl (by kernel_rfl) rfl rfl rfl (fun w1 => R.indexA Try.runUnderlying49 Try.sizeOf3 rfl rfl (by omega)) ?_
    refine WD.take 2 rfl (by kernel_rfl) rfl rfl rfl ⟨hB6, hM6.out⟩ (fun w1 hw1 => R.load Try.isAgg3 rfl (hw1.1.cells 0 _ rfl)) ?_
    refine WD.takeW 3 rfl (by kernel_rfl) rfl rfl rfl (fun w1 => R.move rfl) ?_
    refine WD.takeW 4 rfl (by kernel_rfl) rfl rfl rfl (fun w1 => R.indexA Try.runUnderlying49 Try.sizeOf3 rfl rfl (by omega)) ?_
    refine WD.take 5 rfl (by kernel_rfl) rfl rfl rfl ⟨hB6, hM6.out⟩ (fun w1 hw1 => R.load Try.isAgg3 rfl (hw1.1.cells 0 _ rfl)) ?_
    refine WD.takeW 6 rfl (by kernel_rfl) rfl rfl rfl (fun w1 => R.indexS Try.runUnderlying35 Try.sizeOf27 rfl rfl rfl (by omega)) ?_
    refine WD.take 7 rfl (by kernel_rfl) rfl rfl rfl ⟨hB6, hM6.out⟩ (fun w1 hw1 => R.load Try.isAgg27 rfl (hw1.2.cells.el1 a ha hv)) ?_
    refine WD.takeW 8 rfl (by kernel_rfl) rfl rfl rfl (fun w1 => R.indexA Try.runUnderlying49 Try.sizeOf3 rfl rfl (by omega)) ?_
    refine WD.take 9 rfl (by kernel_rfl) rfl rfl rfl ⟨hB6, hM6.out⟩ (fun w1 hw1 => R.load Try.isAgg3 rfl (hw1.1.cells 1 _ rfl)) ?_
    refine WD.mem 10 rfl (by kernel_rfl) rfl rfl rfl (M.buildSlice (cs := [.int .i64 e.2]) [(0, _)] Try.runUnderlying27 Try.sizeOf3 Try.zeroValue3 (by decide) rfl (by kernel_rfl)) ?_
    rintro _ w7 ⟨b7, rfl, hb7, hs7, hB7, hk7⟩
    refine ⟨fun _ => ⟨hk7.blk hB6 (fun h => h), hk7.blk hM6.out (fun h => h)⟩, ?_⟩
    have hM7 := hM6.ext hk7
    have hrow := hM7.row a v r hv hr
    have hrl : r.length ≤ 1048576 := by
      have h1 : r.length ≤ s.length := by
        rw [Gr.rowsOf_at (by omega)] at hr
        cases hr
        rw [List.length_map]
        exact Nat.le_trans (List.length_filter_le _ _) (by rw [List.length_take]; omega)
      omega
    refine WD.mem 11 rfl (by kernel_rfl) rfl rfl rfl (M.append Try.underlying27 Try.el3 rfl (by decide) rfl rfl hrow rfl (Cells.add hB7.cells) (by simp; rfl) (by omega) (by omega)) ?_
    rintro v' w8 ⟨hown8, hfr8, hk8, _⟩
    obtain ⟨av, cv, rfl⟩ := own_form hown8
    have hbo8 : v.ownBlock ≠ some bo := fun h => (hM7.far a v bo hv h).2 rfl
    have hb48 : v.ownBlock ≠ some b4 := fun h => by have := hM.blk hv h; omega
    refine ⟨fun _ => ⟨hk8.blk (hk7.blk hB6 (fun h => h)) hb48, hk8.blk hM7.out hbo8⟩, ?_⟩
    refine WD.takeW 12 rfl (by kernel_rfl) rfl rfl rfl (fun w1 => R.indexS Try.runUnderlying35 Try.sizeOf27 rfl rfl rfl (by omega)) ?_
    refine WD.mem0 13 rfl (by kernel_rfl) rfl rfl (M.store Try.sizeOf27 rfl rfl rfl rfl (hk8.blk hM7.out hbo8) (by rw [hM7.len, Gr.rowsOf_len]; omega)) ?_
    rintro w9 hW9
    refine ⟨fun h => absurd (List.mem_singleton.2 rfl) h, ?_⟩
    rw [show 0 + e.1.toNat * 1 = a from by omega] at hW9
    have hk79 : Keep (fun q => v.ownBlock = some q ∨ q = bo) w7 w9 := (hk8.mono (fun _ _ h => .inl h)).trans hW9.2.2 (fun _ _ h => .inr h)
    have hk39 : Keep (fun q => v.ownBlock = some q ∨ q = bo) w3 w9 := ((hE35.ext (hE6.ext hk7)).mono (fun _ _ h => h.elim)).trans hk79 (fun _ _ h => h)
    refine WD.done (by kernel_rfl) ?_ _
    refine WX.blockN (WX.next (WC.region ?_))
    refine WO.op rfl rfl rfl (R.add rfl rfl (wrap_i64_in (by omega))) ?_
    refine WO.op rfl rfl rfl (R.move rfl) ?_
    refine WO.nil ?_
    refine WX.back ((k + 1, rv.set a (.slice av (r.length + 1) cv))) (Sub.cons rfl (Sub.cons rfl (Sub.cons rfl (Sub.cons rfl Sub.nil)))) (⟨by omega, ?_, ?_, ?_, ?_⟩) (by first | omega | (dsimp only; omega))
    · show Mat _ _ _ _ _ _ _ (Gr.rowsOf n (s.take (k + 1)))
      rw [Gr.rowsOf_take he' hr]
      exact hM7.push (by have := hk2.size; have := hk7.size; have := hE6.size; have := hE35.size; omega) hv hr hown8 hfr8 hk8 hW9
    · intro q hq1 hq2
      rw [hk39.block q (by omega) (fun h => by rcases h with h | h <;> first | omega | (have := hM.far a v q hv h; omega))]
      exact hfix q hq1 hq2
    · exact hE3.trans hk39 (fun q hq h => by have := hk1.size; rcases h with h | h <;> first | omega | (have := (hM.far a v q hv h).1; have := hk2.size; omega))
    · have := hk39.size; omega
  ·
    refine WC.exit (WX.thenE (WX.thenE (WX.hit (WX.next (WC.seq (WC.region ?_))))))
    refine WO.op rfl rfl rfl (R.move rfl) ?_
    refine WO.op rfl rfl rfl (R.assign rfl) ?_
    refine WO.nil (WX.next (WC.ret ?_))
    refine WX.ret1 Try.results56 rfl ⟨_, rfl, Gr.rowsOf n s, ⟨Gr.rowsOf_len n s, ?_, ?_⟩, ?_, hE3⟩
    · intro a r hr b
      rw [Gr.rowsOf_mem hr, hsm]
    · intro a r hr
      exact Gr.rowsOf_sorted hr hss
    · have : k = s.length := by omega
      subst this
      rw [List.take_length] at hM
      exact hM.sl (fun _ => rfl) (by omega) (fun i v g hv hg => by have := (hM.far i v g hv hg).1; have := hk1.size; have := hk2.size; omega) (by rw [Gr.rowsOf_len]) (by rw [Gr.rowsOf_len]; omega) (by omega)

theorem successors_ok (n : Int) (es : List (Int × Int)) (ev : Value) (D : Nat → Prop) (w : World) (hes : SlR 2 RPair D w ev es) : Calls Try.prog 42 #[.agg #[.int .i64 n, ev]] w (Ret fun v w' => ∃ u, v = .tuple #[u, .int .i64 (Gr.check n es)] ∧ (Gr.check n es ≠ 0 → u = .slice none 0 0) ∧ (Gr.check n es = 0 → ∃ R, Succs n.toNat es R ∧ SlR 1 (RSl 1 RInt) (fun b => w.heap.size ≤ b) w' u R) ∧ Ext w w') := by
  have hes' := hes
  obtain ⟨ao, cap, rfl, _⟩ := hes'
  refine calls Try.func42 rfl [(0, .agg #[.int .i64 n, .slice ao es.length cap])] 15 ⟨Nat.le_of_ble_eq_true rfl, Try.ntmps42⟩ (argsOk (Sub.cons rfl Sub.nil)) ?_
  refine WC.seq (WC.region ?_)
  refine WO.mem rfl rfl rfl (M.box rfl rfl) ?_
  rintro _ w1 ⟨b, rfl, hb, hs1, hB1, hk1⟩
  refine WO.op rfl rfl rfl (R.assign rfl) ?_
  refine WO.op rfl rfl rfl (R.assign rfl) ?_
  refine WO.nil (WX.next (WC.seq (WC.seq (WC.region ?_))))
  refine WO.op rfl rfl rfl (R.loadK Try.isAgg24 Try.sizeOf24 rfl (by rfl) hB1.cells) ?_
  refine WO.call rfl rfl rfl (F.call (vs := [_]) Try.call55 rfl) (check_ok n es _ D w1 (hes.ext stable_pair hk1)) ?_
  rintro _ w2 ⟨rfl, hk2⟩
  have hB2 := hk2.blk hB1 (fun h => h)
  refine WO.op rfl rfl rfl (R.assign rfl) ?_
  refine WO.nil (WX.next (WC.seq (WC.region ?_)))
  refine WO.op rfl rfl rfl (R.move rfl) ?_
  refine WO.op rfl rfl rfl (R.neq rfl rfl) ?_
  refine WO.nil (WX.next ?_)
  refine WC.ite rfl (fun hc => ?_) (fun hc => ?_)
  ·
    refine WC.seq (WC.region ?_)
    refine WO.op rfl rfl rfl (R.move rfl) ?_
    refine WO.op rfl rfl rfl (R.assign rfl) ?_
    refine WO.op rfl rfl rfl (R.assign rfl) ?_
    refine WO.nil (WX.next (WC.ret (WX.thenR ?_)))
    refine WX.ret2 Try.results42 rfl rfl ⟨_, rfl, _, rfl, fun _ => rfl, fun h => absurd h hc, hk1.ext hk2⟩
  · have hc0 : Gr.check n es = 0 := by simpa using hc
    obtain ⟨h1, h2, h3, h4⟩ := Gr.check_zero hc0
    obtain ⟨m, rfl⟩ := Int.eq_ofNat_of_zero_le h1
    refine WC.skip (WX.next (WC.seq (WC.region ?_)))
    refine WO.op rfl rfl rfl (R.fieldAddr Try.runUnderlying24 rfl Try.sizeOf3 rfl) ?_
    refine WO.op rfl rfl rfl (R.load Try.isAgg3 rfl (hB2.cells 0 _ rfl)) ?_
    refine WO.op rfl rfl rfl (R.fieldAddr Try.runUnderlying24 rfl Try.sizeOf22 rfl) ?_
    refine WO.op rfl rfl rfl (R.load Try.isAgg22 rfl (hB2.cells 1 _ rfl)) ?_
    refine WO.call rfl rfl rfl (F.call (vs := [_, _]) Try.call56 rfl) (next_ok m es _ D w2 ((hes.ext stable_pair hk1).ext stable_pair hk2) h3 (by omega) h4) ?_
    rintro u w3 ⟨Rw, hR, hu, hk3⟩
    refine WO.op rfl rfl rfl (R.assign rfl) ?_
    refine WO.op rfl rfl rfl (R.assign rfl) ?_
    refine WO.nil (WX.next (WC.ret ?_))
    rw [hc0]
    refine WX.ret2 Try.results42 rfl rfl ⟨_, rfl, u, rfl, fun h => absurd rfl h, fun _ => ⟨Rw, hR, hu.wide (stable_sl stable_int) (fun b h => by have := hk1.size; have := hk2.size; omega)⟩, (hk1.ext hk2).ext hk3⟩

theorem reverse_ok (n : Int) (es : List (Int × Int)) (ev : Value) (D : Nat → Prop) (w : World) (hes : SlR 2 RPair D w ev es) : Calls Try.prog 49 #[.agg #[.int .i64 n, ev]] w (Ret fun v w' => ∃ u, v = .tuple #[u, .int .i64 (Gr.check n es)] ∧ (Gr.check n es ≠ 0 → u = .agg #[.int .i64 0, .slice none 0 0]) ∧ (Gr.check n es = 0 → ∃ s v, Simple (es.map fun e => (e.2, e.1)) s ∧ u = .agg #[.int .i64 n, v] ∧ SlR 2 RPair (fun b => w.heap.size ≤ b) w' v s) ∧ Ext w w') := by
  have hes' := hes
  obtain ⟨ao, cap, rfl, _⟩ := hes'
  refine calls Try.func49 rfl [(0, .agg #[.int .i64 n, .slice ao es.length cap])] 16 ⟨Nat.le_of_ble_eq_true rfl, Try.ntmps49⟩ (argsOk (Sub.cons rfl Sub.nil)) ?_
  refine WC.seq (WC.region ?_)
  refine WO.mem rfl rfl rfl (M.box rfl rfl) ?_
  rintro _ w1 ⟨b, rfl, hb, hs1, hB1, hk1⟩
  refine WO.mem rfl rfl rfl (M.alloc (cs := _) Try.zeroValue24 rfl) ?_
  rintro _ w2 ⟨b2, rfl, hb2, hs2, hB2, hk2⟩
  have hB12 := hk2.blk hB1 (fun h => h)
  refine WO.op rfl rfl rfl (R.assign rfl) ?_
  refine WO.nil (WX.next (WC.seq (WC.seq (WC.region ?_))))
  refine WO.op rfl rfl rfl (R.loadK Try.isAgg24 Try.sizeOf24 rfl (by rfl) hB12.cells) ?_
  refine WO.call rfl rfl rfl (F.call (vs := [_]) Try.call55 rfl) (check_ok n es _ D w2 ((hes.ext stable_pair hk1).ext stable_pair hk2)) ?_
  rintro _ w3 ⟨rfl, hk3⟩
  have hB13 := hk3.blk hB12 (fun h => h)
  have hB3 := hk3.blk hB2 (fun h => h)
  have hE3 := (hk1.ext hk2).ext hk3
  refine WO.op rfl rfl rfl (R.assign rfl) ?_
  refine WO.nil (WX.next (WC.seq (WC.region ?_)))
  refine WO.op rfl rfl rfl (R.move rfl) ?_
  refine WO.op rfl rfl rfl (R.neq rfl rfl) ?_
  refine WO.nil (WX.next ?_)
  refine WC.ite rfl (fun hc => ?_) (fun hc => ?_)
  ·
    refine WC.seq (WC.region ?_)
    refine WO.op rfl rfl rfl (R.build (v := .agg #[.int .i64 0, .slice none 0 0]) [] rfl (fun _ => by kernel_rfl)) ?_
    refine WO.op rfl rfl rfl (R.move rfl) ?_
    refine WO.mem0 rfl rfl (M.storeK Try.sizeOf24 rfl rfl rfl rfl (by simp [Value.oneCell']) hB3 (by simp)) ?_
    rintro w4 ⟨hs4, hB4, hk4⟩
    refine WO.op rfl rfl rfl (R.assign rfl) ?_
    refine WO.nil (WX.next (WC.ret (WX.thenR ?_)))
    refine WX.retCT Try.results49 rfl (run_loadK Try.isAgg24 Try.sizeOf24 rfl hB4.cells) rfl ?_
    exact ⟨_, rfl, _, rfl, fun _ => rfl, fun h => absurd h hc, hE3.trans hk4 (fun q hq h => by have := hk1.size; omega)⟩
  · have hc0 : Gr.check n es = 0 := by simpa using hc
    obtain ⟨h1, h2, h3, h4⟩ := Gr.check_zero hc0
    have hed : ∀ e ∈ es.map (fun e : Int × Int => (e.2, e.1)), bd e := by
      intro e he
      obtain ⟨x, hx, rfl⟩ := List.mem_map.1 he
      have := List.all_eq_true.1 h4 x hx
      simp [Gr.okE] at this
      unfold bd; dsimp only; omega
    refine WC.skip (WX.next (WC.seq ?_))
    refine WC.draw (fun w' => Blk w' b [.int .i64 n, .slice ao es.length cap] 24 ∧ Ext w3 w') [5, 6] (by kernel_rfl) (fun w4 hE4 hh4 => ?_)
    refine WD.takeW 0 rfl (by kernel_rfl) rfl rfl rfl (fun w1 => R.fieldAddr Try.runUnderlying24 rfl Try.sizeOf3 rfl) ?_
    refine WD.take 1 rfl (by kernel_rfl) rfl rfl rfl ⟨hE4.blk hB13 (fun h => h), hE4⟩ (fun w1 hw1 => R.load Try.isAgg3 rfl (hw1.1.cells 0 _ rfl)) ?_
    refine WD.take 2 rfl (by kernel_rfl) rfl rfl rfl ⟨hE4.blk hB13 (fun h => h), hE4⟩ (fun w1 hw1 => R.loadK Try.isAgg24 Try.sizeOf24 rfl (by rfl) hw1.1.cells) ?_
    refine WD.call 3 rfl (by kernel_rfl) rfl rfl rfl (F.call (vs := [_]) Try.call60 rfl) (turned_ok n es _ D w4 (hes.ext stable_pair (hE3.ext hE4)) h3) ?_
    rintro v5 w5 ⟨hv5, hk5⟩
    refine ⟨fun _ => ⟨(hE4.ext hk5).blk hB13 (fun h => h), hE4.ext hk5⟩, ?_⟩
    refine WD.call 4 rfl (by kernel_rfl) rfl rfl rfl (F.call (vs := [_, _]) Try.call59 rfl) (simple_ok n _ v5 _ w5 hv5 (by simpa using h3) hed) ?_
    rintro _ w6 ⟨s, v, hs, rfl, hsl, hk6⟩
    refine ⟨fun _ => ⟨((hE4.ext hk5).ext hk6).blk hB13 (fun h => h), (hE4.ext hk5).ext hk6⟩, ?_⟩
    have hv6 : v.oneCell' = true := by obtain ⟨ao, cap, rfl, _⟩ := hsl; rfl
    have hE6 := (hE4.ext hk5).ext hk6
    obtain ⟨a6, c6, rfl⟩ : ∃ a6 c6, v = .slice a6 s.length c6 := by obtain ⟨ao, cap, rfl, _⟩ := hsl; exact ⟨_, _, rfl⟩
    refine WD.mem0 5 rfl (by kernel_rfl) rfl rfl (M.storeK Try.sizeOf24 rfl rfl rfl rfl (by simp [Value.oneCell']) (hE6.blk hB3 (fun h => h)) (by simp)) ?_
    rintro w7 ⟨hs7, hB7, hk7⟩
    refine ⟨fun h => absurd (by simp) h, ?_⟩
    refine WD.takeW 6 rfl (by kernel_rfl) rfl rfl rfl (fun w1 => R.assign rfl) ?_
    refine WD.done (by kernel_rfl) ?_ _
    refine WX.next (WC.ret ?_)
    refine WX.retCT Try.results49 rfl (run_loadK Try.isAgg24 Try.sizeOf24 rfl hB7.cells) rfl ?_
    rw [hc0]
    exact ⟨_, rfl, _, rfl, fun h => absurd rfl h, fun _ => ⟨s, _, hs, rfl, (hsl.keep stable_pair hk7 (fun q hq _ h => by have := hk3.size; have := hE4.size; have := hk5.size; omega)).wide stable_pair (fun q hq => by have := hE3.size; have := hE4.size; have := hk5.size; omega)⟩, (hE3.ext hE6).trans hk7 (fun q hq h => by have := hk1.size; omega)⟩
end Go.Proofs.Yteilalejfphkgaa
