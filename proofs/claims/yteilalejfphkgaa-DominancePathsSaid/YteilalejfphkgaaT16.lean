/-
  The reference: reach. Contract; nothing here is a claim.
-/
import Derived.Test.YteilalejfphkgaaT15
namespace Go.GL.Dom
/-- Reached without the node x (-1: none). -/
inductive RE (es : List (Int × Int)) (root : Nat) (x : Int) : Nat → Prop
  | start : (root : Int) ≠ x → RE es root x root
  | step {a b : Nat} : RE es root x a → ((a : Int), (b : Int)) ∈ es → (b : Int) ≠ x → RE es root x b

theorem cnt_mono : ∀ (a b : List Bool), a.length = b.length → (∀ i : Nat, a[i]? = some true → b[i]? = some true) → a = b ∨ a.count true < b.count true
  | [], [], _, _ => .inl rfl
  | [], _ :: _, h, _ => by simp at h
  | _ :: _, [], h, _ => by simp at h
  | x :: a, y :: b, h, hm => by
    have ih := cnt_mono a b (by simpa using h) (fun i hi => by simpa using hm (i + 1) (by simpa using hi))
    have h0 := hm 0
    simp at h0
    cases x <;> cases y
    · rcases ih with rfl | ih
      · exact .inl rfl
      · exact .inr (by simpa using ih)
    · refine .inr ?_
      rcases ih with rfl | ih
      · simp
      · simp; omega
    · simp at h0
    · rcases ih with rfl | ih
      · exact .inl rfl
      · exact .inr (by simpa using ih)

/-- The marks of a round under way: bs0 at its start. -/
structure Mk (es : List (Int × Int)) (root m : Nat) (x : Int) (bs0 : List Bool) (j : Nat) (bs : List Bool) : Prop where
  len : bs.length = m
  sound : ∀ b : Nat, bs[b]? = some true → RE es root x b
  more : ∀ i : Nat, bs0[i]? = some true → bs[i]? = some true
  took : ∀ a b : Nat, ((a : Int), (b : Int)) ∈ es.take j → bs0[a]? = some true → (b : Int) ≠ x → bs[b]? = some true
/-- Between two rounds. -/
structure Mo (es : List (Int × Int)) (root m : Nat) (x : Int) (t : Nat) (bs : List Bool) : Prop where
  len : bs.length = m
  sound : ∀ b : Nat, bs[b]? = some true → RE es root x b
  begun : (root : Int) ≠ x → bs[root]? = some true
  grown : (∀ a b : Nat, bs[a]? = some true → ((a : Int), (b : Int)) ∈ es → (b : Int) ≠ x → bs[b]? = some true) ∨ t < bs.count true

section
variable {es : List (Int × Int)} {root m : Nat} {x : Int} {bs bs0 : List Bool} {t j : Nat}
theorem Mo.start (hr : root < m) (h : (root : Int) ≠ x) : Mo es root m x 0 ((List.replicate m false).set root true) := by
  have h1 : ∀ b : Nat, ((List.replicate m false).set root true)[b]? = some true → b = root := by
    intro b hb
    by_cases e : root = b
    · exact e.symm
    · rw [List.getElem?_set_ne e] at hb
      have := List.eq_of_mem_replicate (List.mem_of_getElem? hb)
      cases this
  refine ⟨by simp, fun b hb => by rw [h1 b hb]; exact .start h, fun _ => by rw [List.getElem?_set_self (by simpa using hr)], .inr ?_⟩
  have h2 : ((List.replicate m false).set root true)[root]? = some true := List.getElem?_set_self (by simpa using hr)
  exact List.count_pos_iff.2 (List.mem_of_getElem? h2)
theorem Mo.start0 (h : (root : Int) = x) : Mo es root m x 0 (List.replicate m false) := by
  have h1 : ∀ b : Nat, (List.replicate m false)[b]? ≠ some true := by
    intro b hb
    have := List.eq_of_mem_replicate (List.mem_of_getElem? hb)
    cases this
  exact ⟨by simp, fun b hb => absurd hb (h1 b), fun h' => absurd h h', .inl (fun a b ha => absurd ha (h1 a))⟩
theorem Mk.start (h : Mo es root m x t bs) : Mk es root m x bs 0 bs := ⟨h.len, h.sound, fun _ h => h, fun a b h => by simp at h⟩
theorem Mk.done (h0 : Mo es root m x t bs0) (h : Mk es root m x bs0 es.length bs) : Mo es root m x (t + 1) bs := by
  refine ⟨h.len, h.sound, fun hx => h.more _ (h0.begun hx), ?_⟩
  rcases cnt_mono bs0 bs (by rw [h.len, h0.len]) h.more with e | e
  · subst e
    exact .inl (fun a b ha he hx => h.took a b (by rw [List.take_length]; exact he) ha hx)
  · rcases h0.grown with hg | hg
    · -- bs0 closed: then bs has nothing new
      refine .inl (fun a b ha he hx => ?_)
      have hin : ∀ c : Nat, RE es root x c → bs0[c]? = some true := by
        intro c hc
        induction hc with
        | start h1 => exact h0.begun h1
        | step _ he hx ih => exact hg _ _ ih he hx
      exact h.more b (hg a b (hin a (h.sound a ha)) he hx)
    · exact .inr (by omega)
theorem Mk.same (h : Mk es root m x bs0 j bs) {a b : Nat} (he : es[j]? = some ((a : Int), (b : Int))) (hn : ¬ (bs[a]? = some true ∧ (b : Int) ≠ x)) : Mk es root m x bs0 (j + 1) bs := by
  obtain ⟨hj, hje⟩ := List.getElem?_eq_some_iff.1 he
  refine ⟨h.len, h.sound, h.more, fun c d hcd hc hd => ?_⟩
  rw [List.take_succ_eq_append_getElem hj, List.mem_append, List.mem_singleton, hje] at hcd
  rcases hcd with hcd | hcd
  · exact h.took c d hcd hc hd
  · simp at hcd
    obtain ⟨h1, h2⟩ := hcd
    have h1 := Int.ofNat.inj h1
    have h2 := Int.ofNat.inj h2
    subst h1
    subst h2
    exact absurd ⟨h.more _ hc, hd⟩ hn
theorem Mk.mark (h : Mk es root m x bs0 j bs) {a b : Nat} (he : es[j]? = some ((a : Int), (b : Int))) (ha : bs[a]? = some true) (hx : (b : Int) ≠ x) (hb : b < m) : Mk es root m x bs0 (j + 1) (bs.set b true) := by
  obtain ⟨hj, hje⟩ := List.getElem?_eq_some_iff.1 he
  have hs : ∀ i : Nat, bs[i]? = some true → (bs.set b true)[i]? = some true := by
    intro i hi
    by_cases e : b = i
    · subst e; rw [List.getElem?_set_self (by rw [h.len]; exact hb)]
    · rw [List.getElem?_set_ne e]; exact hi
  refine ⟨by rw [List.length_set]; exact h.len, fun c hc => ?_, fun i hi => hs i (h.more i hi), fun c d hcd hc hd => ?_⟩
  · by_cases e : b = c
    · subst e; exact .step (h.sound a ha) (List.mem_of_getElem? he) hx
    · rw [List.getElem?_set_ne e] at hc; exact h.sound c hc
  · rw [List.take_succ_eq_append_getElem hj, List.mem_append, List.mem_singleton, hje] at hcd
    rcases hcd with hcd | hcd
    · exact hs d (h.took c d hcd hc hd)
    · simp at hcd
      obtain ⟨h1, h2⟩ := hcd
      have h1 := Int.ofNat.inj h1
      have h2 := Int.ofNat.inj h2
      subst h1
      subst h2
      rw [List.getElem?_set_self (by rw [h.len]; exact hb)]
theorem Mo.done (h : Mo es root m x m bs) (b : Nat) : bs[b]? = some true ↔ RE es root x b := by
  refine ⟨h.sound b, fun hb => ?_⟩
  rcases h.grown with hg | hg
  · induction hb with
    | start h1 => exact h.begun h1
    | step _ he hx ih => exact hg _ _ ih he hx
  · have := List.count_le_length (a := true) (l := bs)
    rw [h.len] at this
    omega
end
end Go.GL.Dom
namespace Go.Proofs.Yteilalejfphkgaa
open Go.GL Go.GL.Dom Go.GL.Dfs

theorem reach_ok (m root : Nat) (x : Int) (es : List (Int × Int)) (ev : Value) (D : Nat → Prop) (w : World) (hes : SlR 2 RPair D w ev es) (hm : m ≤ 4096) (hall : es.all (Gr.okE m) = true) (hr : root < m) : Calls Try.prog 47 #[.agg #[.int .i64 m, ev], .int .i64 root, .int .i64 x] w (Ret fun u w' => ∃ (b : Nat) (bs : List Bool), u = .slice (some ⟨b, 0, none⟩) m m ∧ bs.length = m ∧ (∀ c : Nat, bs[c]? = some true ↔ RE es root x c) ∧ w.heap.size ≤ b ∧ Blk w' b (bs.map .bool) 4 ∧ Ext w w') := by
  obtain ⟨ao, cap, rfl, hlc, hcm, hel⟩ := hes
  have hed : ∀ e ∈ es, ∃ a b : Nat, e = ((a : Int), (b : Int)) ∧ a < m ∧ b < m := by
    intro e he
    have := List.all_eq_true.1 hall e he
    simp [Gr.okE] at this
    exact ⟨e.1.toNat, e.2.toNat, Prod.ext (by simp; omega) (by simp; omega), by omega, by omega⟩
  refine calls Try.func47 rfl [(0, .agg #[.int .i64 m, .slice ao es.length cap]), (1, .int .i64 root), (2, .int .i64 x)] 48 ⟨Nat.le_of_ble_eq_true rfl, Try.ntmps47⟩ (argsOk (Sub.cons rfl (Sub.cons rfl (Sub.cons rfl Sub.nil)))) ?_
  refine WC.seq (WC.region ?_)
  refine WO.mem rfl rfl rfl (M.box rfl rfl) ?_
  rintro _ w1 ⟨b, rfl, hb, hs1, hB1, hk1⟩
  refine WO.op rfl rfl rfl (R.assign rfl) ?_
  refine WO.nil (WX.next (WC.seq (WC.region ?_)))
  refine WO.op rfl rfl rfl (R.fieldAddr Try.runUnderlying24 rfl Try.sizeOf3 rfl) ?_
  refine WO.op rfl rfl rfl (R.load Try.isAgg3 rfl (hB1.cells 0 _ rfl)) ?_
  refine WO.mem rfl rfl rfl (M.make Try.underlying53 Try.el4 rfl rfl (by omega) (by omega) (made1 _ m rfl)) ?_
  rintro _ w2 ⟨bq, rfl, hbq, hs2, hB2, hk2⟩
  have hBb2 := hk2.blk hB1 (fun h => h)
  have hB2' : Blk w2 bq ((List.replicate m false).map .bool) 4 := by rw [List.map_replicate]; exact hB2
  refine WO.op rfl rfl rfl (R.assign rfl) ?_
  refine WO.nil (WX.next (WC.seq (WC.seq (WC.region ?_))))
  refine WO.op rfl rfl rfl (R.move rfl) ?_
  refine WO.op rfl rfl rfl (R.move rfl) ?_
  refine WO.op rfl rfl rfl (R.neq rfl rfl) ?_
  refine WO.nil (WX.next ?_)
  refine WC.cut (σ := List Bool) (fun bs => [(3, .pointer (some ⟨b, 0, none⟩)), (2, .int .i64 x), (7, .slice (some ⟨bq, 0, none⟩) m m)]) (fun bs => fun w' => Mo es root m x 0 bs ∧ Blk w' bq (bs.map .bool) 4 ∧ Keep (fun q => q = bq) w2 w') ?_ ?_
  ·
    refine WC.ite rfl (fun hne => ?_) (fun heq => ?_)
    ·
      refine WC.region ?_
      refine WO.op rfl rfl rfl (R.move rfl) ?_
      refine WO.op rfl rfl rfl (R.move rfl) ?_
      refine WO.op rfl rfl rfl (R.indexS Try.runUnderlying53 Try.sizeOf4 rfl rfl rfl (by omega)) ?_
      refine WO.mem0 rfl rfl (M.store Try.sizeOf4 rfl rfl rfl rfl hB2' (by simp; omega)) ?_
      rintro w3 ⟨hs3, hB3, hk3⟩
      rw [show 0 + (root : Int).toNat * 1 = root from by omega, ← List.map_set] at hB3
      refine WO.nil ?_
      refine WX.meet ((List.replicate m false).set root true) (Sub.cons rfl (Sub.cons rfl (Sub.cons rfl Sub.nil))) (⟨Mo.start hr hne, hB3, hk3⟩)
    ·
      refine WC.skip ?_
      refine WX.meet (List.replicate m false) (Sub.cons rfl (Sub.cons rfl (Sub.cons rfl Sub.nil))) (⟨Mo.start0 (by omega), hB2', Keep.refl _ _⟩)
  ·
    rintro bs0 w3 ⟨hMo, hB3, hk3⟩
    show WX _ _ _ [(3, .pointer (some ⟨b, 0, none⟩)), (2, .int .i64 x), (7, .slice (some ⟨bq, 0, none⟩) m m)] _
    refine WX.next (WC.seq (WC.seq (WC.region ?_)))
    refine WO.op rfl rfl rfl (R.fieldAddr Try.runUnderlying24 rfl Try.sizeOf3 rfl) ?_
    have hbb : b ≠ bq := by have := hB1.lt; omega
    refine WO.op rfl rfl rfl (R.load Try.isAgg3 rfl ((hk3.blk hBb2 hbb).cells 0 _ rfl)) ?_
    refine WO.op rfl rfl rfl (R.move rfl) ?_
    refine WO.nil (WX.next (WC.block ?_))
    refine WC.loop (σ := Nat × List Bool) (fun ⟨t, bs⟩ => [(3, .pointer (some ⟨b, 0, none⟩)), (2, .int .i64 x), (7, .slice (some ⟨bq, 0, none⟩) m m), (20, .int .i64 m), (21, .int .i64 t)]) (fun ⟨t, bs⟩ => fun w' => t ≤ m ∧ Mo es root m x t bs ∧ Blk w' bq (bs.map .bool) 4 ∧ Keep (fun q => q = bq) w2 w') (fun ⟨t, bs⟩ => m - t) ((0, bs0)) (Sub.cons rfl (Sub.cons rfl (Sub.cons rfl (Sub.cons rfl (Sub.cons rfl Sub.nil))))) (⟨Nat.zero_le _, hMo, hB3, hk3⟩) ?_
    rintro ⟨t, bs1⟩ w4 ⟨htm, hMo4, hB4, hk4⟩
    show WC _ _ _ _ [(3, .pointer (some ⟨b, 0, none⟩)), (2, .int .i64 x), (7, .slice (some ⟨bq, 0, none⟩) m m), (20, .int .i64 m), (21, .int .i64 t)] _
    refine WC.seq (WC.region ?_)
    refine WO.op rfl rfl rfl (R.lss rfl rfl) ?_
    refine WO.nil (WX.next (WC.seq ?_))
    refine WC.ite rfl (fun hlt => ?_) (fun hge => ?_)
    · have hBb4 := hk4.blk hBb2 hbb
      refine WC.skip (WX.next (WC.seq (WC.block (WC.seq (WC.region ?_)))))
      refine WO.op rfl rfl rfl (R.fieldAddr Try.runUnderlying24 rfl Try.sizeOf22 rfl) ?_
      refine WO.op rfl rfl rfl (R.load Try.isAgg22 rfl (hBb4.cells 1 _ rfl)) ?_
      refine WO.op rfl rfl rfl (R.lenS rfl Try.runUnderlying22 rfl) ?_
      refine WO.op rfl rfl rfl (R.move rfl) ?_
      refine WO.nil (WX.next (WC.block ?_))
      refine WC.loop (σ := Nat × List Bool) (fun ⟨j, bs⟩ => [(3, .pointer (some ⟨b, 0, none⟩)), (2, .int .i64 x), (7, .slice (some ⟨bq, 0, none⟩) m m), (20, .int .i64 m), (21, .int .i64 t), (24, .slice ao es.length cap), (25, .int .i64 es.length), (26, .int .i64 j)]) (fun ⟨j, bs⟩ => fun w' => j ≤ es.length ∧ Mk es root m x bs1 j bs ∧ Blk w' bq (bs.map .bool) 4 ∧ Keep (fun q => q = bq) w2 w') (fun ⟨j, bs⟩ => es.length - j) ((0, bs1)) (Sub.cons rfl (Sub.cons rfl (Sub.cons rfl (Sub.cons rfl (Sub.cons rfl (Sub.cons rfl (Sub.cons rfl (Sub.cons rfl Sub.nil)))))))) (⟨Nat.zero_le _, Mk.start hMo4, hB4, hk4⟩) ?_
      rintro ⟨j, bs⟩ w5 ⟨hjl, hMk, hB5, hk5⟩
      show WC _ _ _ _ [(3, .pointer (some ⟨b, 0, none⟩)), (2, .int .i64 x), (7, .slice (some ⟨bq, 0, none⟩) m m), (20, .int .i64 m), (21, .int .i64 t), (24, .slice ao es.length cap), (25, .int .i64 es.length), (26, .int .i64 j)] _
      have hlen := hMk.len
      have hE5 : Ext w w5 := (hk1.ext hk2).trans hk5 (fun q hq h => by have h : q = bq := h; omega)
      refine WC.seq (WC.region ?_)
      refine WO.op rfl rfl rfl (R.lss rfl rfl) ?_
      refine WO.nil (WX.next (WC.seq ?_))
      refine WC.ite rfl (fun hj => ?_) (fun hj => ?_)
      · obtain ⟨e, he⟩ : ∃ e, es[j]? = some e := ⟨_, List.getElem?_eq_getElem (by omega)⟩
        obtain ⟨be, oe, ce, hao, _, hcl, hcs, rfl⟩ := hel j e he
        obtain ⟨a, d, rfl, han, hdn⟩ := hed e (List.mem_of_getElem? he)
        have hcs5 := hE5.cells hcs (fun h => h)
        obtain ⟨s, hs⟩ : ∃ s, bs[a]? = some s := ⟨_, List.getElem?_eq_getElem (by omega)⟩
        have hsv : (bs.map Value.bool)[a]? = some (.bool s) := by rw [List.getElem?_map, hs]; rfl
        refine WC.skip (WX.next (WC.seq (WC.block (WC.seq (WC.region ?_)))))
        refine WO.op rfl rfl rfl (R.indexS Try.runUnderlying22 Try.sizeOf49 rfl rfl hao (by omega)) ?_
        refine WO.op rfl rfl rfl (R.loadK Try.isAgg49 Try.sizeOf49 rfl (by rfl) hcs5) ?_
        refine WO.mem rfl rfl rfl (M.alloc (cs := _) Try.zeroValue49 rfl) ?_
        rintro _ w6 ⟨b6, rfl, hb6, hs6, hB6, hk6⟩
        refine WO.mem0 rfl rfl (M.storeK Try.sizeOf49 rfl rfl rfl rfl (by simp [Value.oneCell']) hB6 (by simp)) ?_
        rintro w7 ⟨hs7, hB7, hk7⟩
        have hE57 : Ext w5 w7 := hk6.trans hk7 (fun q hq h => by have h : q = b6 := h; omega)
        have hB5' := hE57.blk hB5 (fun h => h)
        refine WO.nil (WX.next (WC.seq (WC.region ?_)))
        refine WO.op rfl rfl rfl (R.move rfl) ?_
        refine WO.op rfl rfl rfl (R.indexA Try.runUnderlying49 Try.sizeOf3 rfl rfl (by omega)) ?_
        refine WO.op rfl rfl rfl (R.load Try.isAgg3 rfl (hB7.cells 0 _ rfl)) ?_
        refine WO.op rfl rfl rfl (R.indexS Try.runUnderlying53 Try.sizeOf4 rfl rfl rfl (by omega)) ?_
        refine WO.op rfl rfl rfl (R.load Try.isAgg4 rfl (hB5'.cells.el1 a rfl hsv)) ?_
        refine WO.op rfl rfl rfl (R.move rfl) ?_
        refine WO.cases (p := s = true) (fun hst => ?_) (fun hst => ?_)
        · subst hst
          refine WO.yes rfl rfl rfl ?_
          refine WO.op rfl rfl rfl (R.indexA Try.runUnderlying49 Try.sizeOf3 rfl rfl (by omega)) ?_
          refine WO.yes rfl rfl rfl ?_
          refine WO.op rfl rfl rfl (R.load Try.isAgg3 rfl (hB7.cells 1 _ rfl)) ?_
          refine WO.yes rfl rfl rfl ?_
          refine WO.op rfl rfl rfl (R.move rfl) ?_
          refine WO.yes rfl rfl rfl ?_
          refine WO.op rfl rfl rfl (R.neq rfl rfl) ?_
          refine WO.op rfl rfl rfl (R.pickT rfl rfl rfl) ?_
          refine WO.nil (WX.next ?_)
          refine WC.ite rfl (fun hdx => ?_) (fun hdx => ?_)
          ·
            refine WC.region ?_
            refine WO.op rfl rfl rfl (R.move rfl) ?_
            refine WO.op rfl rfl rfl (R.indexA Try.runUnderlying49 Try.sizeOf3 rfl rfl (by omega)) ?_
            refine WO.op rfl rfl rfl (R.load Try.isAgg3 rfl (hB7.cells 1 _ rfl)) ?_
            refine WO.op rfl rfl rfl (R.indexS Try.runUnderlying53 Try.sizeOf4 rfl rfl rfl (by omega)) ?_
            refine WO.mem0 rfl rfl (M.store Try.sizeOf4 rfl rfl rfl rfl hB5' (by rw [List.length_map]; omega)) ?_
            rintro w8 ⟨hs8, hB8, hk8⟩
            rw [show 0 + (d : Int).toNat * 1 = d from by omega, ← List.map_set] at hB8
            refine WO.nil (WX.blockN (WX.next (WC.region ?_)))
            refine WO.op rfl rfl rfl (R.add rfl rfl (wrap_i64_in (by omega))) ?_
            refine WO.op rfl rfl rfl (R.move rfl) ?_
            refine WO.nil ?_
            refine WX.back ((j + 1, bs.set d true)) (Sub.cons rfl (Sub.cons rfl (Sub.cons rfl (Sub.cons rfl (Sub.cons rfl (Sub.cons rfl (Sub.cons rfl (Sub.cons rfl Sub.nil)))))))) (⟨by omega, hMk.mark he hs hdx hdn, hB8, (hk5.ext hE57).trans hk8 (fun _ _ h => h)⟩) (by first | omega | (dsimp only; omega))
          ·
            refine WC.skip (WX.blockN (WX.next (WC.region ?_)))
            refine WO.op rfl rfl rfl (R.add rfl rfl (wrap_i64_in (by omega))) ?_
            refine WO.op rfl rfl rfl (R.move rfl) ?_
            refine WO.nil ?_
            refine WX.back ((j + 1, bs)) (Sub.cons rfl (Sub.cons rfl (Sub.cons rfl (Sub.cons rfl (Sub.cons rfl (Sub.cons rfl (Sub.cons rfl (Sub.cons rfl Sub.nil)))))))) (⟨by omega, hMk.same he (fun h => hdx h.2), hB5', hk5.ext hE57⟩) (by first | omega | (dsimp only; omega))
        · have hsf : s = false := by simpa using hst
          subst hsf
          refine WO.no rfl rfl rfl rfl ?_
          refine WO.no rfl rfl rfl rfl ?_
          refine WO.no rfl rfl rfl rfl ?_
          refine WO.no rfl rfl rfl rfl ?_
          refine WO.op rfl rfl rfl (R.pickF rfl rfl rfl) ?_
          refine WO.nil (WX.next ?_)
          refine WC.ff rfl (rfl) ?_
          refine WC.skip (WX.blockN (WX.next (WC.region ?_)))
          refine WO.op rfl rfl rfl (R.add rfl rfl (wrap_i64_in (by omega))) ?_
          refine WO.op rfl rfl rfl (R.move rfl) ?_
          refine WO.nil ?_
          refine WX.back ((j + 1, bs)) (Sub.cons rfl (Sub.cons rfl (Sub.cons rfl (Sub.cons rfl (Sub.cons rfl (Sub.cons rfl (Sub.cons rfl (Sub.cons rfl Sub.nil)))))))) (⟨by omega, hMk.same he (fun h => by rw [hs] at h; exact absurd h.1 (by simp)), hB5', hk5.ext hE57⟩) (by first | omega | (dsimp only; omega))
      · have hj' : j = es.length := by omega
        subst hj'
        refine WC.exit (WX.thenE (WX.thenE (WX.hit (WX.blockN (WX.next (WC.region ?_))))))
        refine WO.op rfl rfl rfl (R.add rfl rfl (wrap_i64_in (by omega))) ?_
        refine WO.op rfl rfl rfl (R.move rfl) ?_
        refine WO.nil ?_
        refine WX.back ((t + 1, bs)) (Sub.cons rfl (Sub.cons rfl (Sub.cons rfl (Sub.cons rfl (Sub.cons rfl Sub.nil))))) (⟨by omega, hMk.done hMo4, hB5, hk5⟩) (by first | omega | (dsimp only; omega))
    · have ht : t = m := by omega
      subst ht
      have hE4 : Ext w w4 := (hk1.ext hk2).trans hk4 (fun q hq h => by have h : q = bq := h; omega)
      refine WC.exit (WX.thenE (WX.thenE (WX.hit (WX.next (WC.seq (WC.region ?_))))))
      refine WO.op rfl rfl rfl (R.move rfl) ?_
      refine WO.op rfl rfl rfl (R.assign rfl) ?_
      refine WO.nil (WX.next (WC.ret ?_))
      refine WX.ret1 Try.results47 rfl ⟨_, rfl, bq, bs1, rfl, hMo4.len, hMo4.done, by omega, hB4, hE4⟩
end Go.Proofs.Yteilalejfphkgaa
