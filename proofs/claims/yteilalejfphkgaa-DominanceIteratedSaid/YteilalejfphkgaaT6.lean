/-
  dominance: meet, search. Contracts; nothing here is a claim.
-/
import Derived.Test.YteilalejfphkgaaT5
import Derived.Test.YteilalejfphkgaaDom
import Derived.Test.YteilalejfphkgaaDfs
namespace Go.Proofs.Yteilalejfphkgaa
open Go.GL Go.GL.Dom

theorem map_at {α β : Type} {f : α → β} {l : List α} {i : Nat} {x : α} (h : l[i]? = some x) : (l.map f)[i]? = some (f x) := by simp [h]

theorem meet_ok {pl T : List Int} {root n bw bp bt : Nat} {nv bv ov : Value} (w : World) (hc : Chain pl T root) (hW : Blk w bw [nv, bv, ov, .slice (some ⟨bp, 0, none⟩) n n, .slice (some ⟨bt, 0, none⟩) n n] 58) (hP : Blk w bp (pl.map (.int .i64)) 3) (hT : Blk w bt (T.map (.int .i64)) 3)
    (hpl : pl.length = n) (hTl : T.length = n) (a b : Nat) (ha : 0 ≤ lk T a) (hb : 0 ≤ lk T b) :
    Calls Try.prog 58 #[.pointer (some ⟨bw, 0, none⟩), .int .i64 a, .int .i64 b] w (Ret fun v w' => ∃ m : Nat, v = .int .i64 m ∧ Meet T root a b m ∧ 0 ≤ lk T m ∧ Ext w w') := by
  refine calls Try.func58 rfl [(0, .pointer (some ⟨bw, 0, none⟩)), (1, .int .i64 a), (2, .int .i64 b)] 40 ⟨Nat.le_of_ble_eq_true rfl, Try.ntmps58⟩ (argsOk (Sub.cons rfl (Sub.cons rfl (Sub.cons rfl Sub.nil)))) ?_
  refine WC.seq (WC.region ?_)
  refine WO.op rfl rfl rfl (R.assign rfl) ?_
  refine WO.nil (WX.next (WC.seq (WC.block ?_)))
  refine WC.loop (σ := Nat × Nat) (fun ⟨x, y⟩ => [(0, .pointer (some ⟨bw, 0, none⟩)), (1, .int .i64 x), (2, .int .i64 y)]) (fun ⟨x, y⟩ => fun w' => MeetInv T root a b x y ∧ 0 ≤ lk T x ∧ 0 ≤ lk T y ∧ Ext w w') (fun ⟨x, y⟩ => (lk pl x + lk pl y).toNat) ((a, b)) (Sub.cons rfl (Sub.cons rfl (Sub.cons rfl Sub.nil))) (⟨.start a b, ha, hb, Keep.refl _ _⟩) ?_
  rintro ⟨x, y⟩ w1 ⟨hI, hx, hy, hk1⟩
  show WC _ _ _ _ [(0, .pointer (some ⟨bw, 0, none⟩)), (1, .int .i64 x), (2, .int .i64 y)] _
  have hW1 := hk1.blk hW (fun h => h)
  have hP1 := hk1.blk hP (fun h => h)
  have hT1 := hk1.blk hT (fun h => h)
  have hpx := hc.proc x hx
  have hpy := hc.proc y hy
  have hlx : x < n := by rw [← hpl]; exact (List.getElem?_eq_some_iff.1 (lk_get hpx)).1
  have hly : y < n := by rw [← hpl]; exact (List.getElem?_eq_some_iff.1 (lk_get hpy)).1
  refine WC.seq (WC.seq (WC.region ?_))
  refine WO.op rfl rfl rfl (R.move rfl) ?_
  refine WO.op rfl rfl rfl (R.move rfl) ?_
  refine WO.op rfl rfl rfl (R.neq rfl rfl) ?_
  refine WO.nil (WX.next ?_)
  refine WC.ite rfl (fun hne => ?_) (fun heq => ?_)
  ·
    refine WC.skip (WX.next (WC.block (WC.seq ?_)))
    refine WC.quiet (by kernel_rfl) (by kernel_rfl) ?_
    refine WQ.op rfl rfl rfl (fun w1 hw1 => R.move rfl) ?_
    refine WQ.op rfl rfl rfl (fun w1 hw1 => R.nilCheck rfl) ?_
    refine WQ.op rfl rfl rfl (fun w1 hw1 => R.fieldAddr Try.runUnderlying58 rfl Try.sizeOf27 rfl) ?_
    refine WQ.op rfl rfl rfl (fun w1 hw1 => R.load Try.isAgg27 rfl (hw1.cell (hW1.cells 3 _ rfl) (fun h => h))) ?_
    refine WQ.op rfl rfl rfl (fun w1 hw1 => R.move rfl) ?_
    refine WQ.op rfl rfl rfl (fun w1 hw1 => R.indexS Try.runUnderlying27 Try.sizeOf3 rfl rfl rfl (by omega)) ?_
    refine WQ.op rfl rfl rfl (fun w1 hw1 => R.load Try.isAgg3 rfl (hw1.cell (hP1.cells.el1 x rfl (map_at (lk_get hpx))) (fun h => h))) ?_
    refine WQ.op rfl rfl rfl (fun w1 hw1 => R.move rfl) ?_
    refine WQ.op rfl rfl rfl (fun w1 hw1 => R.nilCheck rfl) ?_
    refine WQ.op rfl rfl rfl (fun w1 hw1 => R.fieldAddr Try.runUnderlying58 rfl Try.sizeOf27 rfl) ?_
    refine WQ.op rfl rfl rfl (fun w1 hw1 => R.load Try.isAgg27 rfl (hw1.cell (hW1.cells 3 _ rfl) (fun h => h))) ?_
    refine WQ.op rfl rfl rfl (fun w1 hw1 => R.move rfl) ?_
    refine WQ.op rfl rfl rfl (fun w1 hw1 => R.indexS Try.runUnderlying27 Try.sizeOf3 rfl rfl rfl (by omega)) ?_
    refine WQ.op rfl rfl rfl (fun w1 hw1 => R.load Try.isAgg3 rfl (hw1.cell (hP1.cells.el1 y rfl (map_at (lk_get hpy))) (fun h => h))) ?_
    refine WQ.op rfl rfl rfl (fun w1 hw1 => R.gtr rfl rfl) ?_
    refine WQ.nil (fun w2 hk2 => ?_)
    have hW2 := hk2.blk hW1 (fun h => h)
    have hT2 := hk2.blk hT1 (fun h => h)
    have hxy : x ≠ y := by omega
    refine WX.next ?_
    refine WC.ite rfl (fun hlt => ?_) (fun hge => ?_)
    · have hxr : x ≠ root := by rintro rfl; rw [hc.rootP] at hlt; omega
      obtain ⟨p, hp1, hp2, hp3⟩ := hc.par x hx hxr
      have hp : T[x]? = some (p : Int) := by rw [← hp1]; exact lk_get hx
      have hpp := hc.proc p hp3
      refine WC.region ?_
      refine WO.op rfl rfl rfl (R.move rfl) ?_
      refine WO.op rfl rfl rfl (R.nilCheck rfl) ?_
      refine WO.op rfl rfl rfl (R.fieldAddr Try.runUnderlying58 rfl Try.sizeOf27 rfl) ?_
      refine WO.op rfl rfl rfl (R.load Try.isAgg27 rfl (hW2.cells 4 _ rfl)) ?_
      refine WO.op rfl rfl rfl (R.move rfl) ?_
      refine WO.op rfl rfl rfl (R.indexS Try.runUnderlying27 Try.sizeOf3 rfl rfl rfl (by omega)) ?_
      refine WO.op rfl rfl rfl (R.load Try.isAgg3 rfl (hT2.cells.el1 x rfl (map_at hp))) ?_
      refine WO.op rfl rfl rfl (R.assign rfl) ?_
      refine WO.nil (WX.blockN ?_)
      refine WX.back ((p, y)) (Sub.cons rfl (Sub.cons rfl (Sub.cons rfl Sub.nil))) (⟨hI.left hc hx hy hlt hp1, hp3, hy, hk1.ext hk2⟩) ((by dsimp only; omega))
    · have hxp : lk pl x ≠ lk pl y := fun h => hxy (hc.inj x y hpx h)
      have hyr : y ≠ root := by rintro rfl; rw [hc.rootP] at *; omega
      obtain ⟨p, hp1, hp2, hp3⟩ := hc.par y hy hyr
      have hp : T[y]? = some (p : Int) := by rw [← hp1]; exact lk_get hy
      have hpp := hc.proc p hp3
      refine WC.region ?_
      refine WO.op rfl rfl rfl (R.move rfl) ?_
      refine WO.op rfl rfl rfl (R.nilCheck rfl) ?_
      refine WO.op rfl rfl rfl (R.fieldAddr Try.runUnderlying58 rfl Try.sizeOf27 rfl) ?_
      refine WO.op rfl rfl rfl (R.load Try.isAgg27 rfl (hW2.cells 4 _ rfl)) ?_
      refine WO.op rfl rfl rfl (R.move rfl) ?_
      refine WO.op rfl rfl rfl (R.indexS Try.runUnderlying27 Try.sizeOf3 rfl rfl rfl (by omega)) ?_
      refine WO.op rfl rfl rfl (R.load Try.isAgg3 rfl (hT2.cells.el1 y rfl (map_at hp))) ?_
      refine WO.op rfl rfl rfl (R.assign rfl) ?_
      refine WO.nil (WX.blockN ?_)
      refine WX.back ((x, p)) (Sub.cons rfl (Sub.cons rfl (Sub.cons rfl Sub.nil))) (⟨hI.right hc hx hy hxy hge hp1, hx, hp3, hk1.ext hk2⟩) ((by dsimp only; omega))
  ·
    refine WC.exit (WX.thenE (WX.thenE (WX.hit (WX.next (WC.seq (WC.region ?_))))))
    refine WO.op rfl rfl rfl (R.move rfl) ?_
    refine WO.op rfl rfl rfl (R.assign rfl) ?_
    refine WO.nil (WX.next (WC.ret ?_))
    have e : x = y := by omega
    subst e
    refine WX.ret1 Try.results58 rfl ⟨_, rfl, x, rfl, hI.done, hx, hk1⟩

theorem set_map {α β : Type} (f : α → β) (l : List α) (sp : List β) (i : Nat) (x : α) (h : i < l.length) : (l.map f ++ sp).set i (f x) = (l.set i x).map f ++ sp := by
  rw [List.set_append_left _ _ (by simpa using h), List.map_set]

/-- What the exchange from both ends has made of l. -/
structure RevInv (l L : List Int) (i j : Nat) : Prop where
  len : L.length = l.length
  sum : i + j + 1 = l.length
  at' : ∀ k : Nat, k < l.length → L[k]? = if k < i ∨ j < k then l.reverse[k]? else l[k]?

theorem RevInv.step {l L : List Int} {i j : Nat} {x y : Int} (h : RevInv l L i j) (hij : i < j) (hx : L[i]? = some x) (hy : L[j]? = some y) : RevInv l ((L.set i y).set j x) (i + 1) (j - 1) := by
  have hs := h.sum
  have hx' : l[i]? = some x := by
    have := h.at' i (by omega)
    rw [if_neg (by omega)] at this
    rw [← this]; exact hx
  have hy' : l[j]? = some y := by
    have := h.at' j (by omega)
    rw [if_neg (by omega)] at this
    rw [← this]; exact hy
  refine ⟨by simp [h.len], by omega, ?_⟩
  intro k hk
  by_cases hkj : j = k
  · subst hkj
    rw [List.getElem?_set_self (by simp [h.len]; omega), if_pos (by omega), List.getElem?_reverse (by omega)]
    rw [show l.length - 1 - j = i from by omega, hx']
  · rw [List.getElem?_set_ne hkj]
    by_cases hki : i = k
    · subst hki
      rw [List.getElem?_set_self (by rw [h.len]; omega), if_pos (by omega), List.getElem?_reverse (by omega)]
      rw [show l.length - 1 - i = j from by omega, hy']
    · rw [List.getElem?_set_ne hki, h.at' k hk]
      by_cases h1 : k < i ∨ j < k
      · rw [if_pos h1, if_pos (by omega)]
      · rw [if_neg h1, if_neg (by omega)]
theorem RevInv.done {l L : List Int} {i j : Nat} (h : RevInv l L i j) (hij : j ≤ i) : L = l.reverse := by
  have hs := h.sum
  apply List.ext_getElem?
  intro k
  by_cases hk : k < l.length
  · rw [h.at' k hk]
    by_cases h1 : k < i ∨ j < k
    · rw [if_pos h1]
    · rw [if_neg h1, List.getElem?_reverse hk, show l.length - 1 - k = k from by omega]
  · rw [List.getElem?_eq_none (by rw [h.len]; omega), List.getElem?_eq_none (by simp; omega)]

theorem reverseI_ok (l : List Int) (v : Value) (n : Nat) (w : World) (hown : w.ownsRow 0 3 1 v n (l.map (.int .i64))) (hlen : l.length ≤ 1048576) : Calls Try.prog 57 #[v] w (Ret fun u w' => u = .tuple #[] ∧ w'.ownsRow 0 3 1 v n (l.reverse.map (.int .i64)) ∧ Keep (fun q => v.ownBlock = some q) w w') := by
  have hn := own_len1 hown
  subst hn
  by_cases h0 : l = []
  · subst h0
    obtain ⟨ao, c, rfl⟩ := own_form hown
    refine calls Try.func57 rfl [(0, .slice ao 0 c)] 28 ⟨Nat.le_of_ble_eq_true rfl, Try.ntmps57⟩ (argsOk (Sub.cons rfl Sub.nil)) ?_
    refine WC.seq (WC.region ?_)
    refine WO.op rfl rfl rfl (R.move rfl) ?_
    refine WO.op rfl rfl rfl (R.lenS rfl Try.runUnderlying27 rfl) ?_
    refine WO.op rfl rfl rfl (R.sub rfl rfl (wrap_i64_in (by omega))) ?_
    refine WO.op rfl rfl rfl (R.assign rfl) ?_
    refine WO.op rfl rfl rfl (R.assign rfl) ?_
    refine WO.nil (WX.next (WC.block ?_))
    refine WC.loop (σ := Unit) (fun _u => [(0, .slice ao 0 c), (2, .int .i64 0), (3, .int .i64 (-1))]) (fun _u => fun w' => w' = w) (fun _u => 0) (()) (Sub.cons rfl (Sub.cons rfl (Sub.cons rfl Sub.nil))) (rfl) ?_
    rintro _u w1 rfl
    show WC _ _ _ _ [(0, .slice ao 0 c), (2, .int .i64 0), (3, .int .i64 (-1))] _
    refine WC.seq (WC.seq (WC.region ?_))
    refine WO.op rfl rfl rfl (R.move rfl) ?_
    refine WO.op rfl rfl rfl (R.move rfl) ?_
    refine WO.op rfl rfl rfl (R.lss rfl rfl) ?_
    refine WO.nil (WX.next ?_)
    refine WC.ite rfl (fun h => ?_) (fun h => ?_)
    · exact absurd h (by omega)
    ·
      refine WC.exit (WX.thenE (WX.thenE (WX.hit ?_)))
      refine WX.end0 Try.results57 ⟨_, rfl, rfl, hown, Keep.refl _ _⟩
  obtain ⟨g, cap, sp, rfl, _, hnc, hcm, hB, hcl⟩ := own_open1 hown h0
  have hpos : 0 < l.length := List.length_pos_iff.2 h0
  refine calls Try.func57 rfl [(0, .slice (some ⟨g, 0, none⟩) l.length cap)] 28 ⟨Nat.le_of_ble_eq_true rfl, Try.ntmps57⟩ (argsOk (Sub.cons rfl Sub.nil)) ?_
  refine WC.seq (WC.region ?_)
  refine WO.op rfl rfl rfl (R.move rfl) ?_
  refine WO.op rfl rfl rfl (R.lenS rfl Try.runUnderlying27 rfl) ?_
  refine WO.op rfl rfl rfl (R.sub rfl rfl (wrap_i64_in (by omega))) ?_
  refine WO.op rfl rfl rfl (R.assign rfl) ?_
  refine WO.op rfl rfl rfl (R.assign rfl) ?_
  refine WO.nil (WX.next (WC.block ?_))
  refine WC.loop (σ := Nat × Int × List Int) (fun ⟨i, j, L⟩ => [(0, .slice (some ⟨g, 0, none⟩) l.length cap), (2, .int .i64 i), (3, .int .i64 j)]) (fun ⟨i, j, L⟩ => fun w' => (∃ jn : Nat, j = (jn : Int) ∧ RevInv l L i jn ∨ j = (jn : Int) - 1 ∧ L = l.reverse ∧ jn ≤ i) ∧ L.length = l.length ∧ i ≤ l.length ∧ Blk w' g (L.map (.int .i64) ++ sp) 3 ∧ Keep (fun q => q = g) w w') (fun ⟨i, j, L⟩ => (j - i + 2).toNat) ((0, (l.length : Int) - 1, l)) (Sub.cons rfl (Sub.cons rfl (Sub.cons rfl Sub.nil))) (⟨⟨l.length - 1, .inl ⟨by omega, rfl, by omega, fun k hk => by rw [if_neg (by omega)]⟩⟩, rfl, by omega, hB, Keep.refl _ _⟩) ?_
  rintro ⟨i, j, L⟩ w1 ⟨⟨jn, hj⟩, hL, hil, hB1, hk1⟩
  show WC _ _ _ _ [(0, .slice (some ⟨g, 0, none⟩) l.length cap), (2, .int .i64 i), (3, .int .i64 j)] _
  refine WC.seq (WC.seq (WC.region ?_))
  refine WO.op rfl rfl rfl (R.move rfl) ?_
  refine WO.op rfl rfl rfl (R.move rfl) ?_
  refine WO.op rfl rfl rfl (R.lss rfl rfl) ?_
  refine WO.nil (WX.next ?_)
  refine WC.ite rfl (fun hlt => ?_) (fun hge => ?_)
  · rcases hj with ⟨rfl, hI⟩ | ⟨rfl, _, hji⟩
    · have hs := hI.sum
      obtain ⟨x, hx⟩ : ∃ x, L[i]? = some x := ⟨_, List.getElem?_eq_getElem (by omega)⟩
      obtain ⟨y, hy⟩ : ∃ y, L[jn]? = some y := ⟨_, List.getElem?_eq_getElem (by omega)⟩
      have hcx : (L.map (Value.int .i64) ++ sp)[i]? = some (.int .i64 x) := by rw [List.getElem?_append_left (by simp; omega)]; exact map_at hx
      have hcy : (L.map (Value.int .i64) ++ sp)[jn]? = some (.int .i64 y) := by rw [List.getElem?_append_left (by simp; omega)]; exact map_at hy
      refine WC.skip (WX.next (WC.seq (WC.block ?_)))
      refine WC.draw (fun w' => Blk w' g (L.map (.int .i64) ++ sp) 3) [12, 13, 14, 15] (by kernel_rfl) (fun w2 hE2 hh2 => ?_)
      have hB2 := hE2.blk hB1 (fun h => h)
      refine WD.takeW 0 rfl (by kernel_rfl) rfl rfl rfl (fun w1 => R.move rfl) ?_
      refine WD.takeW 1 rfl (by kernel_rfl) rfl rfl rfl (fun w1 => R.move rfl) ?_
      refine WD.takeW 2 rfl (by kernel_rfl) rfl rfl rfl (fun w1 => R.move rfl) ?_
      refine WD.takeW 3 rfl (by kernel_rfl) rfl rfl rfl (fun w1 => R.move rfl) ?_
      refine WD.takeW 4 rfl (by kernel_rfl) rfl rfl rfl (fun w1 => R.move rfl) ?_
      refine WD.takeW 5 rfl (by kernel_rfl) rfl rfl rfl (fun w1 => R.move rfl) ?_
      refine WD.takeW 6 rfl (by kernel_rfl) rfl rfl rfl (fun w1 => R.indexS Try.runUnderlying27 Try.sizeOf3 rfl rfl rfl (by omega)) ?_
      refine WD.take 7 rfl (by kernel_rfl) rfl rfl rfl hB2 (fun w1 hw1 => R.load Try.isAgg3 rfl (hw1.cells.el1 jn rfl hcy)) ?_
      refine WD.takeW 8 rfl (by kernel_rfl) rfl rfl rfl (fun w1 => R.move rfl) ?_
      refine WD.takeW 9 rfl (by kernel_rfl) rfl rfl rfl (fun w1 => R.move rfl) ?_
      refine WD.takeW 10 rfl (by kernel_rfl) rfl rfl rfl (fun w1 => R.indexS Try.runUnderlying27 Try.sizeOf3 rfl rfl rfl (by omega)) ?_
      refine WD.take 11 rfl (by kernel_rfl) rfl rfl rfl hB2 (fun w1 hw1 => R.load Try.isAgg3 rfl (hw1.cells.el1 i rfl hcx)) ?_
      refine WD.takeW 12 rfl (by kernel_rfl) rfl rfl rfl (fun w1 => R.indexS Try.runUnderlying27 Try.sizeOf3 rfl rfl rfl (by omega)) ?_
      refine WD.mem0 13 rfl (by kernel_rfl) rfl rfl (M.store Try.sizeOf3 rfl rfl rfl rfl hB2 (by rw [List.length_append, List.length_map]; omega)) ?_
      rintro w3 ⟨hs3, hB3, hk3⟩
      refine ⟨fun h => absurd (by decide) h, ?_⟩
      refine WD.takeW 14 rfl (by kernel_rfl) rfl rfl rfl (fun w1 => R.indexS Try.runUnderlying27 Try.sizeOf3 rfl rfl rfl (by omega)) ?_
      refine WD.mem0 15 rfl (by kernel_rfl) rfl rfl (M.store Try.sizeOf3 rfl rfl rfl rfl hB3 (by rw [List.length_set, List.length_append, List.length_map]; omega)) ?_
      rintro w4 ⟨hs4, hB4, hk4⟩
      refine ⟨fun h => absurd (by decide) h, ?_⟩
      rw [show 0 + (i : Int).toNat * 1 = i from by omega, show 0 + (jn : Int).toNat * 1 = jn from by omega, set_map _ _ _ _ _ (by omega), set_map _ _ _ _ _ (by simp; omega)] at hB4
      refine WD.done (by kernel_rfl) ?_ _
      refine WX.blockN (WX.next (WC.region ?_))
      refine WO.op rfl rfl rfl (R.move rfl) ?_
      refine WO.op rfl rfl rfl (R.add rfl rfl (wrap_i64_in (by omega))) ?_
      refine WO.op rfl rfl rfl (R.move rfl) ?_
      refine WO.op rfl rfl rfl (R.sub rfl rfl (wrap_i64_in (by omega))) ?_
      refine WO.op rfl rfl rfl (R.assign rfl) ?_
      refine WO.op rfl rfl rfl (R.assign rfl) ?_
      refine WO.nil ?_
      refine WX.back ((i + 1, (jn : Int) - 1, (L.set i y).set jn x)) (Sub.cons rfl (Sub.cons rfl (Sub.cons rfl Sub.nil))) (⟨?_, by simp [hL], by omega, hB4, ((hk1.ext hE2).trans hk3 (fun _ _ h => h)).trans hk4 (fun _ _ h => h)⟩) ((by dsimp only; omega))
      have hst := hI.step (by omega) hx hy
      exact ⟨jn - 1, .inl ⟨by omega, hst⟩⟩
    · omega
  · have hLr : L = l.reverse := by
      rcases hj with ⟨rfl, hI⟩ | ⟨_, h, _⟩
      · exact hI.done (by omega)
      · exact h
    refine WC.exit (WX.thenE (WX.thenE (WX.hit ?_)))
    refine WX.end0 Try.results57 ⟨_, rfl, rfl, ?_, hk1.mono (fun q _ h => by rw [h]; rfl)⟩
    have := own_shut1 hB1 (cap := cap) (by rw [← hcl]; simp [hL]) hcm
    rw [hL, hLr] at this
    exact this
end Go.Proofs.Yteilalejfphkgaa
