/-
  The reference: tree. Contract; nothing here is a claim.
-/
import Derived.Test.YteilalejfphkgaaT17
namespace Go.Proofs.Yteilalejfphkgaa
open Go.GL Go.GL.Dom Go.GL.Dfs

def dm (M : List (List Bool)) (a b : Nat) : Prop := ∃ r, M[a]? = some r ∧ r[b]? = some true
/-- a is the nearest dominator of b. -/
def Near (M : List (List Bool)) (m b a : Nat) : Prop := a ≠ b ∧ dm M a b ∧ ∀ c, c < m → c ≠ b → dm M c b → dm M c a
structure RefTree (M : List (List Bool)) (m : Nat) (T : List Int) : Prop where
  len : T.length = m
  at' : ∀ b, b < m → (∃ a, a < m ∧ Near M m b a ∧ T[b]? = some (a : Int)) ∨ ((∀ a, a < m → ¬ Near M m b a) ∧ T[b]? = some (-1))

/-- The rows of the matrix as they lie in memory. -/
theorem mat_at {m : Nat} {M : List (List Bool)} {D : Nat → Prop} {w : World} {ua : Option Addr} {n c : Nat} (h : SlR 1 (RSl 1 RBool) D w (.slice ua n c) M) (hl : M.length = m) (hr : ∀ (a : Nat) r, M[a]? = some r → r.length = m) :
    ∀ a, a < m → ∃ row ra rc bo oo, M[a]? = some row ∧ ua = some ⟨bo, oo, none⟩ ∧ w.cell? ⟨bo, oo + (a : Int).toNat * 1, none⟩ = some (.slice ra m rc) ∧ ∀ b, b < m → ∃ s rb ro, row[b]? = some s ∧ ra = some ⟨rb, ro, none⟩ ∧ w.cell? ⟨rb, ro + (b : Int).toNat * 1, none⟩ = some (.bool s) := by
  obtain ⟨ao, c', he, _, _, hel⟩ := h
  cases he
  intro a ha
  obtain ⟨row, hrow⟩ : ∃ row, M[a]? = some row := ⟨_, List.getElem?_eq_getElem (by omega)⟩
  obtain ⟨bo, oo, cs, h1, _, h2, h3, v, rfl, h4⟩ := hel a row hrow
  obtain ⟨ra, rc, rfl, _, _, h5⟩ := h4
  have hrl := hr a row hrow
  refine ⟨row, ra, rc, bo, oo, hrow, h1, ?_, fun b hb => ?_⟩
  · rw [← hrl]; exact h3 0 _ rfl
  · obtain ⟨s, hs⟩ : ∃ s, row[b]? = some s := ⟨_, List.getElem?_eq_getElem (by omega)⟩
    obtain ⟨rb, ro, cs', h6, _, _, h7, rfl⟩ := h5 b s hs
    exact ⟨s, rb, ro, hs, h6, h7 0 _ rfl⟩
theorem dm_iff {M : List (List Bool)} {a b : Nat} {row : List Bool} {s : Bool} (h : M[a]? = some row) (h' : row[b]? = some s) : dm M a b ↔ s = true := by
  unfold dm
  constructor
  · rintro ⟨r, h1, h2⟩
    rw [h] at h1; cases h1
    rw [h'] at h2; cases h2; rfl
  · rintro rfl; exact ⟨row, h, h'⟩

theorem refTree_ok (m root : Nat) (es : List (Int × Int)) (ev : Value) (D : Nat → Prop) (w : World) (hes : SlR 2 RPair D w ev es) (hm : m ≤ 4096) (hall : es.all (Gr.okE m) = true) (hr : root < m) : Calls Try.prog 15 #[.agg #[.int .i64 m, ev], .int .i64 root] w (Ret fun u w' => ∃ Mx T, DomMat es root m Mx ∧ RefTree Mx m T ∧ SlR 1 RInt (fun b => w.heap.size ≤ b) w' u T ∧ Ext w w') := by
  have hes' := hes
  obtain ⟨ao, cap, rfl, hlc, hcm, _⟩ := hes'
  refine calls Try.func15 rfl [(0, .agg #[.int .i64 m, .slice ao es.length cap]), (1, .int .i64 root)] 79 ⟨Nat.le_of_ble_eq_true rfl, Try.ntmps15⟩ (argsOk (Sub.cons rfl (Sub.cons rfl Sub.nil))) ?_
  refine WC.seq (WC.region ?_)
  refine WO.mem rfl rfl rfl (M.box rfl rfl) ?_
  rintro _ w1 ⟨g, rfl, hg, hs1, hB1, hk1⟩
  refine WO.op rfl rfl rfl (R.assign rfl) ?_
  refine WO.nil (WX.next (WC.seq (WC.region ?_)))
  refine WO.op rfl rfl rfl (R.loadK Try.isAgg24 Try.sizeOf24 rfl (by rfl) hB1.cells) ?_
  refine WO.op rfl rfl rfl (R.move rfl) ?_
  refine WO.call rfl rfl rfl (F.call (vs := [_, _]) Try.call30 rfl) (domMat_ok m root es _ D w1 (hes.ext stable_pair hk1) hm hall hr) ?_
  rintro _ w2 ⟨Mx, hM, hsl, hk2⟩
  have hBb2 := hk2.blk hB1 (fun h => h)
  have hE2 := hk1.ext hk2
  have hsl' := hsl
  obtain ⟨ua, uc, rfl, _⟩ := hsl'
  have hat := mat_at hsl hM.len (fun a r h => (hM.row a r h).1)
  refine WO.op rfl rfl rfl (R.assign rfl) ?_
  refine WO.nil (WX.next (WC.seq (WC.region ?_)))
  refine WO.op rfl rfl rfl (R.fieldAddr Try.runUnderlying24 rfl Try.sizeOf3 rfl) ?_
  refine WO.op rfl rfl rfl (R.load Try.isAgg3 rfl (hBb2.cells 0 _ rfl)) ?_
  refine WO.mem rfl rfl rfl (M.make Try.underlying27 Try.el3 rfl rfl (by omega) (by omega) (made1 _ m rfl)) ?_
  rintro _ w3 ⟨bt, rfl, hbt, hs3, hB3, hk3⟩
  have hBb3 := hk3.blk hBb2 (fun h => h)
  have hgbt : g ≠ bt := by have := hBb2.lt; omega
  have hB3' : Blk w3 bt ((List.replicate m (0 : Int)).map (.int .i64)) 3 := by rw [List.map_replicate]; exact hB3
  refine WO.op rfl rfl rfl (R.assign rfl) ?_
  refine WO.nil (WX.next (WC.seq (WC.seq (WC.region ?_))))
  refine WO.op rfl rfl rfl (R.fieldAddr Try.runUnderlying24 rfl Try.sizeOf3 rfl) ?_
  refine WO.op rfl rfl rfl (R.load Try.isAgg3 rfl (hBb3.cells 0 _ rfl)) ?_
  refine WO.op rfl rfl rfl (R.move rfl) ?_
  refine WO.nil (WX.next (WC.block ?_))
  refine WC.loop (σ := Nat × List Int) (fun ⟨b, T⟩ => [(2, .pointer (some ⟨g, 0, none⟩)), (5, .slice ua Mx.length uc), (6, .slice (some ⟨bt, 0, none⟩) m m), (18, .int .i64 m), (19, .int .i64 b)]) (fun ⟨b, T⟩ => fun w' => b ≤ m ∧ T.length = m ∧ (∀ b', b' < b → (∃ a, a < m ∧ Near Mx m b' a ∧ T[b']? = some (a : Int)) ∨ ((∀ a, a < m → ¬ Near Mx m b' a) ∧ T[b']? = some (-1))) ∧ Blk w' bt (T.map (.int .i64)) 3 ∧ Keep (fun q => q = bt) w3 w') (fun ⟨b, T⟩ => m - b) ((0, List.replicate m 0)) (Sub.cons rfl (Sub.cons rfl (Sub.cons rfl (Sub.cons rfl (Sub.cons rfl Sub.nil))))) (⟨Nat.zero_le _, by simp, fun b' h => absurd h (Nat.not_lt_zero _), hB3', Keep.refl _ _⟩) ?_
  rintro ⟨b, T⟩ w4 ⟨hbm, hTl, hT, hB4, hk4⟩
  show WC _ _ _ _ [(2, .pointer (some ⟨g, 0, none⟩)), (5, .slice ua Mx.length uc), (6, .slice (some ⟨bt, 0, none⟩) m m), (18, .int .i64 m), (19, .int .i64 b)] _
  refine WC.seq (WC.region ?_)
  refine WO.op rfl rfl rfl (R.lss rfl rfl) ?_
  refine WO.nil (WX.next (WC.seq ?_))
  refine WC.ite rfl (fun hlt => ?_) (fun hge => ?_)
  · have hBb4 := hk4.blk hBb3 hgbt
    refine WC.skip (WX.next (WC.seq (WC.block (WC.seq (WC.region ?_)))))
    refine WO.op rfl rfl rfl (R.move rfl) ?_
    refine WO.op rfl rfl rfl (R.assign rfl) ?_
    refine WO.nil (WX.next (WC.seq (WC.region ?_)))
    refine WO.op rfl rfl rfl (R.move rfl) ?_
    refine WO.op rfl rfl rfl (R.move rfl) ?_
    refine WO.op rfl rfl rfl (R.indexS Try.runUnderlying27 Try.sizeOf3 rfl rfl rfl (by omega)) ?_
    refine WO.mem0 rfl rfl (M.store Try.sizeOf3 rfl rfl rfl rfl hB4 (by rw [List.length_map]; omega)) ?_
    rintro w5 ⟨hs5, hB5, hk5⟩
    rw [show 0 + (b : Int).toNat * 1 = b from by omega, ← List.map_set] at hB5
    have hk35 := hk4.trans hk5 (fun _ _ h => h)
    have hBb5 := hk35.blk hBb3 hgbt
    refine WO.nil (WX.next (WC.seq (WC.region ?_)))
    refine WO.op rfl rfl rfl (R.fieldAddr Try.runUnderlying24 rfl Try.sizeOf3 rfl) ?_
    refine WO.op rfl rfl rfl (R.load Try.isAgg3 rfl (hBb5.cells 0 _ rfl)) ?_
    refine WO.op rfl rfl rfl (R.move rfl) ?_
    refine WO.nil (WX.next (WC.block ?_))
    have hset : ∀ (x : Int) (T : List Int), T.length = m → (T.set b x)[b]? = some x := fun x T h => List.getElem?_set_self (by omega)
    refine WC.loop (σ := Nat × List Int) (fun ⟨a, T⟩ => [(2, .pointer (some ⟨g, 0, none⟩)), (5, .slice ua Mx.length uc), (6, .slice (some ⟨bt, 0, none⟩) m m), (18, .int .i64 m), (19, .int .i64 b), (7, .int .i64 b), (26, .int .i64 m), (27, .int .i64 a)]) (fun ⟨a, T⟩ => fun w' => a ≤ m ∧ T.length = m ∧ (∀ b', b' < b → (∃ a, a < m ∧ Near Mx m b' a ∧ T[b']? = some (a : Int)) ∨ ((∀ a, a < m → ¬ Near Mx m b' a) ∧ T[b']? = some (-1))) ∧ ((∃ a', a' < a ∧ a' < m ∧ Near Mx m b a' ∧ T[b]? = some (a' : Int)) ∨ ((∀ a', a' < a → ¬ Near Mx m b a') ∧ T[b]? = some (-1))) ∧ Blk w' bt (T.map (.int .i64)) 3 ∧ Keep (fun q => q = bt) w3 w') (fun ⟨a, T⟩ => m - a) ((0, T.set b (-1))) (Sub.cons rfl (Sub.cons rfl (Sub.cons rfl (Sub.cons rfl (Sub.cons rfl (Sub.cons rfl (Sub.cons rfl (Sub.cons rfl Sub.nil)))))))) (⟨Nat.zero_le _, by simp [hTl], fun b' hb' => by rw [List.getElem?_set_ne (by omega)]; exact hT b' hb', .inr ⟨fun a' h => absurd h (Nat.not_lt_zero _), hset _ _ hTl⟩, hB5, hk35⟩) ?_
    rintro ⟨a, T⟩ w6 ⟨ham, hTl6, hT6, hcur, hB6, hk6⟩
    show WC _ _ _ _ [(2, .pointer (some ⟨g, 0, none⟩)), (5, .slice ua Mx.length uc), (6, .slice (some ⟨bt, 0, none⟩) m m), (18, .int .i64 m), (19, .int .i64 b), (7, .int .i64 b), (26, .int .i64 m), (27, .int .i64 a)] _
    have hk26 : Ext w2 w6 := hk3.trans hk6 (fun q hq h => by have h : q = bt := h; omega)
    have hskip : ¬ Near Mx m b a → ((∃ a', a' < a + 1 ∧ a' < m ∧ Near Mx m b a' ∧ T[b]? = some (a' : Int)) ∨ ((∀ a', a' < a + 1 → ¬ Near Mx m b a') ∧ T[b]? = some (-1))) := by
      intro hn
      rcases hcur with ⟨a', h1, h2, h3⟩ | ⟨h1, h2⟩
      · exact .inl ⟨a', by omega, h2, h3⟩
      · refine .inr ⟨fun a' ha' => ?_, h2⟩
        by_cases e : a' = a
        · subst e; exact hn
        · exact h1 a' (by omega)
    refine WC.seq (WC.region ?_)
    refine WO.op rfl rfl rfl (R.lss rfl rfl) ?_
    refine WO.nil (WX.next (WC.seq ?_))
    refine WC.ite rfl (fun hla => ?_) (fun hga => ?_)
    · obtain ⟨rowa, raa, rca, boa, ooa, hMa, hua, hca, hrowa⟩ := hat a (by omega)
      obtain ⟨sab, rbab, roab, hsab, hraab, hcab⟩ := hrowa b (by omega)
      refine WC.skip (WX.next (WC.seq (WC.block (WC.seq (WC.region ?_)))))
      refine WO.op rfl rfl rfl (R.move rfl) ?_
      refine WO.op rfl rfl rfl (R.assign rfl) ?_
      refine WO.nil (WX.next (WC.seq (WC.seq (WC.region ?_))))
      refine WO.op rfl rfl rfl (R.move rfl) ?_
      refine WO.op rfl rfl rfl (R.move rfl) ?_
      refine WO.op rfl rfl rfl (R.eql rfl rfl) ?_
      refine WO.op rfl rfl rfl (R.move rfl) ?_
      refine WO.cases (p := (a : Int) = (b : Int)) (fun hab => ?_) (fun hab => ?_)
      ·
        refine WO.no rfl rfl (decide_eq_true hab) rfl ?_
        refine WO.no rfl rfl (decide_eq_true hab) rfl ?_
        refine WO.no rfl rfl (decide_eq_true hab) rfl ?_
        refine WO.no rfl rfl (decide_eq_true hab) rfl ?_
        refine WO.no rfl rfl (decide_eq_true hab) rfl ?_
        refine WO.no rfl rfl (decide_eq_true hab) rfl ?_
        refine WO.no rfl rfl (decide_eq_true hab) rfl ?_
        refine WO.no rfl rfl (decide_eq_true hab) rfl ?_
        refine WO.op rfl rfl rfl (R.pickT rfl (decide_eq_true hab) rfl) ?_
        refine WO.nil (WX.next ?_)
        refine WC.tt rfl (rfl) ?_
        refine WC.exit (WX.thenE (WX.hit (WX.next (WC.region ?_))))
        refine WO.op rfl rfl rfl (R.add rfl rfl (wrap_i64_in (by omega))) ?_
        refine WO.op rfl rfl rfl (R.move rfl) ?_
        refine WO.nil ?_
        refine WX.back ((a + 1, T)) (Sub.cons rfl (Sub.cons rfl (Sub.cons rfl (Sub.cons rfl (Sub.cons rfl (Sub.cons rfl (Sub.cons rfl (Sub.cons rfl Sub.nil)))))))) (⟨by omega, hTl6, hT6, hskip (fun h => h.1 (Int.ofNat.inj hab)), hB6, hk6⟩) (by first | omega | (dsimp only; omega))
      ·
        refine WO.yes rfl rfl (decide_eq_false hab) ?_
        refine WO.op rfl rfl rfl (R.move rfl) ?_
        refine WO.yes rfl rfl (decide_eq_false hab) ?_
        refine WO.op rfl rfl rfl (R.move rfl) ?_
        refine WO.yes rfl rfl (decide_eq_false hab) ?_
        refine WO.op rfl rfl rfl (R.indexS Try.runUnderlying60 Try.sizeOf53 rfl rfl hua (by have := hM.len; omega)) ?_
        refine WO.yes rfl rfl (decide_eq_false hab) ?_
        refine WO.op rfl rfl rfl (R.load Try.isAgg53 rfl (hk26.cell hca (fun h => h))) ?_
        refine WO.yes rfl rfl (decide_eq_false hab) ?_
        refine WO.op rfl rfl rfl (R.move rfl) ?_
        refine WO.yes rfl rfl (decide_eq_false hab) ?_
        refine WO.op rfl rfl rfl (R.indexS Try.runUnderlying53 Try.sizeOf4 rfl rfl hraab (by omega)) ?_
        refine WO.yes rfl rfl (decide_eq_false hab) ?_
        refine WO.op rfl rfl rfl (R.load Try.isAgg4 rfl (hk26.cell hcab (fun h => h))) ?_
        refine WO.yes rfl rfl (decide_eq_false hab) ?_
        refine WO.op rfl rfl rfl (R.not rfl) ?_
        refine WO.op rfl rfl rfl (R.pickF rfl (decide_eq_false hab) rfl) ?_
        refine WO.nil (WX.next ?_)
        refine WC.bool rfl (fun hd => ?_) (fun hd => ?_)
        · have hsf : ¬ sab = true := by simpa using hd
          refine WC.exit (WX.thenE (WX.hit (WX.next (WC.region ?_))))
          refine WO.op rfl rfl rfl (R.add rfl rfl (wrap_i64_in (by omega))) ?_
          refine WO.op rfl rfl rfl (R.move rfl) ?_
          refine WO.nil ?_
          refine WX.back ((a + 1, T)) (Sub.cons rfl (Sub.cons rfl (Sub.cons rfl (Sub.cons rfl (Sub.cons rfl (Sub.cons rfl (Sub.cons rfl (Sub.cons rfl Sub.nil)))))))) (⟨by omega, hTl6, hT6, hskip (fun h => hsf ((dm_iff hMa hsab).1 h.2.1)), hB6, hk6⟩) (by first | omega | (dsimp only; omega))
        · have hst : sab = true := by simpa using hd
          have hdab : dm Mx a b := (dm_iff hMa hsab).2 hst
          refine WC.skip (WX.next (WC.seq (WC.region ?_)))
          refine WO.op rfl rfl rfl (R.assign rfl) ?_
          refine WO.nil (WX.next (WC.seq (WC.seq (WC.region ?_))))
          refine WO.op rfl rfl rfl (R.fieldAddr Try.runUnderlying24 rfl Try.sizeOf3 rfl) ?_
          refine WO.op rfl rfl rfl (R.load Try.isAgg3 rfl ((hk6.blk hBb3 hgbt).cells 0 _ rfl)) ?_
          refine WO.op rfl rfl rfl (R.move rfl) ?_
          refine WO.nil (WX.next (WC.block ?_))
          refine WC.loop (σ := Nat × Bool) (fun ⟨c, nr⟩ => [(2, .pointer (some ⟨g, 0, none⟩)), (5, .slice ua Mx.length uc), (6, .slice (some ⟨bt, 0, none⟩) m m), (18, .int .i64 m), (19, .int .i64 b), (7, .int .i64 b), (26, .int .i64 m), (27, .int .i64 a), (8, .int .i64 a), (9, .bool nr), (44, .int .i64 m), (45, .int .i64 c)]) (fun ⟨c, nr⟩ => fun w' => w' = w6 ∧ c ≤ m ∧ (nr = true ↔ ∀ c', c' < c → c' ≠ b → dm Mx c' b → dm Mx c' a)) (fun ⟨c, nr⟩ => m - c) ((0, true)) (Sub.cons rfl (Sub.cons rfl (Sub.cons rfl (Sub.cons rfl (Sub.cons rfl (Sub.cons rfl (Sub.cons rfl (Sub.cons rfl (Sub.cons rfl (Sub.cons rfl (Sub.cons rfl (Sub.cons rfl Sub.nil)))))))))))) (⟨rfl, Nat.zero_le _, by simp⟩) ?_
          rintro ⟨c, nr⟩ w7 ⟨rfl, hcm', hnr⟩
          show WC _ _ _ _ [(2, .pointer (some ⟨g, 0, none⟩)), (5, .slice ua Mx.length uc), (6, .slice (some ⟨bt, 0, none⟩) m m), (18, .int .i64 m), (19, .int .i64 b), (7, .int .i64 b), (26, .int .i64 m), (27, .int .i64 a), (8, .int .i64 a), (9, .bool nr), (44, .int .i64 m), (45, .int .i64 c)] _
          refine WC.seq (WC.region ?_)
          refine WO.op rfl rfl rfl (R.lss rfl rfl) ?_
          refine WO.nil (WX.next (WC.seq ?_))
          refine WC.ite rfl (fun hlc' => ?_) (fun hgc => ?_)
          · obtain ⟨rowc, rac, rcc, boc, ooc, hMc, huc, hcc, hrowc⟩ := hat c (by omega)
            obtain ⟨scb, rbcb, rocb, hscb, hracb, hccb⟩ := hrowc b (by omega)
            obtain ⟨sca, rbca, roca, hsca, hraca, hcca⟩ := hrowc a (by omega)
            have hstep : ∀ nr' : Bool, (nr' = true ↔ nr = true ∧ (c ≠ b → scb = true → sca = true)) → (nr' = true ↔ ∀ c', c' < c + 1 → c' ≠ b → dm Mx c' b → dm Mx c' a) := by
              intro nr' h
              rw [h, hnr, ← dm_iff hMc hscb, ← dm_iff hMc hsca]
              constructor
              · rintro ⟨h1, h2⟩ c' h3 h4 h5
                by_cases e : c' = c
                · subst e; exact h2 h4 h5
                · exact h1 c' (by omega) h4 h5
              · intro h1
                exact ⟨fun c' h2 => h1 c' (by omega), h1 c (by omega)⟩
            refine WC.skip (WX.next (WC.seq (WC.block (WC.seq (WC.region ?_)))))
            refine WO.op rfl rfl rfl (R.move rfl) ?_
            refine WO.op rfl rfl rfl (R.assign rfl) ?_
            refine WO.nil (WX.next (WC.seq (WC.region ?_)))
            refine WO.op rfl rfl rfl (R.move rfl) ?_
            refine WO.op rfl rfl rfl (R.move rfl) ?_
            refine WO.op rfl rfl rfl (R.neq rfl rfl) ?_
            refine WO.op rfl rfl rfl (R.move rfl) ?_
            refine WO.cases (p := (c : Int) ≠ (b : Int)) (fun hcb => ?_) (fun hcb => ?_)
            · have hcb' : c ≠ b := fun h => hcb (by rw [h])
              refine WO.yes rfl rfl (decide_eq_true hcb) ?_
              refine WO.op rfl rfl rfl (R.move rfl) ?_
              refine WO.yes rfl rfl (decide_eq_true hcb) ?_
              refine WO.op rfl rfl rfl (R.move rfl) ?_
              refine WO.yes rfl rfl (decide_eq_true hcb) ?_
              refine WO.op rfl rfl rfl (R.indexS Try.runUnderlying60 Try.sizeOf53 rfl rfl huc (by have := hM.len; omega)) ?_
              refine WO.yes rfl rfl (decide_eq_true hcb) ?_
              refine WO.op rfl rfl rfl (R.load Try.isAgg53 rfl (hk26.cell hcc (fun h => h))) ?_
              refine WO.yes rfl rfl (decide_eq_true hcb) ?_
              refine WO.op rfl rfl rfl (R.move rfl) ?_
              refine WO.yes rfl rfl (decide_eq_true hcb) ?_
              refine WO.op rfl rfl rfl (R.indexS Try.runUnderlying53 Try.sizeOf4 rfl rfl hracb (by omega)) ?_
              refine WO.yes rfl rfl (decide_eq_true hcb) ?_
              refine WO.op rfl rfl rfl (R.load Try.isAgg4 rfl (hk26.cell hccb (fun h => h))) ?_
              refine WO.op rfl rfl rfl (R.pickT rfl (decide_eq_true hcb) rfl) ?_
              refine WO.op rfl rfl rfl (R.move rfl) ?_
              refine WO.cases (p := scb = true) (fun hs => ?_) (fun hs => ?_)
              · subst hs
                refine WO.yes rfl rfl rfl ?_
                refine WO.op rfl rfl rfl (R.move rfl) ?_
                refine WO.yes rfl rfl rfl ?_
                refine WO.op rfl rfl rfl (R.move rfl) ?_
                refine WO.yes rfl rfl rfl ?_
                refine WO.op rfl rfl rfl (R.indexS Try.runUnderlying60 Try.sizeOf53 rfl rfl huc (by have := hM.len; omega)) ?_
                refine WO.yes rfl rfl rfl ?_
                refine WO.op rfl rfl rfl (R.load Try.isAgg53 rfl (hk26.cell hcc (fun h => h))) ?_
                refine WO.yes rfl rfl rfl ?_
                refine WO.op rfl rfl rfl (R.move rfl) ?_
                refine WO.yes rfl rfl rfl ?_
                refine WO.op rfl rfl rfl (R.indexS Try.runUnderlying53 Try.sizeOf4 rfl rfl hraca (by omega)) ?_
                refine WO.yes rfl rfl rfl ?_
                refine WO.op rfl rfl rfl (R.load Try.isAgg4 rfl (hk26.cell hcca (fun h => h))) ?_
                refine WO.yes rfl rfl rfl ?_
                refine WO.op rfl rfl rfl (R.not rfl) ?_
                refine WO.op rfl rfl rfl (R.pickT rfl rfl rfl) ?_
                refine WO.nil (WX.next ?_)
                refine WC.bool rfl (fun hn => ?_) (fun hn => ?_)
                · have hsf : sca = false := by simpa using hn
                  subst hsf
                  refine WC.region ?_
                  refine WO.op rfl rfl rfl (R.assign rfl) ?_
                  refine WO.nil (WX.blockN (WX.next (WC.region ?_)))
                  refine WO.op rfl rfl rfl (R.add rfl rfl (wrap_i64_in (by omega))) ?_
                  refine WO.op rfl rfl rfl (R.move rfl) ?_
                  refine WO.nil ?_
                  refine WX.back ((c + 1, false)) (Sub.cons rfl (Sub.cons rfl (Sub.cons rfl (Sub.cons rfl (Sub.cons rfl (Sub.cons rfl (Sub.cons rfl (Sub.cons rfl (Sub.cons rfl (Sub.cons rfl (Sub.cons rfl (Sub.cons rfl Sub.nil)))))))))))) (⟨rfl, by omega, hstep false (by simp [hcb'])⟩) (by first | omega | (dsimp only; omega))
                · have hst' : sca = true := by simpa using hn
                  subst hst'
                  refine WC.skip (WX.blockN (WX.next (WC.region ?_)))
                  refine WO.op rfl rfl rfl (R.add rfl rfl (wrap_i64_in (by omega))) ?_
                  refine WO.op rfl rfl rfl (R.move rfl) ?_
                  refine WO.nil ?_
                  refine WX.back ((c + 1, nr)) (Sub.cons rfl (Sub.cons rfl (Sub.cons rfl (Sub.cons rfl (Sub.cons rfl (Sub.cons rfl (Sub.cons rfl (Sub.cons rfl (Sub.cons rfl (Sub.cons rfl (Sub.cons rfl (Sub.cons rfl Sub.nil)))))))))))) (⟨rfl, by omega, hstep nr (by simp)⟩) (by first | omega | (dsimp only; omega))
              · have hsf : scb = false := by simpa using hs
                subst hsf
                refine WO.no rfl rfl rfl rfl ?_
                refine WO.no rfl rfl rfl rfl ?_
                refine WO.no rfl rfl rfl rfl ?_
                refine WO.no rfl rfl rfl rfl ?_
                refine WO.no rfl rfl rfl rfl ?_
                refine WO.no rfl rfl rfl rfl ?_
                refine WO.no rfl rfl rfl rfl ?_
                refine WO.no rfl rfl rfl rfl ?_
                refine WO.op rfl rfl rfl (R.pickF rfl rfl rfl) ?_
                refine WO.nil (WX.next ?_)
                refine WC.ff rfl (rfl) ?_
                refine WC.skip (WX.blockN (WX.next (WC.region ?_)))
                refine WO.op rfl rfl rfl (R.add rfl rfl (wrap_i64_in (by omega))) ?_
                refine WO.op rfl rfl rfl (R.move rfl) ?_
                refine WO.nil ?_
                refine WX.back ((c + 1, nr)) (Sub.cons rfl (Sub.cons rfl (Sub.cons rfl (Sub.cons rfl (Sub.cons rfl (Sub.cons rfl (Sub.cons rfl (Sub.cons rfl (Sub.cons rfl (Sub.cons rfl (Sub.cons rfl (Sub.cons rfl Sub.nil)))))))))))) (⟨rfl, by omega, hstep nr (by simp)⟩) (by first | omega | (dsimp only; omega))
            · have hcb' : c = b := by omega
              refine WO.no rfl rfl (decide_eq_false hcb) rfl ?_
              refine WO.no rfl rfl (decide_eq_false hcb) rfl ?_
              refine WO.no rfl rfl (decide_eq_false hcb) rfl ?_
              refine WO.no rfl rfl (decide_eq_false hcb) rfl ?_
              refine WO.no rfl rfl (decide_eq_false hcb) rfl ?_
              refine WO.no rfl rfl (decide_eq_false hcb) rfl ?_
              refine WO.no rfl rfl (decide_eq_false hcb) rfl ?_
              refine WO.op rfl rfl rfl (R.pickF rfl (decide_eq_false hcb) rfl) ?_
              refine WO.op rfl rfl rfl (R.move rfl) ?_
              refine WO.no rfl rfl rfl rfl ?_
              refine WO.no rfl rfl rfl rfl ?_
              refine WO.no rfl rfl rfl rfl ?_
              refine WO.no rfl rfl rfl rfl ?_
              refine WO.no rfl rfl rfl rfl ?_
              refine WO.no rfl rfl rfl rfl ?_
              refine WO.no rfl rfl rfl rfl ?_
              refine WO.no rfl rfl rfl rfl ?_
              refine WO.op rfl rfl rfl (R.pickF rfl rfl rfl) ?_
              refine WO.nil (WX.next ?_)
              refine WC.ff rfl (rfl) ?_
              refine WC.skip (WX.blockN (WX.next (WC.region ?_)))
              refine WO.op rfl rfl rfl (R.add rfl rfl (wrap_i64_in (by omega))) ?_
              refine WO.op rfl rfl rfl (R.move rfl) ?_
              refine WO.nil ?_
              refine WX.back ((c + 1, nr)) (Sub.cons rfl (Sub.cons rfl (Sub.cons rfl (Sub.cons rfl (Sub.cons rfl (Sub.cons rfl (Sub.cons rfl (Sub.cons rfl (Sub.cons rfl (Sub.cons rfl (Sub.cons rfl (Sub.cons rfl Sub.nil)))))))))))) (⟨rfl, by omega, hstep nr (by simp [hcb'])⟩) (by first | omega | (dsimp only; omega))
          · have hc' : c = m := by omega
            subst hc'
            have hab' : a ≠ b := fun h => hab (by rw [h])
            refine WC.exit (WX.thenE (WX.thenE (WX.hit (WX.next (WC.seq (WC.region ?_))))))
            refine WO.op rfl rfl rfl (R.move rfl) ?_
            refine WO.nil (WX.next ?_)
            refine WC.bool rfl (fun hn => ?_) (fun hn => ?_)
            · have hnear : Near Mx c b a := ⟨hab', hdab, hnr.1 hn⟩
              refine WC.region ?_
              refine WO.op rfl rfl rfl (R.move rfl) ?_
              refine WO.op rfl rfl rfl (R.move rfl) ?_
              refine WO.op rfl rfl rfl (R.move rfl) ?_
              refine WO.op rfl rfl rfl (R.indexS Try.runUnderlying27 Try.sizeOf3 rfl rfl rfl (by omega)) ?_
              refine WO.mem0 rfl rfl (M.store Try.sizeOf3 rfl rfl rfl rfl hB6 (by rw [List.length_map]; omega)) ?_
              rintro w8 ⟨hs8, hB8, hk8⟩
              rw [show 0 + (b : Int).toNat * 1 = b from by omega, ← List.map_set] at hB8
              refine WO.nil (WX.blockN (WX.next (WC.region ?_)))
              refine WO.op rfl rfl rfl (R.add rfl rfl (wrap_i64_in (by omega))) ?_
              refine WO.op rfl rfl rfl (R.move rfl) ?_
              refine WO.nil ?_
              refine WX.back ((a + 1, T.set b (a : Int))) (Sub.cons rfl (Sub.cons rfl (Sub.cons rfl (Sub.cons rfl (Sub.cons rfl (Sub.cons rfl (Sub.cons rfl (Sub.cons rfl Sub.nil)))))))) (⟨by omega, by rw [List.length_set]; exact hTl6, fun b' hb' => by rw [List.getElem?_set_ne (by omega)]; exact hT6 b' hb', .inl ⟨a, by omega, by omega, hnear, hset _ _ hTl6⟩, hB8, hk6.trans hk8 (fun _ _ h => h)⟩) (by first | omega | (dsimp only; omega))
            · have hnn : ¬ Near Mx c b a := fun h => by have h' := hnr.2 h.2.2; rw [hn] at h'; cases h'
              refine WC.skip (WX.blockN (WX.next (WC.region ?_)))
              refine WO.op rfl rfl rfl (R.add rfl rfl (wrap_i64_in (by omega))) ?_
              refine WO.op rfl rfl rfl (R.move rfl) ?_
              refine WO.nil ?_
              refine WX.back ((a + 1, T)) (Sub.cons rfl (Sub.cons rfl (Sub.cons rfl (Sub.cons rfl (Sub.cons rfl (Sub.cons rfl (Sub.cons rfl (Sub.cons rfl Sub.nil)))))))) (⟨by omega, hTl6, hT6, hskip hnn, hB6, hk6⟩) (by first | omega | (dsimp only; omega))
    · have ha' : a = m := by omega
      subst ha'
      refine WC.exit (WX.thenE (WX.thenE (WX.hit (WX.blockN (WX.next (WC.region ?_))))))
      refine WO.op rfl rfl rfl (R.add rfl rfl (wrap_i64_in (by omega))) ?_
      refine WO.op rfl rfl rfl (R.move rfl) ?_
      refine WO.nil ?_
      refine WX.back ((b + 1, T)) (Sub.cons rfl (Sub.cons rfl (Sub.cons rfl (Sub.cons rfl (Sub.cons rfl Sub.nil))))) (⟨by omega, hTl6, fun b' hb' => ?_, hB6, hk6⟩) (by first | omega | (dsimp only; omega))
      by_cases e : b' = b
      · subst e
        rcases hcur with ⟨a', h1, h2, h3⟩ | h
        · exact .inl ⟨a', h2, h3⟩
        · exact .inr h
      · exact hT6 b' (by omega)
  · have hb' : b = m := by omega
    subst hb'
    have hE3 := hE2.ext hk3
    have hsz2 := hE2.size
    refine WC.exit (WX.thenE (WX.thenE (WX.hit (WX.next (WC.seq (WC.region ?_))))))
    refine WO.op rfl rfl rfl (R.move rfl) ?_
    refine WO.op rfl rfl rfl (R.assign rfl) ?_
    refine WO.nil (WX.next (WC.ret ?_))
    refine WX.ret1 Try.results15 rfl ⟨_, rfl, Mx, T, hM, ⟨hTl, hT⟩, ?_, hE3.trans hk4 (fun q hq h => by have h : q = bt := h; omega)⟩
    have h1 := SlR.ofBlk1 (R := RInt) (D := fun q => w.heap.size ≤ q) (n := b) (cap := b) (l := T) (.int .i64) (fun _ _ => rfl) hB4 (by omega) (by rw [List.take_of_length_le (by rw [List.length_map]; omega)]) hTl.symm (by omega) (by omega)
    exact h1
end Go.Proofs.Yteilalejfphkgaa
