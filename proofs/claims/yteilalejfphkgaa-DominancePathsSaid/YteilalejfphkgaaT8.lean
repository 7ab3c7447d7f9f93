/-
  dominance: solve. Contract; nothing here is a claim.
-/
import Derived.Test.YteilalejfphkgaaT7
import Derived.Test.YteilalejfphkgaaDom3
namespace Go.GL
theorem R.loE {P : Program} {env : Env} {w : World} {dst : Option Tmp} {ty : TypeId} {pos : String} {aft : Array Edge} {g : Option (Nat × Bool)} {t e : TypeId} {k : Nat} {x lo : Operand} {ao ao1 : Option Addr} {l c : Nat} {kd : IntKind} {i : Int} (hu : ∀ w, (underlying t).run P w = .ok (.slice e) w) (hs : ∀ w, (sizeOf e).run P w = .ok k w) (hx : ev env x = some (.slice ao l c)) (hy : ev env lo = some (.int kd i)) (hE : (if c = i.toNat then ao else ao.map (·.add (i.toNat * k))) = ao1) (h0 : 0 ≤ i ∧ i ≤ l) :
    Runs P ⟨dst, .slice t x (some lo) none none, ty, pos, aft, g⟩ env w (.slice ao1 (l - i.toNat) (c - i.toNat)) w := hE ▸ R.sliceLo hu hs hx hy h0
end Go.GL
namespace Go.Proofs.Yteilalejfphkgaa
open Go.GL Go.GL.Dom Go.GL.Dfs

/-- The rows of predecessors. -/
structure BackRows (R P : List (List Int)) : Prop where
  len : P.length = R.length
  mem : ∀ (b : Nat) r, P[b]? = some r → ∀ y : Int, y ∈ r ↔ ∃ a : Nat, y = (a : Int) ∧ Dfs.Edge R a b
  short : ∀ (b : Nat) r, P[b]? = some r → r.length ≤ R.length

theorem lk_lt {l : List Int} {i : Nat} (h : i < l.length) : l[i]? = some (lk l i) := by simp [lk, h]

theorem solve_ok (Rw Pw : List (List Int)) (root n bw bp bt : Nat) (nv bv ov : Value) (order : List Nat) (pl : List Int) (D : Nat → Prop) (w : World) (hn : Rw.length = n) (hroot : root < n) (hO : Dfs.Order Rw root order) (hpl : Dfs.Place n order pl) (hB : BackRows Rw Pw)
    (hbv : SlR 1 (RSl 1 RInt) D w bv Pw) (hD : ∀ b, D b → b ≠ bt) (hW : Blk w bw [nv, bv, ov, .slice (some ⟨bp, 0, none⟩) n n, .slice (some ⟨bt, 0, none⟩) n n] 58) (hov : w.ownsRow 0 3 1 ov order.length (order.map encN)) (hog : ∀ g, ov.ownBlock = some g → g ≠ bt)
    (hP : Blk w bp (pl.map (.int .i64)) 3) (hT : Blk w bt (List.replicate n (.int .i64 (-1))) 3) (hbt1 : bw ≠ bt) (hbt2 : bp ≠ bt) :
    Calls Try.prog 45 #[.pointer (some ⟨bw, 0, none⟩)] w (Ret fun u w' => u = .tuple #[] ∧ ∃ T, Solved Rw root n pl T ∧ Blk w' bt (T.map (.int .i64)) 3 ∧ Keep (fun q => q = bt) w w') := by
  obtain ⟨nb, cb, rfl, hblc, hbcm, hbel⟩ := hbv
  have hne : order ≠ [] := by
    intro h
    have := hO.head
    rw [h] at this
    cases this
  have hol : 0 < order.length := List.length_pos_iff.2 hne
  obtain ⟨g, cap, sp, rfl, _, hnc, hcm, hBg, hcl⟩ := own_open1 hov hne
  have hgbt : g ≠ bt := hog g rfl
  have hc0 : (order.map encN ++ sp)[0]? = some (encN root) := by
    rw [List.getElem?_append_left (by simpa using hol), List.getElem?_map, hO.head]; rfl
  obtain ⟨K, hK0, hK⟩ := bound Rw root n
  refine calls Try.func45 rfl [(0, .pointer (some ⟨bw, 0, none⟩))] 96 ⟨Nat.le_of_ble_eq_true rfl, Try.ntmps45⟩ (argsOk (Sub.cons rfl Sub.nil)) ?_
  refine WC.seq (WC.region ?_)
  refine WO.op rfl rfl rfl (R.move rfl) ?_
  refine WO.op rfl rfl rfl (R.nilCheck rfl) ?_
  refine WO.op rfl rfl rfl (R.fieldAddr Try.runUnderlying58 rfl Try.sizeOf27 rfl) ?_
  refine WO.op rfl rfl rfl (R.load Try.isAgg27 rfl (hW.cells 2 _ rfl)) ?_
  refine WO.op rfl rfl rfl (R.indexS Try.runUnderlying27 Try.sizeOf3 rfl rfl rfl (by omega)) ?_
  refine WO.op rfl rfl rfl (R.load Try.isAgg3 rfl (hBg.cells.el1 0 rfl hc0)) ?_
  refine WO.op rfl rfl rfl (R.assign rfl) ?_
  refine WO.nil (WX.next (WC.seq (WC.region ?_)))
  refine WO.op rfl rfl rfl (R.move rfl) ?_
  refine WO.op rfl rfl rfl (R.nilCheck rfl) ?_
  refine WO.op rfl rfl rfl (R.fieldAddr Try.runUnderlying58 rfl Try.sizeOf27 rfl) ?_
  refine WO.op rfl rfl rfl (R.load Try.isAgg27 rfl (hW.cells 4 _ rfl)) ?_
  refine WO.op rfl rfl rfl (R.move rfl) ?_
  refine WO.op rfl rfl rfl (R.move rfl) ?_
  refine WO.op rfl rfl rfl (R.indexS Try.runUnderlying27 Try.sizeOf3 rfl rfl rfl (by omega)) ?_
  refine WO.mem0 rfl rfl (M.store Try.sizeOf3 rfl rfl rfl rfl hT (by simp; omega)) ?_
  rintro w1 ⟨hs1, hT1, hk1⟩
  rw [show 0 + (root : Int).toNat * 1 = root from by omega] at hT1
  have hT1' : Blk w1 bt (((List.replicate n (-1)).set root (root : Int)).map (.int .i64)) 3 := by rw [List.map_set, List.map_replicate]; exact hT1
  refine WO.nil (WX.next (WC.seq (WC.seq (WC.region ?_))))
  refine WO.op rfl rfl rfl (R.assign rfl) ?_
  refine WO.nil (WX.next (WC.block ?_))
  refine WC.loop (σ := Nat × Bool × List Int) (fun ⟨k, ch, T⟩ => [(0, .pointer (some ⟨bw, 0, none⟩)), (2, .int .i64 root), (3, .bool ch)]) (fun ⟨k, ch, T⟩ => fun w' => L1 Rw root n pl K k ch T ∧ Blk w' bt (T.map (.int .i64)) 3 ∧ Keep (fun q => q = bt) w w') (fun ⟨k, ch, T⟩ => (if ch then K + 1 - k else 0)) ((0, true, (List.replicate n (-1)).set root (root : Int))) (Sub.cons rfl (Sub.cons rfl (Sub.cons rfl Sub.nil))) (⟨L1.init hO hpl hroot, hT1', hk1⟩) ?_
  rintro ⟨k, ch, T⟩ w2 ⟨hL, hT2, hk2⟩
  show WC _ _ _ _ [(0, .pointer (some ⟨bw, 0, none⟩)), (2, .int .i64 root), (3, .bool ch)] _
  refine WC.seq (WC.seq (WC.region ?_))
  refine WO.op rfl rfl rfl (R.move rfl) ?_
  refine WO.nil (WX.next ?_)
  refine WC.bool rfl (fun hch => ?_) (fun hch => ?_)
  · subst hch
    have hW2 := hk2.blk hW hbt1
    have hkK := hL.big rfl
    obtain ⟨ao1, hE, hF⟩ : ∃ ao1 : Option Addr, (if cap = (1 : Int).toNat then some ⟨g, 0, none⟩ else (some (⟨g, 0, none⟩ : Addr)).map (·.add ((1 : Int).toNat * 1))) = ao1 ∧ (1 < order.length → ao1 = some ⟨g, 1, none⟩) := by
      refine ⟨_, rfl, fun h => ?_⟩
      rw [if_neg (by have : (1 : Int).toNat = 1 := rfl; omega)]
      rfl
    refine WC.skip (WX.next (WC.block (WC.seq (WC.region ?_))))
    refine WO.op rfl rfl rfl (R.assign rfl) ?_
    refine WO.nil (WX.next (WC.seq (WC.region ?_)))
    refine WO.op rfl rfl rfl (R.move rfl) ?_
    refine WO.op rfl rfl rfl (R.nilCheck rfl) ?_
    refine WO.op rfl rfl rfl (R.fieldAddr Try.runUnderlying58 rfl Try.sizeOf27 rfl) ?_
    refine WO.op rfl rfl rfl (R.load Try.isAgg27 rfl (hW2.cells 2 _ rfl)) ?_
    refine WO.op rfl rfl rfl (R.loE Try.runUnderlying27 Try.sizeOf3 rfl rfl hE (by omega)) ?_
    refine WO.op rfl rfl rfl (R.lenS rfl Try.runUnderlying27 rfl) ?_
    refine WO.op rfl rfl rfl (R.move rfl) ?_
    refine WO.nil (WX.next (WC.block ?_))
    refine WC.loop (σ := Nat × Bool × List Int) (fun ⟨i, ch, T⟩ => [(0, .pointer (some ⟨bw, 0, none⟩)), (2, .int .i64 root), (3, .bool ch), (27, .slice ao1 (order.length - 1) (cap - 1)), (28, .int .i64 (order.length - 1 : Nat)), (29, .int .i64 i)]) (fun ⟨i, ch, T⟩ => fun w' => L2 Rw root n pl order K k i ch T ∧ i + 1 ≤ order.length ∧ Blk w' bt (T.map (.int .i64)) 3 ∧ Keep (fun q => q = bt) w w') (fun ⟨i, ch, T⟩ => order.length - i) ((0, false, T)) (Sub.cons rfl (Sub.cons rfl (Sub.cons rfl (Sub.cons rfl (Sub.cons rfl (Sub.cons rfl Sub.nil)))))) (⟨L2.start hO hL, by omega, hT2, hk2⟩) ?_
    rintro ⟨i, ch, T⟩ w3 ⟨hL2, hio, hT3, hk3⟩
    show WC _ _ _ _ [(0, .pointer (some ⟨bw, 0, none⟩)), (2, .int .i64 root), (3, .bool ch), (27, .slice ao1 (order.length - 1) (cap - 1)), (28, .int .i64 (order.length - 1 : Nat)), (29, .int .i64 i)] _
    have hTl := hL2.len
    refine WC.seq (WC.region ?_)
    refine WO.op rfl rfl rfl (R.lss rfl rfl) ?_
    refine WO.nil (WX.next (WC.seq ?_))
    refine WC.ite rfl (fun hlt => ?_) (fun hge => ?_)
    · obtain ⟨d, hd⟩ : ∃ d, order[i + 1]? = some d := ⟨_, List.getElem?_eq_getElem (by omega)⟩
      have hcd : ((order.map encN ++ sp).drop 1)[i]? = some (encN d) := by
        rw [List.getElem?_drop, List.getElem?_append_left (by simp; omega), List.getElem?_map, Nat.add_comm, hd]; rfl
      have hB3 := hk3.blk hBg hgbt
      have hW3 := hk3.blk hW hbt1
      have hP3 := hk3.blk hP hbt2
      have hc1 : Cells w3 g 1 ((order.map encN ++ sp).drop 1) := hB3.cells.part 1 (fun j u h => by rwa [List.getElem?_drop] at h)
      have hdn : d < n := by rw [← hpl.len]; exact (List.getElem?_eq_some_iff.1 (hpl.inn _ _ hd)).1
      obtain ⟨r, hr⟩ : ∃ r, Pw[d]? = some r := ⟨_, List.getElem?_eq_getElem (by rw [hB.len]; omega)⟩
      obtain ⟨bo, oo, cs, hnao, hDbo, hcsl, hcs, hRs⟩ := hbel d r hr
      obtain ⟨rv, rfl, ra, rc, rfl, hrlc, hrcm, hrel⟩ := hRs
      have hcs3 := hk3.cells hcs (hD bo hDbo)
      have hbl := hB.len
      refine WC.skip (WX.next (WC.seq (WC.block (WC.seq (WC.region ?_)))))
      refine WO.op rfl rfl rfl (R.indexS Try.runUnderlying27 Try.sizeOf3 rfl rfl (hF (by omega)) (by omega)) ?_
      refine WO.op rfl rfl rfl (R.load Try.isAgg3 rfl (hc1.el1 i rfl hcd)) ?_
      refine WO.op rfl rfl rfl (R.assign rfl) ?_
      refine WO.nil (WX.next (WC.seq (WC.region ?_)))
      refine WO.op rfl rfl rfl (R.assign rfl) ?_
      refine WO.nil (WX.next (WC.seq (WC.seq (WC.region ?_))))
      refine WO.op rfl rfl rfl (R.move rfl) ?_
      refine WO.op rfl rfl rfl (R.nilCheck rfl) ?_
      refine WO.op rfl rfl rfl (R.fieldAddr Try.runUnderlying58 rfl Try.sizeOf35 rfl) ?_
      refine WO.op rfl rfl rfl (R.load Try.isAgg35 rfl (hW3.cells 1 _ rfl)) ?_
      refine WO.op rfl rfl rfl (R.move rfl) ?_
      refine WO.op rfl rfl rfl (R.indexS Try.runUnderlying35 Try.sizeOf27 rfl rfl hnao (by omega)) ?_
      refine WO.op rfl rfl rfl (R.load Try.isAgg27 rfl (hcs3.el1 (cs := [_]) 0 rfl rfl)) ?_
      refine WO.op rfl rfl rfl (R.lenS rfl Try.runUnderlying27 rfl) ?_
      refine WO.op rfl rfl rfl (R.move rfl) ?_
      refine WO.nil (WX.next (WC.block ?_))
      refine WC.loop (σ := Nat × Int) (fun ⟨j, new⟩ => [(0, .pointer (some ⟨bw, 0, none⟩)), (2, .int .i64 root), (3, .bool ch), (27, .slice ao1 (order.length - 1) (cap - 1)), (28, .int .i64 (order.length - 1 : Nat)), (29, .int .i64 i), (5, .int .i64 d), (6, .int .i64 new), (39, .slice ra r.length rc), (40, .int .i64 r.length), (41, .int .i64 j)]) (fun ⟨j, new⟩ => fun w' => j ≤ r.length ∧ Ext w3 w' ∧ ∃ ps : List Nat, (∀ p : Nat, p ∈ ps ↔ 0 ≤ lk T p ∧ (p : Int) ∈ r.take j) ∧ ((new = -1 ∧ ps = []) ∨ ∃ m : Nat, new = (m : Int) ∧ MeetAll T root ps m)) (fun ⟨j, new⟩ => r.length - j) ((0, -1)) (Sub.cons rfl (Sub.cons rfl (Sub.cons rfl (Sub.cons rfl (Sub.cons rfl (Sub.cons rfl (Sub.cons rfl (Sub.cons rfl (Sub.cons rfl (Sub.cons rfl (Sub.cons rfl Sub.nil))))))))))) (⟨Nat.zero_le _, Keep.refl _ _, [], by simp, .inl ⟨rfl, rfl⟩⟩) ?_
      rintro ⟨j, new⟩ w4 ⟨hjr, hk4, ps, hps, hnew⟩
      show WC _ _ _ _ [(0, .pointer (some ⟨bw, 0, none⟩)), (2, .int .i64 root), (3, .bool ch), (27, .slice ao1 (order.length - 1) (cap - 1)), (28, .int .i64 (order.length - 1 : Nat)), (29, .int .i64 i), (5, .int .i64 d), (6, .int .i64 new), (39, .slice ra r.length rc), (40, .int .i64 r.length), (41, .int .i64 j)] _
      refine WC.seq (WC.region ?_)
      refine WO.op rfl rfl rfl (R.lss rfl rfl) ?_
      refine WO.nil (WX.next (WC.seq ?_))
      refine WC.ite rfl (fun hjl => ?_) (fun hjg => ?_)
      · obtain ⟨y, hy⟩ : ∃ y, r[j]? = some y := ⟨_, List.getElem?_eq_getElem (by omega)⟩
        obtain ⟨p, rfl, hpd⟩ := (hB.mem d r hr y).1 (List.mem_of_getElem? hy)
        have hpn : p < n := by
          obtain ⟨r', h1, _⟩ := hpd
          rw [← hn]; exact (List.getElem?_eq_some_iff.1 h1).1
        obtain ⟨be, oe, ce, hra, hDb, hcel, hce, rfl⟩ := hrel j _ hy
        have hce4 := hk4.cells (hk3.cells hce (hD be hDb)) (fun h => h)
        have hW4 := hk4.blk hW3 (fun h => h)
        have hP4 := hk4.blk hP3 (fun h => h)
        have hT4 := hk4.blk hT3 (fun h => h)
        have htk : ∀ q : Nat, (q : Int) ∈ r.take (j + 1) ↔ (q : Int) ∈ r.take j ∨ q = p := by
          intro q
          obtain ⟨hjlt, hje⟩ := List.getElem?_eq_some_iff.1 hy
          rw [List.take_succ_eq_append_getElem hjlt, List.mem_append, List.mem_singleton, hje]
          constructor
          · rintro (h | h)
            · exact .inl h
            · exact .inr (Int.ofNat.inj h)
          · rintro (h | h)
            · exact .inl h
            · exact .inr (by rw [h])
        refine WC.skip (WX.next (WC.seq (WC.block (WC.seq (WC.region ?_)))))
        refine WO.op rfl rfl rfl (R.indexS Try.runUnderlying27 Try.sizeOf3 rfl rfl hra (by omega)) ?_
        refine WO.op rfl rfl rfl (R.load Try.isAgg3 rfl (hce4.el1 (cs := [_]) 0 rfl rfl)) ?_
        refine WO.op rfl rfl rfl (R.assign rfl) ?_
        refine WO.nil (WX.next (WC.block (WC.seq (WC.region ?_))))
        refine WO.op rfl rfl rfl (R.move rfl) ?_
        refine WO.op rfl rfl rfl (R.nilCheck rfl) ?_
        refine WO.op rfl rfl rfl (R.fieldAddr Try.runUnderlying58 rfl Try.sizeOf27 rfl) ?_
        refine WO.op rfl rfl rfl (R.load Try.isAgg27 rfl (hW4.cells 3 _ rfl)) ?_
        refine WO.op rfl rfl rfl (R.move rfl) ?_
        refine WO.op rfl rfl rfl (R.indexS Try.runUnderlying27 Try.sizeOf3 rfl rfl rfl (by omega)) ?_
        refine WO.op rfl rfl rfl (R.load Try.isAgg3 rfl (hP4.cells.el1 p rfl (map_at (lk_lt (by rw [hpl.len]; exact hpn))))) ?_
        refine WO.op rfl rfl rfl (R.lss rfl rfl) ?_
        refine WO.op rfl rfl rfl (R.move rfl) ?_
        refine WO.cases (p := 0 ≤ lk T p) (fun hp0 => ?_) (fun hp0 => ?_)
        · have hpp := hL2.up.proc p hp0
          refine WO.yes rfl rfl (decide_eq_false (by omega)) ?_
          refine WO.op rfl rfl rfl (R.move rfl) ?_
          refine WO.yes rfl rfl (decide_eq_false (by omega)) ?_
          refine WO.op rfl rfl rfl (R.nilCheck rfl) ?_
          refine WO.yes rfl rfl (decide_eq_false (by omega)) ?_
          refine WO.op rfl rfl rfl (R.fieldAddr Try.runUnderlying58 rfl Try.sizeOf27 rfl) ?_
          refine WO.yes rfl rfl (decide_eq_false (by omega)) ?_
          refine WO.op rfl rfl rfl (R.load Try.isAgg27 rfl (hW4.cells 4 _ rfl)) ?_
          refine WO.yes rfl rfl (decide_eq_false (by omega)) ?_
          refine WO.op rfl rfl rfl (R.move rfl) ?_
          refine WO.yes rfl rfl (decide_eq_false (by omega)) ?_
          refine WO.op rfl rfl rfl (R.indexS Try.runUnderlying27 Try.sizeOf3 rfl rfl rfl (by omega)) ?_
          refine WO.yes rfl rfl (decide_eq_false (by omega)) ?_
          refine WO.op rfl rfl rfl (R.load Try.isAgg3 rfl (hT4.cells.el1 p rfl (map_at (lk_lt (by omega))))) ?_
          refine WO.yes rfl rfl (decide_eq_false (by omega)) ?_
          refine WO.op rfl rfl rfl (R.lss rfl rfl) ?_
          refine WO.op rfl rfl rfl (R.pickF rfl (decide_eq_false (by omega)) rfl) ?_
          refine WO.op rfl rfl rfl (R.assign rfl) ?_
          refine WO.nil (WX.next ?_)
          refine WC.ff rfl ((decide_eq_false (by omega))) ?_
          refine WC.seq (WC.region ?_)
          refine WO.op rfl rfl rfl (R.move rfl) ?_
          refine WO.op rfl rfl rfl (R.lss rfl rfl) ?_
          refine WO.op rfl rfl rfl (R.assign rfl) ?_
          refine WO.nil (WX.next ?_)
          refine WC.ite rfl (fun hn0 => ?_) (fun hn0 => ?_)
          · have hps0 : ps = [] := by
              rcases hnew with ⟨_, h⟩ | ⟨m, h, _⟩
              · exact h
              · omega
            subst hps0
            refine WC.region ?_
            refine WO.op rfl rfl rfl (R.move rfl) ?_
            refine WO.op rfl rfl rfl (R.assign rfl) ?_
            refine WO.nil (WX.blockN (WX.blockN (WX.next (WC.region ?_))))
            refine WO.op rfl rfl rfl (R.add rfl rfl (wrap_i64_in (by omega))) ?_
            refine WO.op rfl rfl rfl (R.move rfl) ?_
            refine WO.nil ?_
            refine WX.back ((j + 1, (p : Int))) (Sub.cons rfl (Sub.cons rfl (Sub.cons rfl (Sub.cons rfl (Sub.cons rfl (Sub.cons rfl (Sub.cons rfl (Sub.cons rfl (Sub.cons rfl (Sub.cons rfl (Sub.cons rfl Sub.nil))))))))))) (⟨by omega, hk4, [p], ?_, .inr ⟨p, rfl, .one hp0⟩⟩) (by first | omega | (dsimp only; omega))
            intro q
            rw [List.mem_singleton, htk]
            have := hps q
            constructor
            · rintro rfl; exact ⟨hp0, .inr rfl⟩
            · rintro ⟨h1, h2 | h2⟩
              · exact absurd (this.2 ⟨h1, h2⟩) (by simp)
              · exact h2
          · obtain ⟨m, rfl, hm⟩ : ∃ m : Nat, new = (m : Int) ∧ MeetAll T root ps m := by
              rcases hnew with ⟨h, _⟩ | h
              · omega
              · exact h
            refine WC.region ?_
            refine WO.op rfl rfl rfl (R.move rfl) ?_
            refine WO.op rfl rfl rfl (R.move rfl) ?_
            refine WO.op rfl rfl rfl (R.move rfl) ?_
            refine WO.call rfl rfl rfl (F.call (vs := [_, _, _]) Try.call58 rfl) (meet_ok w4 hL2.up.toChain hW4 hP4 hT4 hpl.len hTl m p hm.ok hp0) ?_
            rintro _ w5 ⟨m', rfl, hmm, hm0, hk5⟩
            refine WO.op rfl rfl rfl (R.assign rfl) ?_
            refine WO.nil (WX.blockN (WX.blockN (WX.next (WC.region ?_))))
            refine WO.op rfl rfl rfl (R.add rfl rfl (wrap_i64_in (by omega))) ?_
            refine WO.op rfl rfl rfl (R.move rfl) ?_
            refine WO.nil ?_
            refine WX.back ((j + 1, (m' : Int))) (Sub.cons rfl (Sub.cons rfl (Sub.cons rfl (Sub.cons rfl (Sub.cons rfl (Sub.cons rfl (Sub.cons rfl (Sub.cons rfl (Sub.cons rfl (Sub.cons rfl (Sub.cons rfl Sub.nil))))))))))) (⟨by omega, hk4.ext hk5, ps ++ [p], ?_, .inr ⟨m', rfl, hm.step hmm hm0⟩⟩) (by first | omega | (dsimp only; omega))
            intro q
            rw [List.mem_append, List.mem_singleton, htk, hps]
            constructor
            · rintro (⟨h1, h2⟩ | rfl)
              · exact ⟨h1, .inl h2⟩
              · exact ⟨hp0, .inr rfl⟩
            · rintro ⟨h1, h2 | h2⟩
              · exact .inl ⟨h1, h2⟩
              · exact .inr h2
        · have hps' : ∀ q : Nat, q ∈ ps ↔ 0 ≤ lk T q ∧ (q : Int) ∈ r.take (j + 1) := by
            intro q
            rw [htk, hps]
            constructor
            · rintro ⟨h1, h2⟩; exact ⟨h1, .inl h2⟩
            · rintro ⟨h1, h2 | rfl⟩
              · exact ⟨h1, h2⟩
              · exact absurd h1 hp0
          refine WO.cases (p := lk pl p < 0) (fun hq0 => ?_) (fun hq0 => ?_)
          ·
            refine WO.no rfl rfl (decide_eq_true hq0) rfl ?_
            refine WO.no rfl rfl (decide_eq_true hq0) rfl ?_
            refine WO.no rfl rfl (decide_eq_true hq0) rfl ?_
            refine WO.no rfl rfl (decide_eq_true hq0) rfl ?_
            refine WO.no rfl rfl (decide_eq_true hq0) rfl ?_
            refine WO.no rfl rfl (decide_eq_true hq0) rfl ?_
            refine WO.no rfl rfl (decide_eq_true hq0) rfl ?_
            refine WO.no rfl rfl (decide_eq_true hq0) rfl ?_
            refine WO.op rfl rfl rfl (R.pickT rfl (decide_eq_true hq0) rfl) ?_
            refine WO.op rfl rfl rfl (R.assign rfl) ?_
            refine WO.nil (WX.next ?_)
            refine WC.tt rfl (rfl) ?_
            refine WC.skip (WX.blockN (WX.blockN (WX.next (WC.region ?_))))
            refine WO.op rfl rfl rfl (R.add rfl rfl (wrap_i64_in (by omega))) ?_
            refine WO.op rfl rfl rfl (R.move rfl) ?_
            refine WO.nil ?_
            refine WX.back ((j + 1, new)) (Sub.cons rfl (Sub.cons rfl (Sub.cons rfl (Sub.cons rfl (Sub.cons rfl (Sub.cons rfl (Sub.cons rfl (Sub.cons rfl (Sub.cons rfl (Sub.cons rfl (Sub.cons rfl Sub.nil))))))))))) (⟨by omega, hk4, ps, hps', hnew⟩) (by first | omega | (dsimp only; omega))
          ·
            refine WO.yes rfl rfl (decide_eq_false hq0) ?_
            refine WO.op rfl rfl rfl (R.move rfl) ?_
            refine WO.yes rfl rfl (decide_eq_false hq0) ?_
            refine WO.op rfl rfl rfl (R.nilCheck rfl) ?_
            refine WO.yes rfl rfl (decide_eq_false hq0) ?_
            refine WO.op rfl rfl rfl (R.fieldAddr Try.runUnderlying58 rfl Try.sizeOf27 rfl) ?_
            refine WO.yes rfl rfl (decide_eq_false hq0) ?_
            refine WO.op rfl rfl rfl (R.load Try.isAgg27 rfl (hW4.cells 4 _ rfl)) ?_
            refine WO.yes rfl rfl (decide_eq_false hq0) ?_
            refine WO.op rfl rfl rfl (R.move rfl) ?_
            refine WO.yes rfl rfl (decide_eq_false hq0) ?_
            refine WO.op rfl rfl rfl (R.indexS Try.runUnderlying27 Try.sizeOf3 rfl rfl rfl (by omega)) ?_
            refine WO.yes rfl rfl (decide_eq_false hq0) ?_
            refine WO.op rfl rfl rfl (R.load Try.isAgg3 rfl (hT4.cells.el1 p rfl (map_at (lk_lt (by omega))))) ?_
            refine WO.yes rfl rfl (decide_eq_false hq0) ?_
            refine WO.op rfl rfl rfl (R.lss rfl rfl) ?_
            refine WO.op rfl rfl rfl (R.pickF rfl (decide_eq_false hq0) rfl) ?_
            refine WO.op rfl rfl rfl (R.assign rfl) ?_
            refine WO.nil (WX.next ?_)
            refine WC.tt rfl ((decide_eq_true (by omega))) ?_
            refine WC.skip (WX.blockN (WX.blockN (WX.next (WC.region ?_))))
            refine WO.op rfl rfl rfl (R.add rfl rfl (wrap_i64_in (by omega))) ?_
            refine WO.op rfl rfl rfl (R.move rfl) ?_
            refine WO.nil ?_
            refine WX.back ((j + 1, new)) (Sub.cons rfl (Sub.cons rfl (Sub.cons rfl (Sub.cons rfl (Sub.cons rfl (Sub.cons rfl (Sub.cons rfl (Sub.cons rfl (Sub.cons rfl (Sub.cons rfl (Sub.cons rfl Sub.nil))))))))))) (⟨by omega, hk4, ps, hps', hnew⟩) (by first | omega | (dsimp only; omega))
      · have hjr' : j = r.length := by omega
        subst hjr'
        have hps' : ∀ p, p ∈ ps ↔ 0 ≤ lk T p ∧ Dfs.Edge Rw p d := by
          intro p
          rw [hps, List.take_length, hB.mem d r hr]
          constructor
          · rintro ⟨h1, a, h2, h3⟩
            have := Int.ofNat.inj h2
            subst this
            exact ⟨h1, h3⟩
          · rintro ⟨h1, h2⟩
            exact ⟨h1, p, rfl, h2⟩
        obtain ⟨hdr, _, hdp, hpsn, hmlt⟩ := hL2.facts hO hpl hd hps'
        obtain ⟨m, rfl, hm⟩ : ∃ m : Nat, new = (m : Int) ∧ MeetAll T root ps m := by
          rcases hnew with ⟨_, h⟩ | h
          · exact absurd h hpsn
          · exact h
        have hW4 := hk4.blk hW3 (fun h => h)
        have hT4 := hk4.blk hT3 (fun h => h)
        refine WC.exit (WX.thenE (WX.thenE (WX.hit (WX.next (WC.seq (WC.region ?_))))))
        refine WO.op rfl rfl rfl (R.move rfl) ?_
        refine WO.op rfl rfl rfl (R.nilCheck rfl) ?_
        refine WO.op rfl rfl rfl (R.fieldAddr Try.runUnderlying58 rfl Try.sizeOf27 rfl) ?_
        refine WO.op rfl rfl rfl (R.load Try.isAgg27 rfl (hW4.cells 4 _ rfl)) ?_
        refine WO.op rfl rfl rfl (R.move rfl) ?_
        refine WO.op rfl rfl rfl (R.indexS Try.runUnderlying27 Try.sizeOf3 rfl rfl rfl (by omega)) ?_
        refine WO.op rfl rfl rfl (R.load Try.isAgg3 rfl (hT4.cells.el1 d rfl (map_at (lk_lt (by omega))))) ?_
        refine WO.op rfl rfl rfl (R.move rfl) ?_
        refine WO.op rfl rfl rfl (R.neq rfl rfl) ?_
        refine WO.nil (WX.next ?_)
        have hi2 : i + 1 + 1 ≤ order.length := (List.getElem?_eq_some_iff.1 hd).1
        refine WC.ite rfl (fun hne' => ?_) (fun heq' => ?_)
        ·
          refine WC.region ?_
          refine WO.op rfl rfl rfl (R.move rfl) ?_
          refine WO.op rfl rfl rfl (R.nilCheck rfl) ?_
          refine WO.op rfl rfl rfl (R.fieldAddr Try.runUnderlying58 rfl Try.sizeOf27 rfl) ?_
          refine WO.op rfl rfl rfl (R.load Try.isAgg27 rfl (hW4.cells 4 _ rfl)) ?_
          refine WO.op rfl rfl rfl (R.move rfl) ?_
          refine WO.op rfl rfl rfl (R.move rfl) ?_
          refine WO.op rfl rfl rfl (R.indexS Try.runUnderlying27 Try.sizeOf3 rfl rfl rfl (by omega)) ?_
          refine WO.mem0 rfl rfl (M.store Try.sizeOf3 rfl rfl rfl rfl hT4 (by simp; omega)) ?_
          rintro w5 ⟨hs5, hT5, hk5⟩
          rw [show 0 + (d : Int).toNat * 1 = d from by omega, ← List.map_set] at hT5
          refine WO.op rfl rfl rfl (R.assign rfl) ?_
          refine WO.nil (WX.blockN (WX.next (WC.region ?_)))
          refine WO.op rfl rfl rfl (R.add rfl rfl (wrap_i64_in (by omega))) ?_
          refine WO.op rfl rfl rfl (R.move rfl) ?_
          refine WO.nil ?_
          refine WX.back ((i + 1, true, T.set d (m : Int))) (Sub.cons rfl (Sub.cons rfl (Sub.cons rfl (Sub.cons rfl (Sub.cons rfl (Sub.cons rfl Sub.nil)))))) (⟨hL2.change hO hpl hK0 hK hd hps' hm hne', hi2, hT5, (hk3.ext hk4).trans hk5 (fun _ _ h => h)⟩) ((by show order.length - (i + 1) < order.length - i; omega))
        ·
          refine WC.skip (WX.blockN (WX.next (WC.region ?_)))
          refine WO.op rfl rfl rfl (R.add rfl rfl (wrap_i64_in (by omega))) ?_
          refine WO.op rfl rfl rfl (R.move rfl) ?_
          refine WO.nil ?_
          refine WX.back ((i + 1, ch, T)) (Sub.cons rfl (Sub.cons rfl (Sub.cons rfl (Sub.cons rfl (Sub.cons rfl (Sub.cons rfl Sub.nil)))))) (⟨hL2.same hO hpl hd hps' hm (by simpa using heq'), hi2, hT4, hk3.ext hk4⟩) (by first | omega | (dsimp only; omega))
    ·
      refine WC.exit (WX.thenE (WX.thenE (WX.hit (WX.blockN ?_))))
      refine WX.back ((k + 1, ch, T)) (Sub.cons rfl (Sub.cons rfl (Sub.cons rfl Sub.nil))) (⟨hL2.last hO (by omega), hT3, hk3⟩) (?_)
      dsimp only
      cases ch with
      | true => have := hL2.big rfl; simp; omega
      | false => simp; omega
  · have hch' : ch = false := by simpa using hch
    subst hch'
    have hS := hL.solved hO hpl hroot
    have hTl := hL.len
    have hW2 := hk2.blk hW hbt1
    refine WC.exit (WX.thenE (WX.thenE (WX.hit (WX.next (WC.region ?_)))))
    refine WO.op rfl rfl rfl (R.move rfl) ?_
    refine WO.op rfl rfl rfl (R.nilCheck rfl) ?_
    refine WO.op rfl rfl rfl (R.fieldAddr Try.runUnderlying58 rfl Try.sizeOf27 rfl) ?_
    refine WO.op rfl rfl rfl (R.load Try.isAgg27 rfl (hW2.cells 4 _ rfl)) ?_
    refine WO.op rfl rfl rfl (R.move rfl) ?_
    refine WO.op rfl rfl rfl (R.indexS Try.runUnderlying27 Try.sizeOf3 rfl rfl rfl (by omega)) ?_
    refine WO.mem0 rfl rfl (M.store Try.sizeOf3 rfl rfl rfl rfl hT2 (by simp; omega)) ?_
    rintro w3 ⟨hs3, hT3, hk3⟩
    rw [show 0 + (root : Int).toNat * 1 = root from by omega, ← List.map_set] at hT3
    refine WO.nil ?_
    refine WX.end0 Try.results45 ⟨_, rfl, rfl, _, hS, hT3, hk2.trans hk3 (fun _ _ h => h)⟩
end Go.Proofs.Yteilalejfphkgaa
