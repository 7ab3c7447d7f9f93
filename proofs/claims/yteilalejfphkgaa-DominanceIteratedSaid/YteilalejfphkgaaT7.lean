/-
  dominance: search. Contract; nothing here is a claim.
-/
import Derived.Test.YteilalejfphkgaaT6
namespace Go.Proofs.Yteilalejfphkgaa
open Go.GL Go.GL.Dom Go.GL.Dfs

def encF (f : Nat × Nat) : List Value := [.int .i64 f.1, .int .i64 f.2]
theorem encF_len (f : Nat × Nat) : (encF f).length = 2 := rfl
theorem encF_one (f : Nat × Nat) : ∀ u ∈ encF f, u.oneCell' = true := by simp [encF, Value.oneCell']
def encN (x : Nat) : Value := .int .i64 x
theorem flatF_len (l : List (Nat × Nat)) : (l.flatMap encF).length = l.length * 2 := flat_len encF_len l

/-- One cell of an element is turned. -/
theorem flat_cell {α : Type} {c : Nat} {enc : α → List Value} (hc : ∀ x, (enc x).length = c) {v : Value} {j : Nat} {x y : α} (hj : j < c) (hy : enc y = (enc x).set j v) : ∀ (L : List α) (k : Nat) (sp : List Value), L[k]? = some x → (L.flatMap enc ++ sp).set (k * c + j) v = (L.set k y).flatMap enc ++ sp
  | [], k, sp, h => by simp at h
  | z :: r, 0, sp, h => by
    simp at h
    subst h
    simp only [Nat.zero_mul, Nat.zero_add, List.flatMap_cons, List.set_cons_zero, List.append_assoc]
    rw [List.set_append_left _ _ (by rw [hc]; exact hj), ← hy]
  | z :: r, k + 1, sp, h => by
    simp only [List.getElem?_cons_succ] at h
    simp only [List.flatMap_cons, List.set_cons_succ, List.append_assoc]
    rw [List.set_append_right _ _ (by rw [hc, Nat.succ_mul]; omega), hc]
    rw [show (k + 1) * c + j - c = k * c + j from by rw [Nat.succ_mul]; omega, flat_cell hc hj hy r k sp h]

theorem map_boolset (l : List Bool) (i : Nat) : (l.map Value.bool).set i (.bool true) = (l.set i true).map Value.bool := by rw [List.map_set]

/-- What the loop of search carries. -/
structure SearchI (Rw : List (List Int)) (root n bw bs : Nat) (nv bv pv tv : Value) (w : World) (seen : List Bool) (st : List (Nat × Nat)) (out : List Nat) (vs vo : Value) (w' : World) : Prop where
  inv : Dfs.Inv Rw root seen st out
  hs : Blk w' bs (seen.map .bool) 4
  stk : w'.ownsRow 0 82 2 vs st.length (st.flatMap encF)
  lst : w'.ownsRow 0 3 1 vo out.length (out.map encN)
  hw : Blk w' bw [nv, bv, vo, pv, tv] 58
  fs : ∀ g, vs.ownBlock = some g → w.heap.size ≤ g ∧ g ≠ bs
  fo : ∀ g, vo.ownBlock = some g → w.heap.size ≤ g ∧ g ≠ bs
  apart : ∀ g, vs.ownBlock = some g → vo.ownBlock ≠ some g
  keep : Keep (fun b => b = bw) w w'

theorem search_ok (Rw : List (List Int)) (root n bw bp : Nat) (nv bv tv : Value) (D : Nat → Prop) (w : World) (hR : Dfs.Rows Rw) (hn : Rw.length = n) (hn4 : n ≤ 4096) (hroot : root < n) (hsort : ∀ (a : Nat) r, Rw[a]? = some r → r.Pairwise (· < ·))
    (hnv : SlR 1 (RSl 1 RInt) D w nv Rw) (hD : ∀ b, D b → b ≠ bw ∧ b ≠ bp) (hbp : bw ≠ bp) (hW : Blk w bw [nv, bv, .slice none 0 0, .slice (some ⟨bp, 0, none⟩) n n, tv] 58) (hP : Blk w bp (List.replicate n (.int .i64 (-1))) 3) :
    Calls Try.prog 44 #[.pointer (some ⟨bw, 0, none⟩), .int .i64 root] w (Ret fun u w' => u = .tuple #[] ∧ ∃ (order : List Nat) (pl : List Int) (ov : Value), Dfs.Order Rw root order ∧ Dfs.Place n order pl ∧ Blk w' bw [nv, bv, ov, .slice (some ⟨bp, 0, none⟩) n n, tv] 58 ∧ w'.ownsRow 0 3 1 ov order.length (order.map encN) ∧ (∀ g, ov.ownBlock = some g → w.heap.size ≤ g) ∧ Blk w' bp (pl.map (.int .i64)) 3 ∧ Keep (fun b => b = bw ∨ b = bp) w w') := by
  have hrow : ∀ (a : Nat) r, Rw[a]? = some r → r.length ≤ n := by
    intro a r hr
    have h1 := nodup_le n (r.map Int.toNat) (by
      rw [List.Nodup, List.pairwise_map]
      refine (hsort a r hr).imp_of_mem ?_
      intro x y hx hy hxy
      obtain ⟨b, rfl, _⟩ := hR.ok a r hr x hx
      obtain ⟨c, rfl, _⟩ := hR.ok a r hr y hy
      omega) (by
      intro x hx
      obtain ⟨y, hy, rfl⟩ := List.mem_map.1 hx
      obtain ⟨b, rfl, hb⟩ := hR.ok a r hr y hy
      omega)
    simpa using h1
  obtain ⟨na, nc, rfl, hnl, hnm, hnel⟩ := hnv
  have hbw := hW.lt
  have hbpl := hP.lt
  refine calls Try.func44 rfl [(0, .pointer (some ⟨bw, 0, none⟩)), (1, .int .i64 root)] 123 ⟨Nat.le_of_ble_eq_true rfl, Try.ntmps44⟩ (argsOk (Sub.cons rfl (Sub.cons rfl Sub.nil))) ?_
  refine WC.seq (WC.region ?_)
  refine WO.op rfl rfl rfl (R.move rfl) ?_
  refine WO.op rfl rfl rfl (R.nilCheck rfl) ?_
  refine WO.op rfl rfl rfl (R.fieldAddr Try.runUnderlying58 rfl Try.sizeOf35 rfl) ?_
  refine WO.op rfl rfl rfl (R.load Try.isAgg35 rfl (hW.cells 0 _ rfl)) ?_
  refine WO.op rfl rfl rfl (R.lenS rfl Try.runUnderlying35 rfl) ?_
  refine WO.mem rfl rfl rfl (M.make Try.underlying53 Try.el4 rfl rfl (by omega) (by omega) (made1 _ Rw.length rfl)) ?_
  rintro _ w1 ⟨bs, rfl, hbs, hs1, hB1, hk1⟩
  refine WO.op rfl rfl rfl (R.assign rfl) ?_
  refine WO.nil (WX.next (WC.seq (WC.region ?_)))
  refine WO.op rfl rfl rfl (R.move rfl) ?_
  refine WO.op rfl rfl rfl (R.move rfl) ?_
  refine WO.op rfl rfl rfl (R.indexS Try.runUnderlying53 Try.sizeOf4 rfl rfl rfl (by omega)) ?_
  refine WO.mem0 rfl rfl (M.store Try.sizeOf4 rfl rfl rfl rfl hB1 (by simp; omega)) ?_
  rintro w2 ⟨hs2, hB2, hk2⟩
  rw [show 0 + (root : Int).toNat * 1 = root from by omega] at hB2
  refine WO.nil (WX.next (WC.seq (WC.region ?_)))
  refine WO.op rfl rfl rfl (R.move rfl) ?_
  refine WO.op rfl rfl rfl (R.build (v := .agg #[.int .i64 root, .int .i64 0]) [(0, _), (1, _)] rfl (fun _ => by kernel_rfl)) ?_
  refine WO.mem rfl rfl rfl (M.buildSlice (cs := encF (root, 0)) [(0, _)] Try.runUnderlying83 Try.sizeOf82 Try.zeroValue82 (by decide) rfl (by kernel_rfl)) ?_
  rintro _ w3 ⟨b3, rfl, hb3, hs3, hB3, hk3⟩
  refine WO.op rfl rfl rfl (R.assign rfl) ?_
  refine WO.nil (WX.next (WC.seq (WC.block ?_)))
  have hE12 : Ext w w2 := hk1.trans hk2 (fun q hq h => by omega)
  have hstart : SearchI Rw root n bw bs (.slice na Rw.length nc) bv (.slice (some ⟨bp, 0, none⟩) n n) tv w ((List.replicate Rw.length false).set root true) [(root, 0)] [] (.slice (some ⟨b3, 0, none⟩) 1 1) (.slice none 0 0) w3 := by
    refine ⟨Dfs.Inv.start (by omega), ?_, ?_, own_nil _ _ _, (hE12.ext hk3).blk hW (fun h => h), ?_, ?_, ?_, (hE12.ext hk3).mono (fun _ _ h => h.elim)⟩
    · have := hk3.blk hB2 (fun h => h)
      rw [List.map_set, List.map_replicate]
      exact this
    · have := own_blk (k := 2) (n := 1) (cap := 1) hB3 (by omega) (by omega) rfl
      exact this
    · intro g hg
      simp [Value.ownBlock] at hg
      omega
    · intro g hg; simp [Value.ownBlock] at hg
    · intro g _ h; simp [Value.ownBlock] at h
  refine WC.loop (σ := List Bool × List (Nat × Nat) × List Nat × Value × Value) (fun ⟨seen, st, out, vs, vo⟩ => [(0, .pointer (some ⟨bw, 0, none⟩)), (4, .slice (some ⟨bs, 0, none⟩) Rw.length Rw.length), (5, vs)]) (fun ⟨seen, st, out, vs, vo⟩ => fun w' => SearchI Rw root n bw bs (.slice na Rw.length nc) bv (.slice (some ⟨bp, 0, none⟩) n n) tv w seen st out vs vo w') (fun ⟨seen, st, out, vs, vo⟩ => dsum Rw seen + ssum Rw st) (((List.replicate Rw.length false).set root true, [(root, 0)], [], .slice (some ⟨b3, 0, none⟩) 1 1, .slice none 0 0)) (Sub.cons rfl (Sub.cons rfl (Sub.cons rfl Sub.nil))) (hstart) ?_
  rintro ⟨seen, st, out, vs, vo⟩ w4 hI
  show WC _ _ _ _ [(0, .pointer (some ⟨bw, 0, none⟩)), (4, .slice (some ⟨bs, 0, none⟩) Rw.length Rw.length), (5, vs)] _
  obtain ⟨hinv, hsn, hstk, hlst, hwk, hfs, hfo, hap, hkp⟩ := hI
  have hnd := hinv.nodup
  have hall : ∀ x ∈ st.map Prod.fst ++ out, x < n := by
    intro x hx
    have := (hinv.mark x).2 (List.mem_append.1 hx)
    have h2 := (List.getElem?_eq_some_iff.1 this).1
    rw [hinv.len, hn] at h2
    exact h2
  have hcount := nodup_le n _ hnd hall
  rw [List.length_append, List.length_map] at hcount
  have hsz4 := hkp.size
  obtain ⟨av, cv, hvs⟩ := own_form hstk
  rw [hvs]
  refine WC.seq (WC.seq (WC.region ?_))
  refine WO.op rfl rfl rfl (R.move rfl) ?_
  refine WO.op rfl rfl rfl (R.lenS rfl Try.runUnderlying83 rfl) ?_
  refine WO.op rfl rfl rfl (R.gtr rfl rfl) ?_
  refine WO.nil (WX.next ?_)
  refine WC.ite rfl (fun hgt => ?_) (fun hle => ?_)
  · obtain ⟨st', x, e, rfl⟩ : ∃ st' x e, st = st' ++ [(x, e)] := by
      rcases List.eq_nil_or_concat st with rfl | ⟨s, ⟨x, e⟩, rfl⟩
      · simp at hgt
      · exact ⟨s, x, e, by simp⟩
    have hne : st' ++ [(x, e)] ≠ [] := by simp
    obtain ⟨g, cap, sp, hvs', hlen, hnc, hcm, hBg, hcl⟩ := own_open encF_len (by omega) hstk hne
    rw [hvs] at hvs'
    cases hvs'
    have hl1 : (st' ++ [(x, e)]).length = st'.length + 1 := by simp
    have hgg := hfs g (by rw [hvs]; rfl)
    have hglt := hBg.lt
    have hbsl := hsn.lt
    have hxat : (st' ++ [(x, e)])[st'.length]? = some (x, e) := by simp
    have hct : Cells w4 g (0 + st'.length * 2) (encF (x, e)) := flat_cells encF_len hBg hxat
    obtain ⟨r, hr, her, hpart⟩ := hinv.part x e (by simp)
    have hxn : x < n := hall x (by simp)
    have hrl := hrow x r hr
    obtain ⟨bo, oo, cs, hnao, hDbo, hcsl, hcs, hRs⟩ := hnel x r hr
    obtain ⟨rv, rfl, ra, rc, rfl, hrlc, hrcm, hrel⟩ := hRs
    have hDk : ∀ b, D b → ¬ b = bw := fun b hb => (hD b hb).1
    have hcs4 := hkp.cells hcs (hDk bo hDbo)
    rw [hl1]
    refine WC.skip (WX.next (WC.block (WC.seq (WC.region ?_))))
    refine WO.op rfl rfl rfl (R.move rfl) ?_
    refine WO.op rfl rfl rfl (R.move rfl) ?_
    refine WO.op rfl rfl rfl (R.lenS rfl Try.runUnderlying83 rfl) ?_
    refine WO.op rfl rfl rfl (R.sub rfl rfl (wrap_i64_in (by omega))) ?_
    refine WO.op rfl rfl rfl (R.indexS Try.runUnderlying83 Try.sizeOf82 rfl rfl rfl (by omega)) ?_
    rw [show 0 + ((((st'.length + 1 : Nat) : Int) - 1).toNat) * 2 = 0 + st'.length * 2 from by omega]
    refine WO.op rfl rfl rfl (R.assign rfl) ?_
    refine WO.nil (WX.next (WC.seq (WC.seq ?_)))
    refine WC.quiet (by kernel_rfl) (by kernel_rfl) ?_
    refine WQ.op rfl rfl rfl (fun w1 hw1 => R.move rfl) ?_
    refine WQ.op rfl rfl rfl (fun w1 hw1 => R.nilCheck rfl) ?_
    refine WQ.op rfl rfl rfl (fun w1 hw1 => R.fieldAddr Try.runUnderlying82 rfl Try.sizeOf3 rfl) ?_
    refine WQ.op rfl rfl rfl (fun w1 hw1 => R.load Try.isAgg3 rfl (hw1.cell (hct 1 _ rfl) (fun h => h))) ?_
    refine WQ.op rfl rfl rfl (fun w1 hw1 => R.move rfl) ?_
    refine WQ.op rfl rfl rfl (fun w1 hw1 => R.nilCheck rfl) ?_
    refine WQ.op rfl rfl rfl (fun w1 hw1 => R.fieldAddr Try.runUnderlying58 rfl Try.sizeOf35 rfl) ?_
    refine WQ.op rfl rfl rfl (fun w1 hw1 => R.load Try.isAgg35 rfl (hw1.cell (hwk.cells 0 _ rfl) (fun h => h))) ?_
    refine WQ.op rfl rfl rfl (fun w1 hw1 => R.move rfl) ?_
    refine WQ.op rfl rfl rfl (fun w1 hw1 => R.nilCheck rfl) ?_
    refine WQ.op rfl rfl rfl (fun w1 hw1 => R.fieldAddr Try.runUnderlying82 rfl Try.sizeOf3 rfl) ?_
    refine WQ.op rfl rfl rfl (fun w1 hw1 => R.load Try.isAgg3 rfl (hw1.cell (hct 0 _ rfl) (fun h => h))) ?_
    refine WQ.op rfl rfl rfl (fun w1 hw1 => R.indexS Try.runUnderlying35 Try.sizeOf27 rfl rfl hnao (by omega)) ?_
    refine WQ.op rfl rfl rfl (fun w1 hw1 => R.load Try.isAgg27 rfl (hw1.cell (hcs4.el1 (cs := [_]) 0 rfl rfl) (fun h => h))) ?_
    refine WQ.op rfl rfl rfl (fun w1 hw1 => R.lenS rfl Try.runUnderlying27 rfl) ?_
    refine WQ.op rfl rfl rfl (fun w1 hw1 => R.eql rfl rfl) ?_
    refine WQ.nil (fun w5 hE5 => ?_)
    refine WX.next ?_
    have hB5g := hE5.blk hBg (fun h => h)
    have hwk5 := hE5.blk hwk (fun h => h)
    have hct5 := hE5.cells hct (fun h => h)
    refine WC.ite rfl (fun heq => ?_) (fun hneq => ?_)
    · have he : e = r.length := by have := heq; simp at this; omega
      have hI' := hinv.pop hr he
      refine WC.seq ?_
      refine WC.draw (fun w' => Blk w' bw [.slice na Rw.length nc, bv, vo, .slice (some ⟨bp, 0, none⟩) n n, tv] 58 ∧ Cells w' g (0 + st'.length * 2) (encF (x, e))) [13] (by kernel_rfl) (fun w6 hE6 hh6 => ?_)
      have hwk6 := hE6.blk hwk5 (fun h => h)
      have hct6 := hE6.cells hct5 (fun h => h)
      refine WD.takeW 0 rfl (by kernel_rfl) rfl rfl rfl (fun w1 => R.move rfl) ?_
      refine WD.takeW 1 rfl (by kernel_rfl) rfl rfl rfl (fun w1 => R.move rfl) ?_
      refine WD.takeW 2 rfl (by kernel_rfl) rfl rfl rfl (fun w1 => R.nilCheck rfl) ?_
      refine WD.takeW 3 rfl (by kernel_rfl) rfl rfl rfl (fun w1 => R.fieldAddr Try.runUnderlying58 rfl Try.sizeOf27 rfl) ?_
      refine WD.take 4 rfl (by kernel_rfl) rfl rfl rfl ⟨hwk6, hct6⟩ (fun w1 hw1 => R.load Try.isAgg27 rfl (hw1.1.cells 2 _ rfl)) ?_
      refine WD.takeW 5 rfl (by kernel_rfl) rfl rfl rfl (fun w1 => R.move rfl) ?_
      refine WD.takeW 6 rfl (by kernel_rfl) rfl rfl rfl (fun w1 => R.nilCheck rfl) ?_
      refine WD.takeW 7 rfl (by kernel_rfl) rfl rfl rfl (fun w1 => R.fieldAddr Try.runUnderlying82 rfl Try.sizeOf3 rfl) ?_
      refine WD.take 8 rfl (by kernel_rfl) rfl rfl rfl ⟨hwk6, hct6⟩ (fun w1 hw1 => R.load Try.isAgg3 rfl (hw1.2 0 _ rfl)) ?_
      refine WD.mem 9 rfl (by kernel_rfl) rfl rfl rfl (M.buildSlice (cs := [.int .i64 x]) [(0, _)] Try.runUnderlying27 Try.sizeOf3 Try.zeroValue3 (by decide) rfl (by kernel_rfl)) ?_
      rintro _ w7 ⟨b7, rfl, hb7, hs7, hB7, hk7⟩
      refine ⟨fun _ => ⟨hk7.blk hwk6 (fun h => h), hk7.cells hct6 (fun h => h)⟩, ?_⟩
      have hE57 := hE5.ext (hE6.ext hk7)
      have hs57 := hE57.size
      have hlst7 := own_keep hlst hE57 (fun _ _ h => h)
      refine WD.mem 10 rfl (by kernel_rfl) rfl rfl rfl (M.append Try.underlying27 Try.el3 rfl (by decide) rfl rfl hlst7 rfl (Cells.add hB7.cells) (by simp; rfl) (by omega) (by omega)) ?_
      rintro vo' w8 ⟨hown8, hfr8, hk8, _⟩
      obtain ⟨a8, c8, rfl⟩ := own_form hown8
      have hbwo : vo.ownBlock ≠ some bw := fun h => by have := (hfo bw h).1; omega
      have hgo : vo.ownBlock ≠ some g := hap g (by rw [hvs]; rfl)
      have hwk8 := hk8.blk (hk7.blk hwk6 (fun h => h)) hbwo
      refine ⟨fun _ => ⟨hwk8, hk8.cells (hk7.cells hct6 (fun h => h)) hgo⟩, ?_⟩
      refine WD.takeW 11 rfl (by kernel_rfl) rfl rfl rfl (fun w1 => R.nilCheck rfl) ?_
      refine WD.takeW 12 rfl (by kernel_rfl) rfl rfl rfl (fun w1 => R.fieldAddr Try.runUnderlying58 rfl Try.sizeOf27 rfl) ?_
      refine WD.mem0 13 rfl (by kernel_rfl) rfl rfl (M.store Try.sizeOf27 rfl rfl rfl rfl hwk8 (by simp)) ?_
      rintro w9 ⟨hs9, hB9, hk9⟩
      refine ⟨fun h => absurd (List.mem_singleton.2 rfl) h, ?_⟩
      refine WD.done (by kernel_rfl) ?_ _
      refine WX.next (WC.seq (WC.region ?_))
      refine WO.op rfl rfl rfl (R.move rfl) ?_
      refine WO.op rfl rfl rfl (R.move rfl) ?_
      refine WO.op rfl rfl rfl (R.lenS rfl Try.runUnderlying83 rfl) ?_
      refine WO.op rfl rfl rfl (R.sub rfl rfl (wrap_i64_in (by omega))) ?_
      refine WO.op rfl rfl rfl (R.cutHi Try.runUnderlying83 Try.sizeOf82 rfl rfl (by omega)) ?_
      refine WO.op rfl rfl rfl (R.assign rfl) ?_
      refine WO.nil (WX.next (WC.exit (WX.thenE (WX.hit ?_))))
      have hk49 : Keep (fun q => vo.ownBlock = some q ∨ q = bw) w4 w9 := ((hE57.mono (fun _ _ h => h.elim)).trans (hk8.mono (fun _ _ h => .inl h)) (fun _ _ h => h)).trans hk9 (fun _ _ h => .inr h)
      have hmd' : ∀ q, vo.ownBlock ≠ some q → q ≠ bw → ¬ (vo.ownBlock = some q ∨ q = bw) := fun q h1 h2 h => h.elim h1 h2
      rw [show (((st'.length + 1 : Nat) : Int) - 1).toNat = st'.length from by omega]
      refine WX.back ((seen, st', out ++ [x], .slice (some ⟨g, 0, none⟩) st'.length cv, .slice a8 (out.length + 1) c8)) (Sub.cons rfl (Sub.cons rfl (Sub.cons rfl Sub.nil))) (⟨hI', ?_, ?_, ?_, ?_, ?_, ?_, ?_, ?_⟩) (?_)
      · exact hk49.blk hsn (hmd' bs (fun h => (hfo bs h).2 rfl) (by omega))
      · have h1 := own_shut encF_len (k := st'.length) (hk49.blk hBg (hmd' g hgo (by omega))) hcl (by simp) (by omega) (by simpa [maxLen] using hcm)
        rw [List.take_left] at h1
        exact h1
      · have h1 := own_keep hown8 hk9 (fun q hq h => by
          rcases hfr8 with h2 | ⟨q', h2, h3⟩
          · rw [h2] at hq; have := (hfo q hq).1; omega
          · rw [h2] at hq; cases hq; omega)
        rw [List.map_append, List.length_append]
        exact h1
      · exact hB9
      · intro q hq
        cases hq
        exact hgg
      · intro q hq
        rcases hfr8 with h2 | ⟨q', h2, h3⟩
        · rw [h2] at hq; exact hfo q hq
        · rw [h2] at hq; cases hq; omega
      · intro q hq h
        obtain rfl : g = q := Option.some.inj hq
        rcases hfr8 with h2 | ⟨q', h2, h3⟩
        · rw [h2] at h; exact hgo h
        · rw [h2] at h; cases h; omega
      · exact hkp.trans hk49 (fun q hq h => by
          rcases h with h | h
          · have := (hfo q h).1; omega
          · exact h)
      · dsimp only; rw [ssum_snoc]; omega
    · have he : e < r.length := by have := hneq; simp at this; omega
      obtain ⟨y, hy⟩ : ∃ y, r[e]? = some y := ⟨_, List.getElem?_eq_getElem he⟩
      obtain ⟨b, rfl, hbn⟩ := hR.ok x r hr y (List.mem_of_getElem? hy)
      obtain ⟨be, oe, ce, hra, hDb, hcel, hce, rfl⟩ := hrel e _ hy
      have hce5 := hE5.cells (hkp.cells hce (hDk be hDb)) (fun h => h)
      have hcs5 := hE5.cells hcs4 (fun h => h)
      refine WC.skip (WX.next (WC.seq ?_))
      refine WC.quiet (by kernel_rfl) (by kernel_rfl) ?_
      refine WQ.op rfl rfl rfl (fun w1 hw1 => R.move rfl) ?_
      refine WQ.op rfl rfl rfl (fun w1 hw1 => R.nilCheck rfl) ?_
      refine WQ.op rfl rfl rfl (fun w1 hw1 => R.fieldAddr Try.runUnderlying58 rfl Try.sizeOf35 rfl) ?_
      refine WQ.op rfl rfl rfl (fun w1 hw1 => R.load Try.isAgg35 rfl (hw1.cell (hwk5.cells 0 _ rfl) (fun h => h))) ?_
      refine WQ.op rfl rfl rfl (fun w1 hw1 => R.move rfl) ?_
      refine WQ.op rfl rfl rfl (fun w1 hw1 => R.nilCheck rfl) ?_
      refine WQ.op rfl rfl rfl (fun w1 hw1 => R.fieldAddr Try.runUnderlying82 rfl Try.sizeOf3 rfl) ?_
      refine WQ.op rfl rfl rfl (fun w1 hw1 => R.load Try.isAgg3 rfl (hw1.cell (hct5 0 _ rfl) (fun h => h))) ?_
      refine WQ.op rfl rfl rfl (fun w1 hw1 => R.indexS Try.runUnderlying35 Try.sizeOf27 rfl rfl hnao (by omega)) ?_
      refine WQ.op rfl rfl rfl (fun w1 hw1 => R.load Try.isAgg27 rfl (hw1.cell (hcs5.el1 (cs := [_]) 0 rfl rfl) (fun h => h))) ?_
      refine WQ.op rfl rfl rfl (fun w1 hw1 => R.move rfl) ?_
      refine WQ.op rfl rfl rfl (fun w1 hw1 => R.nilCheck rfl) ?_
      refine WQ.op rfl rfl rfl (fun w1 hw1 => R.fieldAddr Try.runUnderlying82 rfl Try.sizeOf3 rfl) ?_
      refine WQ.op rfl rfl rfl (fun w1 hw1 => R.load Try.isAgg3 rfl (hw1.cell (hct5 1 _ rfl) (fun h => h))) ?_
      refine WQ.op rfl rfl rfl (fun w1 hw1 => R.indexS Try.runUnderlying27 Try.sizeOf3 rfl rfl hra (by omega)) ?_
      refine WQ.op rfl rfl rfl (fun w1 hw1 => R.load Try.isAgg3 rfl (hw1.cell (hce5.el1 (cs := [_]) 0 rfl rfl) (fun h => h))) ?_
      refine WQ.op rfl rfl rfl (fun w1 hw1 => R.assign rfl) ?_
      refine WQ.nil (fun w6 hE6 => ?_)
      refine WX.next (WC.seq (WC.region ?_))
      refine WO.op rfl rfl rfl (R.move rfl) ?_
      refine WO.op rfl rfl rfl (R.nilCheck rfl) ?_
      refine WO.op rfl rfl rfl (R.fieldAddr Try.runUnderlying82 rfl Try.sizeOf3 rfl) ?_
      have hB6g := hE6.blk hB5g (fun h => h)
      have hct6 := hE6.cells hct5 (fun h => h)
      refine WO.op rfl rfl rfl (R.load Try.isAgg3 rfl (hct6 1 _ rfl)) ?_
      refine WO.op rfl rfl rfl (R.add rfl rfl (wrap_i64_in (by omega))) ?_
      refine WO.op rfl rfl rfl (R.nilCheck rfl) ?_
      refine WO.op rfl rfl rfl (R.fieldAddr Try.runUnderlying82 rfl Try.sizeOf3 rfl) ?_
      refine WO.mem0 rfl rfl (M.store Try.sizeOf3 rfl rfl rfl rfl hB6g (by rw [List.length_append, flatF_len]; simp; omega)) ?_
      rintro w7 ⟨hs7, hB7, hk7⟩
      have hB7' : Blk w7 g ((st' ++ [(x, e + 1)]).flatMap encF ++ sp) 82 := by
        have h1 := flat_cell encF_len (v := .int .i64 ((e : Int) + 1)) (j := 1) (x := (x, e)) (y := (x, e + 1)) (by decide) rfl (st' ++ [(x, e)]) st'.length sp hxat
        rw [List.set_append_right _ _ (Nat.le_refl _), Nat.sub_self] at h1
        rw [show 0 + st'.length * 2 = st'.length * 2 from by omega] at hB7
        have h2 : Blk w7 g (((st' ++ [(x, e)]).flatMap encF ++ sp).set (st'.length * 2 + 1) (.int .i64 ((e : Int) + 1))) 82 := hB7
        rw [h1] at h2
        exact h2
      have hcl2 : ((st' ++ [(x, e + 1)]).flatMap encF ++ sp).length = cv * 2 := by
        rw [← hcl]; simp only [List.length_append, flatF_len, List.length_cons, List.length_nil]
      have hgbs : bs ≠ g := fun h => hgg.2 h.symm
      have hk47 : Keep (fun q => q = g) w4 w7 := ((hE5.ext hE6).mono (fun _ _ h => h.elim)).trans hk7 (fun _ _ h => h)
      have hsn7 := hk47.blk hsn hgbs
      have hsl : seen.length = n := by rw [hinv.len, hn]
      obtain ⟨s, hsb⟩ : ∃ s, seen[b]? = some s := ⟨_, List.getElem?_eq_getElem (by omega)⟩
      have hsb' : (seen.map Value.bool)[b]? = some (.bool s) := by rw [List.getElem?_map, hsb]; rfl
      have hbg : bw ≠ g := by omega
      have hwk7 := hk47.blk hwk hbg
      have hgo : vo.ownBlock ≠ some g := hap g (by rw [hvs]; rfl)
      refine WO.nil (WX.next (WC.seq (WC.region ?_)))
      refine WO.op rfl rfl rfl (R.move rfl) ?_
      refine WO.op rfl rfl rfl (R.move rfl) ?_
      refine WO.op rfl rfl rfl (R.indexS Try.runUnderlying53 Try.sizeOf4 rfl rfl rfl (by omega)) ?_
      refine WO.op rfl rfl rfl (R.load Try.isAgg4 rfl (hsn7.cells.el1 b rfl hsb')) ?_
      refine WO.op rfl rfl rfl (R.not rfl) ?_
      refine WO.nil (WX.next ?_)
      refine WC.bool rfl (fun hs => ?_) (fun hs => ?_)
      · have hsf : s = false := by simpa using hs
        subst hsf
        have hI' := hinv.push hr hy hsb
        refine WC.seq (WC.region ?_)
        refine WO.op rfl rfl rfl (R.move rfl) ?_
        refine WO.op rfl rfl rfl (R.move rfl) ?_
        refine WO.op rfl rfl rfl (R.indexS Try.runUnderlying53 Try.sizeOf4 rfl rfl rfl (by omega)) ?_
        refine WO.mem0 rfl rfl (M.store Try.sizeOf4 rfl rfl rfl rfl hsn7 (by rw [List.length_map]; omega)) ?_
        rintro w8 ⟨hs8, hB8, hk8⟩
        rw [show 0 + (b : Int).toNat * 1 = b from by omega, map_boolset] at hB8
        refine WO.nil (WX.next (WC.region ?_))
        refine WO.op rfl rfl rfl (R.move rfl) ?_
        refine WO.op rfl rfl rfl (R.move rfl) ?_
        refine WO.op rfl rfl rfl (R.build (v := .agg #[.int .i64 b, .int .i64 0]) [(0, _), (1, _)] rfl (fun _ => by kernel_rfl)) ?_
        refine WO.mem rfl rfl rfl (M.buildSlice (cs := encF (b, 0)) [(0, _)] Try.runUnderlying83 Try.sizeOf82 Try.zeroValue82 (by decide) rfl (by kernel_rfl)) ?_
        rintro _ w9 ⟨b9, rfl, hb9, hs9, hB9, hk9⟩
        have hst9 := own_shut encF_len (k := (st' ++ [(x, e + 1)]).length) (hk9.blk (hk8.blk hB7' (fun h => hgbs h.symm)) (fun h => h)) (cap := cv) hcl2 (Nat.le_refl _) (by simp at hnc ⊢; omega) (by simpa [maxLen] using hcm)
        rw [List.take_length, List.length_append] at hst9
        refine WO.mem rfl rfl rfl (M.append Try.underlying83 Try.el82 rfl (by decide) rfl rfl hst9 rfl (Cells.add hB9.cells) (encF_one _) (by simp; omega) (by simp; omega)) ?_
        rintro vs' w10 ⟨hown10, hfr10, hk10, _⟩
        have hk49 : Keep (fun q => q = g ∨ q = bs) w4 w9 := ((hk47.mono (fun _ _ h => .inl h)).trans hk8 (fun _ _ h => .inr h)).ext hk9
        have hk410 : Keep (fun q => q = g ∨ q = bs) w4 w10 := hk49.trans hk10 (fun q _ h => .inl (Option.some.inj h).symm)
        have hs49 := hk49.size
        have hvg : ∀ q, vs'.ownBlock = some q → q = g ∨ w9.heap.size ≤ q := by
          intro q hq
          rcases hfr10 with h2 | ⟨q', h2, h3⟩
          · rw [h2] at hq; exact .inl (Option.some.inj hq).symm
          · rw [h2] at hq; cases hq; exact .inr h3
        refine WO.op rfl rfl rfl (R.assign rfl) ?_
        refine WO.nil (WX.blockN ?_)
        refine WX.back ((seen.set b true, st' ++ [(x, e + 1)] ++ [(b, 0)], out, vs', vo)) (Sub.cons rfl (Sub.cons rfl (Sub.cons rfl Sub.nil))) (⟨hI', ?_, ?_, ?_, ?_, ?_, ?_, ?_, ?_⟩) (?_)
        · exact (hk9.blk hB8 (fun h => h) |> fun h => hk10.blk h (fun h => hgbs (Option.some.inj h).symm))
        · have := hown10
          simp only [List.flatMap_append, List.length_append] at this ⊢
          exact this
        · exact own_keep hlst hk410 (fun q hq h => by
            rcases h with rfl | rfl
            · exact hgo hq
            · exact (hfo _ hq).2 rfl)
        · exact hk410.blk hwk (fun h => by omega)
        · intro q hq
          have := hvg q hq
          omega
        · exact hfo
        · intro q hq h
          rcases hvg q hq with rfl | h2
          · exact hgo h
          · have := own_lt hlst h; omega
        · exact hkp.trans hk410 (fun q hq h => by omega)
        · dsimp only
          rw [ssum_snoc, ssum_snoc, ssum_snoc, dsum_set hinv.len hsb, deg_of hr]
          omega
      · have hst : s = true := by simpa using hs
        subst hst
        have hI' := hinv.skip hr hy hsb
        refine WC.skip (WX.blockN ?_)
        refine WX.back ((seen, st' ++ [(x, e + 1)], out, .slice (some ⟨g, 0, none⟩) (st'.length + 1) cv, vo)) (Sub.cons rfl (Sub.cons rfl (Sub.cons rfl Sub.nil))) (⟨hI', ?_, ?_, ?_, ?_, ?_, ?_, ?_, ?_⟩) (?_)
        · exact hsn7
        · have hst9 := own_shut encF_len (k := (st' ++ [(x, e + 1)]).length) hB7' (cap := cv) hcl2 (Nat.le_refl _) (by simp at hnc ⊢; omega) (by simpa [maxLen] using hcm)
          rw [List.take_length, List.length_append] at hst9
          rw [List.length_append]
          exact hst9
        · exact own_keep hlst hk47 (fun q hq h => by subst h; exact hgo hq)
        · exact hwk7
        · intro q hq
          cases hq
          exact hgg
        · exact hfo
        · intro q hq
          obtain rfl : g = q := Option.some.inj hq
          exact hgo
        · exact hkp.trans hk47 (fun q hq h => by omega)
        · dsimp only
          rw [ssum_snoc, ssum_snoc, deg_of hr]
          omega
  · have hst0 : st = [] := by
      cases st with
      | nil => rfl
      | cons a l => exact absurd hle (by simp)
    subst hst0
    have hO := hinv.finish
    have hlst' : w4.ownsRow 0 3 1 vo out.length ((out.map fun x : Nat => (x : Int)).map (.int .i64)) := by
      rw [List.map_map]; exact hlst
    refine WC.exit (WX.thenE (WX.thenE (WX.hit (WX.next (WC.seq (WC.region ?_))))))
    refine WO.op rfl rfl rfl (R.move rfl) ?_
    refine WO.op rfl rfl rfl (R.nilCheck rfl) ?_
    refine WO.op rfl rfl rfl (R.fieldAddr Try.runUnderlying58 rfl Try.sizeOf27 rfl) ?_
    refine WO.op rfl rfl rfl (R.load Try.isAgg27 rfl (hwk.cells 2 _ rfl)) ?_
    refine WO.call rfl rfl rfl (F.call (vs := [_]) Try.call57 rfl) (reverseI_ok _ vo out.length w4 hlst' (by rw [List.length_map]; omega)) ?_
    rintro _ w5 ⟨rfl, hown5, hk5⟩
    rw [← List.map_reverse, List.map_map] at hown5
    have hown5 : w5.ownsRow 0 3 1 vo out.length (out.reverse.map encN) := hown5
    have hne : out.reverse ≠ [] := by
      intro h
      have := hO.head
      rw [h] at this
      cases this
    obtain ⟨g, cap, sp, rfl, hgl, hnc, hcm, hBg, hcl⟩ := own_open1 hown5 hne
    have hbwg : bw ≠ g := fun h => by have := (hfo g rfl).1; omega
    have hbpg : bp ≠ g := fun h => by have := (hfo g rfl).1; omega
    have hk5' : Keep (fun q => q = g) w4 w5 := hk5.mono (fun _ _ h => (Option.some.inj h).symm)
    have hwk5 := hk5'.blk hwk hbwg
    have hP5 := hk5'.blk (hkp.blk hP (fun h => hbp h.symm)) hbpg
    refine WO.nil (WX.next (WC.seq (WC.region ?_)))
    refine WO.op rfl rfl rfl (R.move rfl) ?_
    refine WO.op rfl rfl rfl (R.nilCheck rfl) ?_
    refine WO.op rfl rfl rfl (R.fieldAddr Try.runUnderlying58 rfl Try.sizeOf27 rfl) ?_
    refine WO.op rfl rfl rfl (R.load Try.isAgg27 rfl (hwk5.cells 2 _ rfl)) ?_
    refine WO.op rfl rfl rfl (R.lenS rfl Try.runUnderlying27 rfl) ?_
    refine WO.op rfl rfl rfl (R.move rfl) ?_
    refine WO.nil (WX.next (WC.block ?_))
    have hPs : Blk w5 bp ((List.replicate n (-1 : Int)).map (.int .i64)) 3 := by rw [List.map_replicate]; exact hP5
    refine WC.loop (σ := Nat × List Int) (fun ⟨k, pl⟩ => [(0, .pointer (some ⟨bw, 0, none⟩)), (108, .slice (some ⟨g, 0, none⟩) out.length cap), (109, .int .i64 out.length), (110, .int .i64 k)]) (fun ⟨k, pl⟩ => fun w' => k ≤ out.length ∧ Dfs.Place n (out.reverse.take k) pl ∧ Blk w' bp (pl.map (.int .i64)) 3 ∧ Keep (fun q => q = bp) w5 w') (fun ⟨k, pl⟩ => out.length - k) ((0, List.replicate n (-1))) (Sub.cons rfl (Sub.cons rfl (Sub.cons rfl (Sub.cons rfl Sub.nil)))) (⟨Nat.zero_le _, Dfs.Place.start n, hPs, Keep.refl _ _⟩) ?_
    rintro ⟨k, pl⟩ w6 ⟨hkl, hpl, hB6, hk6⟩
    show WC _ _ _ _ [(0, .pointer (some ⟨bw, 0, none⟩)), (108, .slice (some ⟨g, 0, none⟩) out.length cap), (109, .int .i64 out.length), (110, .int .i64 k)] _
    refine WC.seq (WC.region ?_)
    refine WO.op rfl rfl rfl (R.lss rfl rfl) ?_
    refine WO.nil (WX.next (WC.seq ?_))
    refine WC.ite rfl (fun hlt => ?_) (fun hge => ?_)
    ·
      refine WC.skip (WX.next (WC.seq (WC.block (WC.seq (WC.region ?_)))))
      refine WO.op rfl rfl rfl (R.move rfl) ?_
      obtain ⟨x, hx⟩ : ∃ x, out.reverse[k]? = some x := ⟨_, List.getElem?_eq_getElem (by simp; omega)⟩
      have hxn : x < n := hall x (by
        have := List.mem_of_getElem? hx
        simp at this
        simp [this])
      have hcx : (out.reverse.map encN ++ sp)[k]? = some (encN x) := by
        rw [List.getElem?_append_left (by simp; omega), List.getElem?_map, hx]; rfl
      refine WO.op rfl rfl rfl (R.indexS Try.runUnderlying27 Try.sizeOf3 rfl rfl rfl (by omega)) ?_
      refine WO.op rfl rfl rfl (R.load Try.isAgg3 rfl ((hk6.blk hBg (fun h => hbpg h.symm)).cells.el1 k rfl hcx)) ?_
      refine WO.op rfl rfl rfl (R.assign rfl) ?_
      refine WO.op rfl rfl rfl (R.assign rfl) ?_
      refine WO.nil (WX.next (WC.region ?_))
      refine WO.op rfl rfl rfl (R.move rfl) ?_
      refine WO.op rfl rfl rfl (R.nilCheck rfl) ?_
      refine WO.op rfl rfl rfl (R.fieldAddr Try.runUnderlying58 rfl Try.sizeOf27 rfl) ?_
      refine WO.op rfl rfl rfl (R.load Try.isAgg27 rfl ((hk6.blk hwk5 hbp).cells 3 _ rfl)) ?_
      refine WO.op rfl rfl rfl (R.move rfl) ?_
      refine WO.op rfl rfl rfl (R.move rfl) ?_
      refine WO.op rfl rfl rfl (R.indexS Try.runUnderlying27 Try.sizeOf3 rfl rfl rfl (by omega)) ?_
      refine WO.mem0 rfl rfl (M.store Try.sizeOf3 rfl rfl rfl rfl hB6 (by rw [List.length_map, hpl.len]; omega)) ?_
      rintro w7 ⟨hs7, hB7, hk7⟩
      rw [show 0 + (x : Int).toNat * 1 = x from by omega, ← List.map_set] at hB7
      refine WO.nil (WX.blockN (WX.next (WC.region ?_)))
      refine WO.op rfl rfl rfl (R.add rfl rfl (wrap_i64_in (by omega))) ?_
      refine WO.op rfl rfl rfl (R.move rfl) ?_
      refine WO.nil ?_
      refine WX.back ((k + 1, pl.set x (k : Int))) (Sub.cons rfl (Sub.cons rfl (Sub.cons rfl (Sub.cons rfl Sub.nil)))) (⟨by omega, hpl.step hO.nodup hx hxn, hB7, hk6.trans hk7 (fun _ _ h => h)⟩) (by first | omega | (dsimp only; omega))
    ·
      refine WC.exit (WX.thenE (WX.thenE (WX.hit ?_)))
      have hkl' : k = out.length := by omega
      subst hkl'
      rw [List.take_of_length_le (by simp)] at hpl
      have hk4 : Keep (fun q => q = g ∨ q = bp) w4 w6 := (hk5'.mono (fun _ _ h => .inl h)).trans hk6 (fun _ _ h => .inr h)
      refine WX.end0 Try.results44 ⟨_, rfl, rfl, out.reverse, pl, _, hO, hpl, hk6.blk hwk5 hbp, ?_, fun q hq => ?_, hB6, ?_⟩
      · have := own_shut1 (hk6.blk hBg (fun h => hbpg h.symm)) (cap := cap) hcl hcm
        rw [List.length_reverse] at this ⊢
        exact this
      · exact (hfo q hq).1
      · exact (hkp.mono (fun _ _ h => .inl h)).trans hk4 (fun q hq h => by
          rcases h with h | h
          · have := (hfo g rfl).1; omega
          · exact .inr h)
end Go.Proofs.Yteilalejfphkgaa
