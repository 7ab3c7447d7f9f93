/-
  dominance: frontiers. Contract; nothing here is a claim.
-/
import Derived.Test.YteilalejfphkgaaT10
import Derived.Test.YteilalejfphkgaaDom4
namespace Go.GL
theorem Mat.put {α : Type} {enc : α → Value} {e eo : TypeId} {B : Nat} {w w1 w2 : World} {bo : Nat} {rv : List Value} {rows : List (List α)} (h : Mat enc e eo B w bo rv rows) (hB : B ≤ w.heap.size) {i : Nat} {v v' : Value} {r' : List α} (hv : rv[i]? = some v)
    (hown : w1.ownsRow 0 e 1 v' r'.length (r'.map enc)) (hfr : v'.ownBlock = v.ownBlock ∨ ∃ g, v'.ownBlock = some g ∧ w.heap.size ≤ g) (hk : Keep (fun q => v.ownBlock = some q) w w1)
    (hst : Wrote w1 bo (rv.set i v') eo w2) : Mat enc e eo B w2 bo (rv.set i v') (rows.set i r') := by
  obtain ⟨hs2, hB2, hk2⟩ := hst
  have hbo := h.out.lt
  have hnew : ∀ g, v'.ownBlock = some g → B ≤ g ∧ g ≠ bo ∧ (v.ownBlock = some g ∨ w.heap.size ≤ g) := by
    intro g hg
    rcases hfr with h1 | ⟨g', h1, h2⟩
    · rw [h1] at hg
      have := h.far i v g hv hg
      exact ⟨this.1, this.2, .inl hg⟩
    · rw [h1] at hg
      cases hg
      exact ⟨by omega, by omega, .inr h2⟩
  have hi : i < rv.length := (List.getElem?_eq_some_iff.1 hv).1
  refine ⟨hB2, by simp [h.len], ?_, ?_, ?_⟩
  · intro j u s hu hs
    by_cases hij : i = j
    · subst hij
      rw [List.getElem?_set_self hi] at hu
      rw [List.getElem?_set_self (by rw [← h.len]; exact hi)] at hs
      cases hu; cases hs
      exact own_keep hown hk2 (fun g hg h => by have := (hnew g hg).2.1; exact this h)
    · rw [List.getElem?_set_ne hij] at hu hs
      have h1 := h.row j u s hu hs
      have h2 := own_keep h1 hk (fun g hg hv' => h.apart i j v u g hij hv hu hv' hg)
      exact own_keep h2 hk2 (fun g hg h' => (h.far j u g hu hg).2 h')
  · intro j u g hu hg
    by_cases hij : i = j
    · subst hij
      rw [List.getElem?_set_self hi] at hu
      cases hu
      exact ⟨(hnew g hg).1, (hnew g hg).2.1⟩
    · rw [List.getElem?_set_ne hij] at hu
      exact h.far j u g hu hg
  · intro j k u s g hjk hu hs hg hg'
    by_cases hij : i = j
    · subst hij
      rw [List.getElem?_set_self hi] at hu
      rw [List.getElem?_set_ne hjk] at hs
      cases hu
      rcases (hnew g hg).2.2 with h1 | h1
      · exact h.apart i k v s g hjk hv hs h1 hg'
      · have := h.blk hs hg'; omega
    · rw [List.getElem?_set_ne hij] at hu
      by_cases hik : i = k
      · subst hik
        rw [List.getElem?_set_self hi] at hs
        cases hs
        rcases (hnew g hg').2.2 with h1 | h1
        · exact h.apart i j v u g hij hv hu h1 hg
        · have := h.blk hu hg; omega
      · rw [List.getElem?_set_ne hik] at hs
        exact h.apart j k u s g hjk hu hs hg hg'
end Go.GL
namespace Go.Proofs.Yteilalejfphkgaa
open Go.GL Go.GL.Dom Go.GL.Dfs

structure FrontRows (Rw : List (List Int)) (root n : Nat) (F : List (List Int)) : Prop where
  len : F.length = n
  sorted : ∀ (x : Nat) r, F[x]? = some r → r.Pairwise (· < ·)
  mem : ∀ (x : Nat) r, F[x]? = some r → ∀ y : Int, y ∈ r ↔ ∃ b : Nat, y = (b : Int) ∧ Front Rw root x b
  short : ∀ (x : Nat) r, F[x]? = some r → r.length ≤ 1000000

def N0 (Rw : List (List Int)) (root : Nat) (order : List Nat) (i x b : Nat) : Prop := ∃ j, j < i ∧ order[j]? = some b ∧ Front Rw root x b
def N1 (Rw : List (List Int)) (root : Nat) (order : List Nat) (i b : Nat) (r : List Int) (j x b' : Nat) : Prop := N0 Rw root order i x b' ∨ (b' = b ∧ ∃ a : Nat, (a : Int) ∈ r.take j ∧ Dfs.Reach Rw root a ∧ Thru Rw root b a x)

theorem frontiers_ok {B n root : Nat} {es : List (Int × Int)} {bw : Nat} {Rw Pw : List (List Int)} {order : List Nat} {pl T : List Int} {nv bv ov : Value} {bp bt : Nat} (w : World) (hp : Prep B w n root es bw Rw Pw order pl T nv bv ov bp bt) (hsm : n ≤ 1000) :
    Calls Try.prog 31 #[.pointer (some ⟨bw, 0, none⟩)] w (Ret fun u w' => ∃ F, FrontRows Rw root n F ∧ SlR 1 (RSl 1 RInt) (fun b => w.heap.size ≤ b) w' u F ∧ Ext w w') := by
  have hRl := hp.succ.len
  have hnv := hp.hnv
  obtain ⟨na, nc, rfl, hnl, hnm, _⟩ := hnv
  have hbv := hp.hbv
  obtain ⟨ba, bc, rfl, hblc, hbcm, hbel⟩ := hbv
  have hPl := hp.back.len
  have hW := hp.hw
  have hBw := hW.lt
  have hreach : ∀ x, Dfs.Reach Rw root x → x < n := fun x hx => by rw [← hRl]; exact hx.lt hp.rows (by rw [hRl]; exact hp.hroot)
  have hol : order.length ≤ n := nodup_le n _ hp.ord.nodup (fun x hx => hreach x ((hp.ord.mem x).1 hx))
  have hne : order ≠ [] := by
    intro h
    have := hp.ord.head
    rw [h] at this
    cases this
  obtain ⟨g, cap, sp, rfl, _, hnc, hcm, hBg, hcl⟩ := own_open1 hp.hov hne
  refine calls Try.func31 rfl [(0, .pointer (some ⟨bw, 0, none⟩))] 95 ⟨Nat.le_of_ble_eq_true rfl, Try.ntmps31⟩ (argsOk (Sub.cons rfl Sub.nil)) ?_
  refine WC.seq (WC.region ?_)
  refine WO.op rfl rfl rfl (R.assign rfl) ?_
  refine WO.nil (WX.next (WC.seq (WC.region ?_)))
  refine WO.op rfl rfl rfl (R.move rfl) ?_
  refine WO.op rfl rfl rfl (R.nilCheck rfl) ?_
  refine WO.op rfl rfl rfl (R.fieldAddr Try.runUnderlying58 rfl Try.sizeOf35 rfl) ?_
  refine WO.op rfl rfl rfl (R.load Try.isAgg35 rfl (hW.cells 0 _ rfl)) ?_
  refine WO.op rfl rfl rfl (R.lenS rfl Try.runUnderlying35 rfl) ?_
  refine WO.mem rfl rfl rfl (M.make Try.underlying35 Try.el27 rfl rfl (by omega) (by omega) (madeNil Rw.length)) ?_
  rintro _ w1 ⟨bo, rfl, hbo, hs1, hB1, hk1⟩
  rw [hRl] at hB1 ⊢
  refine WO.op rfl rfl rfl (R.assign rfl) ?_
  refine WO.nil (WX.next (WC.seq (WC.seq (WC.region ?_))))
  refine WO.op rfl rfl rfl (R.move rfl) ?_
  refine WO.op rfl rfl rfl (R.nilCheck rfl) ?_
  refine WO.op rfl rfl rfl (R.fieldAddr Try.runUnderlying58 rfl Try.sizeOf27 rfl) ?_
  refine WO.op rfl rfl rfl (R.load Try.isAgg27 rfl ((hk1.blk hW (fun h => h)).cells 2 _ rfl)) ?_
  refine WO.op rfl rfl rfl (R.lenS rfl Try.runUnderlying27 rfl) ?_
  refine WO.op rfl rfl rfl (R.move rfl) ?_
  refine WO.nil (WX.next (WC.block ?_))
  have hM1 : Mat (Value.int .i64) 3 27 w1.heap.size w1 bo (List.replicate n (.slice none 0 0)) (List.replicate n ([] : List Int)) := Mat.start hB1
  refine WC.loop (σ := Nat × List Value × List (List Int)) (fun ⟨i, rv, rows⟩ => [(0, .pointer (some ⟨bw, 0, none⟩)), (3, .slice (some ⟨bo, 0, none⟩) n n), (20, .slice (some ⟨g, 0, none⟩) order.length cap), (21, .int .i64 order.length), (22, .int .i64 i)]) (fun ⟨i, rv, rows⟩ => fun w' => i ≤ order.length ∧ Noted n rows (N0 Rw root order i) ∧ (∀ (x : Nat) r, rows[x]? = some r → r.length ≤ i * n) ∧ Mat (Value.int .i64) 3 27 w1.heap.size w' bo rv rows ∧ Keep (fun q => q = bo) w1 w') (fun ⟨i, rv, rows⟩ => order.length - i) ((0, List.replicate n (.slice none 0 0), List.replicate n [])) (Sub.cons rfl (Sub.cons rfl (Sub.cons rfl (Sub.cons rfl (Sub.cons rfl Sub.nil))))) (⟨Nat.zero_le _, Noted.start.congr (fun x b => ⟨fun h => h.elim, fun ⟨j, h, _⟩ => absurd h (Nat.not_lt_zero _)⟩), fun x r hr => by rw [List.eq_of_mem_replicate (List.mem_of_getElem? hr)]; exact Nat.zero_le _, hM1, Keep.refl _ _⟩) ?_
  rintro ⟨i, rv, rows⟩ w2 ⟨hio, hN, hsh, hM, hk2⟩
  show WC _ _ _ _ [(0, .pointer (some ⟨bw, 0, none⟩)), (3, .slice (some ⟨bo, 0, none⟩) n n), (20, .slice (some ⟨g, 0, none⟩) order.length cap), (21, .int .i64 order.length), (22, .int .i64 i)] _
  refine WC.seq (WC.region ?_)
  refine WO.op rfl rfl rfl (R.lss rfl rfl) ?_
  refine WO.nil (WX.next (WC.seq ?_))
  refine WC.ite rfl (fun hlt => ?_) (fun hge => ?_)
  · obtain ⟨b, hb⟩ : ∃ b, order[i]? = some b := ⟨_, List.getElem?_eq_getElem (by omega)⟩
    have hbr : Dfs.Reach Rw root b := (hp.ord.mem b).1 (List.mem_of_getElem? hb)
    have hbn := hreach b hbr
    have hE2 : Ext w w2 := hk1.trans hk2 (fun q hq h => by have h : q = bo := h; omega)
    have hcb : (order.map encN ++ sp)[i]? = some (encN b) := by
      rw [List.getElem?_append_left (by simp; omega), List.getElem?_map, hb]; rfl
    obtain ⟨r, hr⟩ : ∃ r, Pw[b]? = some r := ⟨_, List.getElem?_eq_getElem (by omega)⟩
    obtain ⟨b1, o1, cs1, hba, _, _, hcs, hRs⟩ := hbel b r hr
    obtain ⟨rv1, rfl, ra, rc, rfl, hrlc, hrcm, hrel⟩ := hRs
    have hrs := hp.back.short b r hr
    have hcs2 := hE2.cells hcs (fun h => h)
    have hW2 := hE2.blk hW (fun h => h)
    have hin : (i + 1) * n ≤ 1000000 := by
      have h1 : (i + 1) * n ≤ n * n := Nat.mul_le_mul_right _ (by omega)
      have h2 : n * n ≤ 1000 * 1000 := Nat.mul_le_mul hsm hsm
      exact Nat.le_trans h1 h2
    have hi1 : (i + 1) * n = i * n + n := Nat.succ_mul i n
    refine WC.skip (WX.next (WC.seq (WC.block (WC.seq (WC.region ?_)))))
    refine WO.op rfl rfl rfl (R.indexS Try.runUnderlying27 Try.sizeOf3 rfl rfl rfl (by omega)) ?_
    refine WO.op rfl rfl rfl (R.load Try.isAgg3 rfl ((hE2.blk hBg (fun h => h)).cells.el1 i rfl hcb)) ?_
    refine WO.op rfl rfl rfl (R.assign rfl) ?_
    refine WO.nil (WX.next (WC.seq (WC.region ?_)))
    refine WO.op rfl rfl rfl (R.move rfl) ?_
    refine WO.op rfl rfl rfl (R.nilCheck rfl) ?_
    refine WO.op rfl rfl rfl (R.fieldAddr Try.runUnderlying58 rfl Try.sizeOf35 rfl) ?_
    refine WO.op rfl rfl rfl (R.load Try.isAgg35 rfl (hW2.cells 1 _ rfl)) ?_
    refine WO.op rfl rfl rfl (R.move rfl) ?_
    refine WO.op rfl rfl rfl (R.indexS Try.runUnderlying35 Try.sizeOf27 rfl rfl hba (by omega)) ?_
    refine WO.op rfl rfl rfl (R.load Try.isAgg27 rfl (hcs2.el1 (cs := [_]) 0 rfl rfl)) ?_
    refine WO.op rfl rfl rfl (R.lenS rfl Try.runUnderlying27 rfl) ?_
    refine WO.op rfl rfl rfl (R.move rfl) ?_
    refine WO.nil (WX.next (WC.block ?_))
    refine WC.loop (σ := Nat × List Value × List (List Int)) (fun ⟨j, rv, rows⟩ => [(0, .pointer (some ⟨bw, 0, none⟩)), (3, .slice (some ⟨bo, 0, none⟩) n n), (20, .slice (some ⟨g, 0, none⟩) order.length cap), (21, .int .i64 order.length), (22, .int .i64 i), (5, .int .i64 b), (32, .slice ra r.length rc), (33, .int .i64 r.length), (34, .int .i64 j)]) (fun ⟨j, rv, rows⟩ => fun w' => j ≤ r.length ∧ Noted n rows (N1 Rw root order i b r j) ∧ (∀ (x : Nat) q, rows[x]? = some q → q.length ≤ i * n + j) ∧ Mat (Value.int .i64) 3 27 w1.heap.size w' bo rv rows ∧ Keep (fun q => q = bo) w1 w') (fun ⟨j, rv, rows⟩ => r.length - j) ((0, rv, rows)) (Sub.cons rfl (Sub.cons rfl (Sub.cons rfl (Sub.cons rfl (Sub.cons rfl (Sub.cons rfl (Sub.cons rfl (Sub.cons rfl (Sub.cons rfl Sub.nil))))))))) (⟨Nat.zero_le _, hN.congr (fun x b' => ⟨.inl, fun h => h.elim id (fun ⟨_, a, h, _⟩ => by simp at h)⟩), hsh, hM, hk2⟩) ?_
    rintro ⟨j, rv, rows⟩ w3 ⟨hjr, hN3, hsh3, hM3, hk3⟩
    show WC _ _ _ _ [(0, .pointer (some ⟨bw, 0, none⟩)), (3, .slice (some ⟨bo, 0, none⟩) n n), (20, .slice (some ⟨g, 0, none⟩) order.length cap), (21, .int .i64 order.length), (22, .int .i64 i), (5, .int .i64 b), (32, .slice ra r.length rc), (33, .int .i64 r.length), (34, .int .i64 j)] _
    have hE3 : Ext w w3 := hk1.trans hk3 (fun q hq h => by have h : q = bo := h; omega)
    have hW3 := hE3.blk hW (fun h => h)
    refine WC.seq (WC.region ?_)
    refine WO.op rfl rfl rfl (R.lss rfl rfl) ?_
    refine WO.nil (WX.next (WC.seq ?_))
    refine WC.ite rfl (fun hjl => ?_) (fun hjg => ?_)
    · obtain ⟨y, hy⟩ : ∃ y, r[j]? = some y := ⟨_, List.getElem?_eq_getElem (by omega)⟩
      obtain ⟨a, rfl, hab⟩ := (hp.back.mem b r hr y).1 (List.mem_of_getElem? hy)
      have han : a < n := by
        obtain ⟨r', h1, _⟩ := hab
        rw [← hRl]; exact (List.getElem?_eq_some_iff.1 h1).1
      obtain ⟨be, oe, ce, hra, _, hcel, hce, rfl⟩ := hrel j _ hy
      have hce3 := hE3.cells hce (fun h => h)
      have hpll := hp.place.len
      have htk : ∀ q : Nat, (q : Int) ∈ r.take (j + 1) ↔ (q : Int) ∈ r.take j ∨ q = a := by
        intro q
        obtain ⟨hjlt, hje⟩ := List.getElem?_eq_some_iff.1 hy
        rw [List.take_succ_eq_append_getElem hjlt, List.mem_append, List.mem_singleton, hje]
        constructor
        · rintro (h | h)
          · exact .inl h
          · exact .inr (Int.ofNat.inj h)
        · rintro (h | h)
          · exact .inl h
          · exact .inr (by rw [h])
      refine WC.skip (WX.next (WC.seq (WC.block (WC.seq (WC.region ?_)))))
      refine WO.op rfl rfl rfl (R.indexS Try.runUnderlying27 Try.sizeOf3 rfl rfl hra (by omega)) ?_
      refine WO.op rfl rfl rfl (R.load Try.isAgg3 rfl (hce3.el1 (cs := [_]) 0 rfl rfl)) ?_
      refine WO.op rfl rfl rfl (R.assign rfl) ?_
      refine WO.nil (WX.next (WC.seq (WC.seq (WC.region ?_))))
      refine WO.op rfl rfl rfl (R.move rfl) ?_
      refine WO.op rfl rfl rfl (R.nilCheck rfl) ?_
      refine WO.op rfl rfl rfl (R.fieldAddr Try.runUnderlying58 rfl Try.sizeOf27 rfl) ?_
      refine WO.op rfl rfl rfl (R.load Try.isAgg27 rfl (hW3.cells 3 _ rfl)) ?_
      refine WO.op rfl rfl rfl (R.move rfl) ?_
      refine WO.op rfl rfl rfl (R.indexS Try.runUnderlying27 Try.sizeOf3 rfl rfl rfl (by omega)) ?_
      refine WO.op rfl rfl rfl (R.load Try.isAgg3 rfl ((hE3.blk hp.hP (fun h => h)).cells.el1 a rfl (map_at (lk_lt (by omega))))) ?_
      refine WO.op rfl rfl rfl (R.lss rfl rfl) ?_
      refine WO.nil (WX.next ?_)
      refine WC.ite rfl (fun hpn => ?_) (fun hpp => ?_)
      · have hna : ¬ Dfs.Reach Rw root a := fun h => by have := reach_place hp.ord hp.place h; omega
        refine WC.exit (WX.thenE (WX.hit (WX.next (WC.region ?_))))
        refine WO.op rfl rfl rfl (R.add rfl rfl (wrap_i64_in (by omega))) ?_
        refine WO.op rfl rfl rfl (R.move rfl) ?_
        refine WO.nil ?_
        refine WX.back ((j + 1, rv, rows)) (Sub.cons rfl (Sub.cons rfl (Sub.cons rfl (Sub.cons rfl (Sub.cons rfl (Sub.cons rfl (Sub.cons rfl (Sub.cons rfl (Sub.cons rfl Sub.nil))))))))) (⟨by omega, hN3.congr (fun x b' => ?_), fun x q hq => by have := hsh3 x q hq; omega, hM3, hk3⟩) (by first | omega | (dsimp only; omega))
        unfold N1
        constructor
        · rintro (h | ⟨h1, c, h2, h3⟩)
          · exact .inl h
          · exact .inr ⟨h1, c, (htk c).2 (.inl h2), h3⟩
        · rintro (h | ⟨h1, c, h2, h3⟩)
          · exact .inl h
          · rcases (htk c).1 h2 with h4 | rfl
            · exact .inr ⟨h1, c, h4, h3⟩
            · exact absurd h3.1 hna
      · have har : Dfs.Reach Rw root a := (hp.ord.mem a).1 (List.mem_of_getElem? (placeAt hp.place (a := a) (by omega)).1)
        have hcnt : i * n + j + 1 ≤ 1000000 := by omega
        refine WC.skip (WX.next (WC.seq (WC.region ?_)))
        refine WO.op rfl rfl rfl (R.move rfl) ?_
        refine WO.op rfl rfl rfl (R.assign rfl) ?_
        refine WO.nil (WX.next (WC.block ?_))
        refine WC.loop (σ := Int × List Value × List (List Int)) (fun ⟨x, rv, rows⟩ => [(0, .pointer (some ⟨bw, 0, none⟩)), (3, .slice (some ⟨bo, 0, none⟩) n n), (20, .slice (some ⟨g, 0, none⟩) order.length cap), (21, .int .i64 order.length), (22, .int .i64 i), (5, .int .i64 b), (32, .slice ra r.length rc), (33, .int .i64 r.length), (34, .int .i64 j), (8, .int .i64 x)]) (fun ⟨x, rv, rows⟩ => fun w' => At Rw root T b a x ∧ Noted n rows (fun y b' => N1 Rw root order i b r j y b' ∨ (b' = b ∧ Vis Rw root x a y)) ∧ (∀ (y : Nat) q, rows[y]? = some q → q.length ≤ i * n + j + 1 ∧ (¬ Vis Rw root x a y → q.length ≤ i * n + j)) ∧ Mat (Value.int .i64) 3 27 w1.heap.size w' bo rv rows ∧ Keep (fun q => q = bo) w1 w') (fun ⟨x, rv, rows⟩ => (if x < 0 then 0 else (lk pl x.toNat).toNat + 1)) (((a : Int), rv, rows)) (Sub.cons rfl (Sub.cons rfl (Sub.cons rfl (Sub.cons rfl (Sub.cons rfl (Sub.cons rfl (Sub.cons rfl (Sub.cons rfl (Sub.cons rfl (Sub.cons rfl Sub.nil)))))))))) (⟨At.start hp.sol hab har hbn, hN3.congr (fun y b' => ⟨.inl, fun h => h.elim id (fun h => absurd h.2 (Vis.start a y))⟩), fun y q hq => ⟨by have := hsh3 y q hq; omega, fun _ => hsh3 y q hq⟩, hM3, hk3⟩) ?_
        rintro ⟨x, rv, rows⟩ w4 ⟨hA, hN4, hsh4, hM4, hk4⟩
        show WC _ _ _ _ [(0, .pointer (some ⟨bw, 0, none⟩)), (3, .slice (some ⟨bo, 0, none⟩) n n), (20, .slice (some ⟨g, 0, none⟩) order.length cap), (21, .int .i64 order.length), (22, .int .i64 i), (5, .int .i64 b), (32, .slice ra r.length rc), (33, .int .i64 r.length), (34, .int .i64 j), (8, .int .i64 x)] _
        have hE4 : Ext w w4 := hk1.trans hk4 (fun q hq h => by have h : q = bo := h; omega)
        have hW4 := hE4.blk hW (fun h => h)
        have hT4 := hE4.blk hp.hT (fun h => h)
        have hTl := hp.sol.len
        have hexit : (x < 0 ∨ x = lk T b) → Noted n rows (N1 Rw root order i b r (j + 1)) := fun hx => hN4.congr (fun y b' => by
          have hv := Vis.done hp.sol hp.ord hp.place hA hbr hbn hx y
          constructor
          · rintro ((h | ⟨h1, c, h2, h3⟩) | ⟨rfl, h2⟩)
            · exact .inl h
            · exact .inr ⟨h1, c, (htk c).2 (.inl h2), h3⟩
            · exact .inr ⟨rfl, a, (htk a).2 (.inr rfl), har, hv.1 h2⟩
          · rintro (h | ⟨h1, c, h2, h3⟩)
            · exact .inl (.inl h)
            · rcases (htk c).1 h2 with h4 | rfl
              · exact .inl (.inr ⟨h1, c, h4, h3⟩)
              · exact .inr ⟨h1, hv.2 h3.2⟩)
        refine WC.seq (WC.seq (WC.region ?_))
        refine WO.op rfl rfl rfl (R.move rfl) ?_
        refine WO.op rfl rfl rfl (R.geq rfl rfl) ?_
        refine WO.op rfl rfl rfl (R.move rfl) ?_
        refine WO.cases (p := 0 ≤ x) (fun hx0 => ?_) (fun hx0 => ?_)
        ·
          refine WO.yes rfl rfl (decide_eq_true hx0) ?_
          refine WO.op rfl rfl rfl (R.move rfl) ?_
          refine WO.yes rfl rfl (decide_eq_true hx0) ?_
          refine WO.op rfl rfl rfl (R.move rfl) ?_
          refine WO.yes rfl rfl (decide_eq_true hx0) ?_
          refine WO.op rfl rfl rfl (R.nilCheck rfl) ?_
          refine WO.yes rfl rfl (decide_eq_true hx0) ?_
          refine WO.op rfl rfl rfl (R.fieldAddr Try.runUnderlying58 rfl Try.sizeOf27 rfl) ?_
          refine WO.yes rfl rfl (decide_eq_true hx0) ?_
          refine WO.op rfl rfl rfl (R.load Try.isAgg27 rfl (hW4.cells 4 _ rfl)) ?_
          refine WO.yes rfl rfl (decide_eq_true hx0) ?_
          refine WO.op rfl rfl rfl (R.move rfl) ?_
          refine WO.yes rfl rfl (decide_eq_true hx0) ?_
          refine WO.op rfl rfl rfl (R.indexS Try.runUnderlying27 Try.sizeOf3 rfl rfl rfl (by omega)) ?_
          refine WO.yes rfl rfl (decide_eq_true hx0) ?_
          refine WO.op rfl rfl rfl (R.load Try.isAgg3 rfl (hT4.cells.el1 b rfl (map_at (lk_lt (by omega))))) ?_
          refine WO.yes rfl rfl (decide_eq_true hx0) ?_
          refine WO.op rfl rfl rfl (R.neq rfl rfl) ?_
          refine WO.op rfl rfl rfl (R.pickT rfl (decide_eq_true hx0) rfl) ?_
          refine WO.nil (WX.next ?_)
          refine WC.ite rfl (fun hxt => ?_) (fun hxt => ?_)
          · obtain ⟨c, rfl⟩ := Int.eq_ofNat_of_zero_le hx0
            have hcr : Dfs.Reach Rw root c := by
              rcases hA.pos with ⟨h1, _⟩ | ⟨c', h1, h2, _⟩
              · omega
              · rw [Int.ofNat.inj h1]; exact h2
            have hcn := hreach c hcr
            have hcp := reach_place hp.ord hp.place hcr
            have hst := Vis.step hp.sol hp.ord hp.place hA hreach
            have hm := Mat.at (i := c) hM4 (by rw [hN4.len]; exact hcn)
            obtain ⟨v, q, hv, hq⟩ := hm
            have hql : q.length ≤ i * n + j := (hsh4 c q hq).2 (fun h => h.2 c rfl (Dom.refl c))
            refine WC.skip (WX.next (WC.seq (WC.block (WC.region ?_))))
            refine WO.op rfl rfl rfl (R.move rfl) ?_
            refine WO.op rfl rfl rfl (R.move rfl) ?_
            refine WO.op rfl rfl rfl (R.move rfl) ?_
            refine WO.op rfl rfl rfl (R.move rfl) ?_
            refine WO.op rfl rfl rfl (R.indexS Try.runUnderlying35 Try.sizeOf27 rfl rfl rfl (by omega)) ?_
            refine WO.op rfl rfl rfl (R.load Try.isAgg27 rfl (hM4.out.cells.el1 c rfl hv)) ?_
            refine WO.op rfl rfl rfl (R.move rfl) ?_
            refine WO.mem rfl rfl rfl (M.buildSlice (cs := [.int .i64 b]) [(0, _)] Try.runUnderlying27 Try.sizeOf3 Try.zeroValue3 (by decide) rfl (by kernel_rfl)) ?_
            rintro _ w5 ⟨b5, rfl, hb5, hs5, hB5, hk5⟩
            have hM5 := hM4.ext hk5
            have hrow := hM5.row c v q hv hq
            refine WO.mem rfl rfl rfl (M.append Try.underlying27 Try.el3 rfl (by decide) rfl rfl hrow rfl (Cells.add hB5.cells) (by simp; rfl) (by omega) (by omega)) ?_
            rintro v' w6 ⟨hown6, hfr6, hk6, _⟩
            obtain ⟨av, cv, rfl⟩ := own_form hown6
            have hbo6 : v.ownBlock ≠ some bo := fun h => (hM5.far c v bo hv h).2 rfl
            refine WO.op rfl rfl rfl (R.indexS Try.runUnderlying35 Try.sizeOf27 rfl rfl rfl (by omega)) ?_
            refine WO.mem0 rfl rfl (M.store Try.sizeOf27 rfl rfl rfl rfl (hk6.blk hM5.out hbo6) (by rw [hM5.len, hN4.len]; omega)) ?_
            rintro w7 hW7
            rw [show 0 + (c : Int).toNat * 1 = c from by omega] at hW7
            have hk47 : Keep (fun q => v.ownBlock = some q ∨ q = bo) w4 w7 := ((hk5.mono (fun _ _ h => h.elim)).trans (hk6.mono (fun _ _ h => .inl h)) (fun _ _ h => h)).trans hW7.2.2 (fun _ _ h => .inr h)
            have hk17 : Keep (fun q => q = bo) w1 w7 := hk4.trans hk47 (fun q' hq' h => by
              rcases h with h | h
              · have := (hM4.far c v q' hv h).1; omega
              · exact h)
            have hE7 : Ext w w7 := hk1.trans hk17 (fun q hq h => by have h : q = bo := h; omega)
            refine WO.nil (WX.blockN (WX.next (WC.region ?_)))
            refine WO.op rfl rfl rfl (R.move rfl) ?_
            refine WO.op rfl rfl rfl (R.nilCheck rfl) ?_
            refine WO.op rfl rfl rfl (R.fieldAddr Try.runUnderlying58 rfl Try.sizeOf27 rfl) ?_
            refine WO.op rfl rfl rfl (R.load Try.isAgg27 rfl ((hE7.blk hW (fun h => h)).cells 4 _ rfl)) ?_
            refine WO.op rfl rfl rfl (R.move rfl) ?_
            refine WO.op rfl rfl rfl (R.indexS Try.runUnderlying27 Try.sizeOf3 rfl rfl rfl (by omega)) ?_
            refine WO.op rfl rfl rfl (R.load Try.isAgg3 rfl ((hE7.blk hp.hT (fun h => h)).cells.el1 c rfl (map_at (lk_lt (by omega))))) ?_
            refine WO.op rfl rfl rfl (R.assign rfl) ?_
            refine WO.nil ?_
            refine WX.back ((lk T c, rv.set c (.slice av (q.length + 1) cv), rows.set c (q ++ [(b : Int)]))) (Sub.cons rfl (Sub.cons rfl (Sub.cons rfl (Sub.cons rfl (Sub.cons rfl (Sub.cons rfl (Sub.cons rfl (Sub.cons rfl (Sub.cons rfl (Sub.cons rfl Sub.nil)))))))))) (⟨hA.step hp.sol hxt hreach, ?_, ?_, ?_, hk17⟩) (?_)
            · refine (hN4.push hq).congr (fun y b' => ?_)
              rw [hst y]
              constructor
              · rintro ((h | ⟨h1, h2⟩) | ⟨h1, h2⟩)
                · exact .inl h
                · exact .inr ⟨h1, .inl h2⟩
                · exact .inr ⟨h2, .inr h1⟩
              · rintro (h | ⟨h1, h2 | h2⟩)
                · exact .inl (.inl h)
                · exact .inl (.inr ⟨h1, h2⟩)
                · exact .inr ⟨h2, h1⟩
            · intro y q' hq'
              by_cases e : c = y
              · subst e
                rw [List.getElem?_set_self (List.getElem?_eq_some_iff.1 hq).1] at hq'
                cases hq'
                rw [List.length_append, List.length_singleton]
                exact ⟨by omega, fun h => absurd ((hst c).2 (.inr rfl)) h⟩
              · rw [List.getElem?_set_ne e] at hq'
                have h1 := hsh4 y q' hq'
                exact ⟨h1.1, fun h => h1.2 (fun h2 => h ((hst y).2 (.inl h2)))⟩
            · exact hM5.push (by have := hk5.size; have := hk4.size; omega) hv hq hown6 hfr6 hk6 hW7
            · show (if lk T c < 0 then 0 else (lk pl (lk T c).toNat).toNat + 1) < (if (c : Int) < 0 then 0 else (lk pl (c : Int).toNat).toNat + 1)
              have e1 : ¬ (c : Int) < 0 := by omega
              rw [if_neg e1, Int.toNat_natCast]
              rcases hp.sol.tree_or hcr hcn with ⟨_, h5⟩ | ⟨p, e, h5, h6, h7, h8, h9, h10⟩
              · rw [h5, if_pos (show (-1 : Int) < 0 from by decide)]; omega
              · have := reach_place hp.ord hp.place h9
                have e2 : ¬ (p : Int) < 0 := by omega
                rw [h5, if_neg e2, Int.toNat_natCast]; omega
          ·
            refine WC.exit (WX.thenE (WX.thenE (WX.hit (WX.blockN (WX.next (WC.region ?_))))))
            refine WO.op rfl rfl rfl (R.add rfl rfl (wrap_i64_in (by omega))) ?_
            refine WO.op rfl rfl rfl (R.move rfl) ?_
            refine WO.nil ?_
            refine WX.back ((j + 1, rv, rows)) (Sub.cons rfl (Sub.cons rfl (Sub.cons rfl (Sub.cons rfl (Sub.cons rfl (Sub.cons rfl (Sub.cons rfl (Sub.cons rfl (Sub.cons rfl Sub.nil))))))))) (⟨by omega, hexit (.inr (by simpa using hxt)), fun y q hq => by have := (hsh4 y q hq).1; omega, hM4, hk4⟩) (by first | omega | (dsimp only; omega))
        ·
          refine WO.no rfl rfl (decide_eq_false hx0) rfl ?_
          refine WO.no rfl rfl (decide_eq_false hx0) rfl ?_
          refine WO.no rfl rfl (decide_eq_false hx0) rfl ?_
          refine WO.no rfl rfl (decide_eq_false hx0) rfl ?_
          refine WO.no rfl rfl (decide_eq_false hx0) rfl ?_
          refine WO.no rfl rfl (decide_eq_false hx0) rfl ?_
          refine WO.no rfl rfl (decide_eq_false hx0) rfl ?_
          refine WO.no rfl rfl (decide_eq_false hx0) rfl ?_
          refine WO.no rfl rfl (decide_eq_false hx0) rfl ?_
          refine WO.op rfl rfl rfl (R.pickF rfl (decide_eq_false hx0) rfl) ?_
          refine WO.nil (WX.next ?_)
          refine WC.ff rfl (rfl) ?_
          refine WC.exit (WX.thenE (WX.thenE (WX.hit (WX.blockN (WX.next (WC.region ?_))))))
          refine WO.op rfl rfl rfl (R.add rfl rfl (wrap_i64_in (by omega))) ?_
          refine WO.op rfl rfl rfl (R.move rfl) ?_
          refine WO.nil ?_
          refine WX.back ((j + 1, rv, rows)) (Sub.cons rfl (Sub.cons rfl (Sub.cons rfl (Sub.cons rfl (Sub.cons rfl (Sub.cons rfl (Sub.cons rfl (Sub.cons rfl (Sub.cons rfl Sub.nil))))))))) (⟨by omega, hexit (.inl (by omega)), fun y q hq => by have := (hsh4 y q hq).1; omega, hM4, hk4⟩) (by first | omega | (dsimp only; omega))
    · have hjr' : j = r.length := by omega
      subst hjr'
      refine WC.exit (WX.thenE (WX.thenE (WX.hit (WX.blockN (WX.next (WC.region ?_))))))
      refine WO.op rfl rfl rfl (R.add rfl rfl (wrap_i64_in (by omega))) ?_
      refine WO.op rfl rfl rfl (R.move rfl) ?_
      refine WO.nil ?_
      refine WX.back ((i + 1, rv, rows)) (Sub.cons rfl (Sub.cons rfl (Sub.cons rfl (Sub.cons rfl (Sub.cons rfl Sub.nil))))) (⟨by omega, hN3.congr (fun x b' => ?_), fun x q hq => by have := hsh3 x q hq; omega, hM3, hk3⟩) (by first | omega | (dsimp only; omega))
      unfold N1 N0 Front
      rw [List.take_length]
      constructor
      · rintro (⟨k, h1, h2, h3⟩ | ⟨rfl, a, h2, h3⟩)
        · exact ⟨k, by omega, h2, h3⟩
        · obtain ⟨a', h4, h5⟩ := (hp.back.mem b' r hr _).1 h2
          have := Int.ofNat.inj h4
          subst this
          exact ⟨i, by omega, hb, a, h3.1, h5, h3.2⟩
      · rintro ⟨k, h1, h2, h3⟩
        by_cases e : k = i
        · subst e
          rw [hb] at h2
          cases h2
          obtain ⟨a, h4, h5, h6⟩ := h3
          exact .inr ⟨rfl, a, (hp.back.mem b r hr _).2 ⟨a, rfl, h5⟩, h4, h6⟩
        · exact .inl ⟨k, by omega, h2, h3⟩
  · have hio' : i = order.length := by omega
    subst hio'
    have hNF : Noted n rows (Front Rw root) := hN.congr (fun x b => by
      constructor
      · rintro ⟨k, _, _, h⟩; exact h
      · intro h
        have h' := h
        obtain ⟨a, h1, h2, _⟩ := h'
        obtain ⟨k, hk⟩ := List.mem_iff_getElem?.1 ((hp.ord.mem b).2 (.step h1 h2))
        exact ⟨k, (List.getElem?_eq_some_iff.1 hk).1, hk, h⟩)
    have hsq : order.length * n ≤ 1000000 := by
      have h1 : order.length * n ≤ n * n := Nat.mul_le_mul_right _ hol
      have h2 : n * n ≤ 1000 * 1000 := Nat.mul_le_mul hsm hsm
      exact Nat.le_trans h1 h2
    refine WC.exit (WX.thenE (WX.thenE (WX.hit (WX.next (WC.seq (WC.seq (WC.region ?_)))))))
    refine WO.op rfl rfl rfl (R.move rfl) ?_
    refine WO.op rfl rfl rfl (R.lenS rfl Try.runUnderlying35 rfl) ?_
    refine WO.op rfl rfl rfl (R.move rfl) ?_
    refine WO.nil (WX.next (WC.block ?_))
    refine WC.loop (σ := Nat × List Value × List (List Int)) (fun ⟨k, rv, rk⟩ => [(3, .slice (some ⟨bo, 0, none⟩) n n), (79, .slice (some ⟨bo, 0, none⟩) n n), (80, .int .i64 n), (81, .int .i64 k)]) (fun ⟨k, rv, rk⟩ => fun w' => k ≤ n ∧ rk.length = n ∧ (∀ (x : Nat) q, rk[x]? = some q → ∃ q', rows[x]? = some q' ∧ q = if x < k then Gr.compactL (sortL q') else q') ∧ Mat (Value.int .i64) 3 27 w1.heap.size w' bo rv rk ∧ Keep (fun q => q = bo) w1 w') (fun ⟨k, rv, rk⟩ => n - k) ((0, rv, rows)) (Sub.cons rfl (Sub.cons rfl (Sub.cons rfl (Sub.cons rfl Sub.nil)))) (⟨Nat.zero_le _, hNF.len, fun x q hq => ⟨q, hq, by rw [if_neg (Nat.not_lt_zero _)]⟩, hM, hk2⟩) ?_
    rintro ⟨k, rv, rk⟩ w3 ⟨hkn, hrl, hrk, hM3, hk3⟩
    show WC _ _ _ _ [(3, .slice (some ⟨bo, 0, none⟩) n n), (79, .slice (some ⟨bo, 0, none⟩) n n), (80, .int .i64 n), (81, .int .i64 k)] _
    refine WC.seq (WC.region ?_)
    refine WO.op rfl rfl rfl (R.lss rfl rfl) ?_
    refine WO.nil (WX.next (WC.seq ?_))
    refine WC.ite rfl (fun hlt3 => ?_) (fun hge3 => ?_)
    · have hm := Mat.at (i := k) hM3 (by omega)
      obtain ⟨v, q, hv, hq⟩ := hm
      obtain ⟨q', hq', hqe⟩ := hrk k q hq
      rw [if_neg (by omega)] at hqe
      subst hqe
      have hrow := hM3.row k v q hv hq
      have hqs := hsh k q hq'
      refine WC.skip (WX.next (WC.seq (WC.block (WC.seq (WC.region ?_)))))
      refine WO.op rfl rfl rfl (R.move rfl) ?_
      refine WO.op rfl rfl rfl (R.indexS Try.runUnderlying35 Try.sizeOf27 rfl rfl rfl (by omega)) ?_
      refine WO.op rfl rfl rfl (R.load Try.isAgg27 rfl (hM3.out.cells.el1 k rfl hv)) ?_
      refine WO.op rfl rfl rfl (R.assign rfl) ?_
      refine WO.op rfl rfl rfl (R.assign rfl) ?_
      refine WO.nil (WX.next (WC.seq (WC.region ?_)))
      refine WO.op rfl rfl rfl (R.move rfl) ?_
      refine WO.call rfl rfl rfl (F.call (vs := [_]) Try.call41 rfl) (sortI_ok q v _ w3 hrow (by omega)) ?_
      rintro _ w4 ⟨rfl, hrow4, hk4⟩
      have hrow4' : w4.ownsRow 0 3 1 v q.length ((sortL q).flatMap encI) := by rw [← mapI]; exact hrow4
      refine WO.nil (WX.next (WC.region ?_))
      refine WO.op rfl rfl rfl (R.move rfl) ?_
      refine WO.op rfl rfl rfl (R.move rfl) ?_
      refine WO.op rfl rfl rfl (R.move rfl) ?_
      refine WO.call rfl rfl rfl (F.call (vs := [_]) Try.call48 rfl) (compactI_ok (sortL q) v _ w4 hrow4' (by rw [sortL_len]; omega)) ?_
      rintro u w5 ⟨hrow5, hub, hk5⟩
      rw [← mapI] at hrow5
      obtain ⟨au, cu, rfl⟩ := own_form hrow5
      have hbov : v.ownBlock ≠ some bo := fun h => (hM3.far k v bo hv h).2 rfl
      have hk35 : Keep (fun q => v.ownBlock = some q) w3 w5 := hk4.trans hk5 (fun _ _ h => h)
      refine WO.op rfl rfl rfl (R.indexS Try.runUnderlying35 Try.sizeOf27 rfl rfl rfl (by omega)) ?_
      refine WO.mem0 rfl rfl (M.store Try.sizeOf27 rfl rfl rfl rfl (hk35.blk hM3.out hbov) (by rw [hM3.len]; omega)) ?_
      rintro w6 hW6
      rw [show 0 + (k : Int).toNat * 1 = k from by omega] at hW6
      refine WO.nil (WX.blockN (WX.next (WC.region ?_)))
      refine WO.op rfl rfl rfl (R.add rfl rfl (wrap_i64_in (by omega))) ?_
      refine WO.op rfl rfl rfl (R.move rfl) ?_
      refine WO.nil ?_
      refine WX.back ((k + 1, rv.set k (.slice au (Gr.compactL (sortL q)).length cu), rk.set k (Gr.compactL (sortL q)))) (Sub.cons rfl (Sub.cons rfl (Sub.cons rfl (Sub.cons rfl Sub.nil)))) (⟨by omega, by rw [List.length_set]; exact hrl, ?_, ?_, ?_⟩) (by first | omega | (dsimp only; omega))
      · intro x q2 hq2
        by_cases e : k = x
        · subst e
          rw [List.getElem?_set_self (by omega)] at hq2
          cases hq2
          exact ⟨q, hq', by rw [if_pos (by omega)]⟩
        · rw [List.getElem?_set_ne e] at hq2
          obtain ⟨q3, h1, h2⟩ := hrk x q2 hq2
          refine ⟨q3, h1, ?_⟩
          rw [h2]
          by_cases hxk : x < k
          · rw [if_pos hxk, if_pos (by omega)]
          · rw [if_neg hxk, if_neg (by omega)]
      · exact hM3.put (by have := hk3.size; omega) hv hrow5 (.inl hub) hk35 hW6
      · have hk36 : Keep (fun q => v.ownBlock = some q ∨ q = bo) w3 w6 := (hk35.mono (fun _ _ h => .inl h)).trans hW6.2.2 (fun _ _ h => .inr h)
        exact hk3.trans hk36 (fun q' hq' h => by
          rcases h with h | h
          · have := (hM3.far k v q' hv h).1; omega
          · exact h)
    · have hk' : k = n := by omega
      subst hk'
      have hE3 : Ext w w3 := hk1.trans hk3 (fun q hq h => by have h : q = bo := h; omega)
      refine WC.exit (WX.thenE (WX.thenE (WX.hit (WX.next (WC.seq (WC.region ?_))))))
      refine WO.op rfl rfl rfl (R.move rfl) ?_
      refine WO.op rfl rfl rfl (R.assign rfl) ?_
      refine WO.nil (WX.next (WC.ret ?_))
      refine WX.ret1 Try.results31 rfl ⟨_, rfl, rk, ⟨hrl, ?_, ?_, ?_⟩, ?_, hE3⟩
      · intro x q hq
        obtain ⟨q', h1, h2⟩ := hrk x q hq
        rw [if_pos (by rw [← hrl]; exact (List.getElem?_eq_some_iff.1 hq).1)] at h2
        rw [h2]
        exact (Gr.compactL_strict (le := (· ≤ ·)) (fun a b => Int.le_antisymm) (sortL_sorted q')).imp (fun h => by omega)
      · intro x q hq y
        obtain ⟨q', h1, h2⟩ := hrk x q hq
        rw [if_pos (by rw [← hrl]; exact (List.getElem?_eq_some_iff.1 hq).1)] at h2
        rw [h2, Gr.compactL_mem, sortL_mem]
        exact hNF.mem x q' h1 y
      · intro x q hq
        obtain ⟨q', h1, h2⟩ := hrk x q hq
        rw [if_pos (by rw [← hrl]; exact (List.getElem?_eq_some_iff.1 hq).1)] at h2
        have h3 := Gr.compactL_len (sortL q')
        have h4 := hsh x q' h1
        rw [sortL_len] at h3
        rw [h2]; omega
      · exact hM3.sl (fun _ => rfl) (by omega) (fun i v g hv hg => by have := (hM3.far i v g hv hg).1; omega) hrl.symm (by omega) (by omega)
end Go.Proofs.Yteilalejfphkgaa
