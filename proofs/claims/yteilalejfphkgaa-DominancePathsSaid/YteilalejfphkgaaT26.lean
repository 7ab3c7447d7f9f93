/-
  slices.Contains, and the law DominancePaths: walks. Nothing here is a claim.
-/
import Derived.Test.YteilalejfphkgaaT22
namespace Go.Proofs.Yteilalejfphkgaa
open Go.GL Go.GL.Dom Go.GL.Dfs

theorem mem_take_succ {α : Type} {l : List α} {k : Nat} {x y : α} (hx : l[k]? = some x) : y ∈ l.take (k + 1) ↔ y ∈ l.take k ∨ y = x := by
  rw [List.take_add_one, hx]
  simp

theorem indexI_ok (l : List Int) (x : Int) (v : Value) (D : Nat → Prop) (w : World) (hv : SlR 1 RInt D w v l) : Calls Try.prog 39 #[v, .int .i64 x] w (Ret fun r w' => (∃ i : Int, r = .int .i64 i ∧ (0 ≤ i ↔ x ∈ l)) ∧ Ext w w') := by
  obtain ⟨ao, cap, rfl, hlc, hcm, hel⟩ := hv
  refine calls Try.func39 rfl [(0, .slice ao l.length cap), (1, .int .i64 x)] 19 ⟨Nat.le_of_ble_eq_true rfl, Try.ntmps39⟩ (argsOk (Sub.cons rfl (Sub.cons rfl Sub.nil))) ?_
  refine WC.seq (WC.region ?_)
  refine WO.op rfl rfl rfl (R.assign rfl) ?_
  refine WO.nil (WX.next (WC.seq (WC.seq (WC.region ?_))))
  refine WO.op rfl rfl rfl (R.move rfl) ?_
  refine WO.op rfl rfl rfl (R.lenS rfl Try.runUnderlying27 rfl) ?_
  refine WO.op rfl rfl rfl (R.move rfl) ?_
  refine WO.nil (WX.next (WC.block ?_))
  refine WC.loop (σ := Nat) (fun k => [(0, .slice ao l.length cap), (1, .int .i64 x), (7, .int .i64 l.length), (8, .int .i64 k)]) (fun k => fun w' => k ≤ l.length ∧ x ∉ l.take k ∧ w' = w) (fun k => l.length - k) (0) (Sub.cons rfl (Sub.cons rfl (Sub.cons rfl (Sub.cons rfl Sub.nil)))) (⟨Nat.zero_le _, by simp, rfl⟩) ?_
  rintro k w1 ⟨hkl, hn, hw1⟩
  show WC _ _ _ _ [(0, .slice ao l.length cap), (1, .int .i64 x), (7, .int .i64 l.length), (8, .int .i64 k)] _
  subst hw1
  refine WC.seq (WC.region ?_)
  refine WO.op rfl rfl rfl (R.lss rfl rfl) ?_
  refine WO.nil (WX.next (WC.seq ?_))
  refine WC.ite rfl (fun hlt => ?_) (fun hge => ?_)
  · obtain ⟨y, hy⟩ : ∃ y, l[k]? = some y := ⟨_, List.getElem?_eq_getElem (by omega)⟩
    obtain ⟨b1, o1, c1, hao, _, hcl1, hcs1, rfl⟩ := hel k y hy
    refine WC.skip (WX.next (WC.seq (WC.block (WC.seq (WC.region ?_)))))
    refine WO.op rfl rfl rfl (R.move rfl) ?_
    refine WO.op rfl rfl rfl (R.assign rfl) ?_
    refine WO.nil (WX.next (WC.seq (WC.region ?_)))
    refine WO.op rfl rfl rfl (R.move rfl) ?_
    refine WO.op rfl rfl rfl (R.move rfl) ?_
    refine WO.op rfl rfl rfl (R.move rfl) ?_
    refine WO.op rfl rfl rfl (R.indexS Try.runUnderlying27 Try.sizeOf3 rfl rfl hao (by omega)) ?_
    refine WO.op rfl rfl rfl (R.load Try.isAgg3 rfl (hcs1 0 _ rfl)) ?_
    refine WO.op rfl rfl rfl (R.eql rfl rfl) ?_
    refine WO.nil (WX.next ?_)
    refine WC.ite rfl (fun he => ?_) (fun he => ?_)
    ·
      refine WC.seq (WC.region ?_)
      refine WO.op rfl rfl rfl (R.move rfl) ?_
      refine WO.op rfl rfl rfl (R.assign rfl) ?_
      refine WO.nil (WX.next (WC.ret (WX.blockR (WX.thenR (WX.thenR (WX.blockR (WX.thenR ?_)))))))
      refine WX.ret1 Try.results39 rfl ⟨_, rfl, ⟨_, rfl, by simp; rw [he]; exact List.mem_of_getElem? hy⟩, Keep.refl _ _⟩
    ·
      refine WC.skip (WX.blockN (WX.next (WC.region ?_)))
      refine WO.op rfl rfl rfl (R.add rfl rfl (wrap_i64_in (by omega))) ?_
      refine WO.op rfl rfl rfl (R.move rfl) ?_
      refine WO.nil ?_
      refine WX.back (k + 1) (Sub.cons rfl (Sub.cons rfl (Sub.cons rfl (Sub.cons rfl Sub.nil)))) (⟨by omega, fun h => by rcases (mem_take_succ hy).1 h with h | h <;> first | exact hn h | exact he h, rfl⟩) (by first | omega | (dsimp only; omega))
  · have : k = l.length := by omega
    subst this
    rw [List.take_length] at hn
    refine WC.exit (WX.thenE (WX.thenE (WX.hit (WX.next (WC.seq (WC.region ?_))))))
    refine WO.op rfl rfl rfl (R.assign rfl) ?_
    refine WO.nil (WX.next (WC.ret ?_))
    refine WX.ret1 Try.results39 rfl ⟨_, rfl, ⟨_, rfl, by simp [hn]⟩, Keep.refl _ _⟩

theorem containsI_ok (l : List Int) (x : Int) (v : Value) (D : Nat → Prop) (w : World) (hv : SlR 1 RInt D w v l) : Calls Try.prog 26 #[v, .int .i64 x] w (Ret fun r w' => r = .bool (decide (x ∈ l)) ∧ Ext w w') := by
  have hv' := hv
  obtain ⟨ao, cap, rfl, hlc, hcm, hel⟩ := hv'
  refine calls Try.func26 rfl [(0, .slice ao l.length cap), (1, .int .i64 x)] 9 ⟨Nat.le_of_ble_eq_true rfl, Try.ntmps26⟩ (argsOk (Sub.cons rfl (Sub.cons rfl Sub.nil))) ?_
  refine WC.seq (WC.region ?_)
  refine WO.op rfl rfl rfl (R.assign rfl) ?_
  refine WO.nil (WX.next (WC.seq (WC.region ?_)))
  refine WO.op rfl rfl rfl (R.move rfl) ?_
  refine WO.op rfl rfl rfl (R.move rfl) ?_
  refine WO.call rfl rfl rfl (F.call (vs := [_, _]) Try.call39 rfl) (indexI_ok l x _ D w hv) ?_
  rintro _ w1 ⟨⟨i, rfl, hi⟩, hk1⟩
  refine WO.op rfl rfl rfl (R.geq rfl rfl) ?_
  refine WO.op rfl rfl rfl (R.assign rfl) ?_
  refine WO.nil (WX.next (WC.ret ?_))
  refine WX.ret1 Try.results26 rfl ⟨_, rfl, by simp [hi], hk1⟩

theorem indexP_ok (l : List (Int × Int)) (x : Int × Int) (v : Value) (D : Nat → Prop) (w : World) (hv : SlR 2 RPair D w v l) : Calls Try.prog 38 #[v, .agg #[.int .i64 x.1, .int .i64 x.2]] w (Ret fun r w' => (∃ i : Int, r = .int .i64 i ∧ (0 ≤ i ↔ x ∈ l)) ∧ Ext w w') := by
  obtain ⟨ao, cap, rfl, hlc, hcm, hel⟩ := hv
  refine calls Try.func38 rfl [(0, .slice ao l.length cap), (1, .agg #[.int .i64 x.1, .int .i64 x.2])] 19 ⟨Nat.le_of_ble_eq_true rfl, Try.ntmps38⟩ (argsOk (Sub.cons rfl (Sub.cons rfl Sub.nil))) ?_
  refine WC.seq (WC.region ?_)
  refine WO.mem rfl rfl rfl (M.box rfl rfl) ?_
  rintro _ w1 ⟨g, rfl, hg, hs1, hB1, hk1⟩
  refine WO.op rfl rfl rfl (R.assign rfl) ?_
  refine WO.nil (WX.next (WC.seq (WC.seq (WC.region ?_))))
  refine WO.op rfl rfl rfl (R.move rfl) ?_
  refine WO.op rfl rfl rfl (R.lenS rfl Try.runUnderlying22 rfl) ?_
  refine WO.op rfl rfl rfl (R.move rfl) ?_
  refine WO.nil (WX.next (WC.block ?_))
  refine WC.loop (σ := Nat) (fun k => [(0, .slice ao l.length cap), (3, .pointer (some ⟨g, 0, none⟩)), (7, .int .i64 l.length), (8, .int .i64 k)]) (fun k => fun w' => k ≤ l.length ∧ x ∉ l.take k ∧ Ext w1 w') (fun k => l.length - k) (0) (Sub.cons rfl (Sub.cons rfl (Sub.cons rfl (Sub.cons rfl Sub.nil)))) (⟨Nat.zero_le _, by simp, Keep.refl _ _⟩) ?_
  rintro k w2 ⟨hkl, hn, hk2⟩
  show WC _ _ _ _ [(0, .slice ao l.length cap), (3, .pointer (some ⟨g, 0, none⟩)), (7, .int .i64 l.length), (8, .int .i64 k)] _
  refine WC.seq (WC.region ?_)
  refine WO.op rfl rfl rfl (R.lss rfl rfl) ?_
  refine WO.nil (WX.next (WC.seq ?_))
  refine WC.ite rfl (fun hlt => ?_) (fun hge => ?_)
  · obtain ⟨y, hy⟩ : ∃ y, l[k]? = some y := ⟨_, List.getElem?_eq_getElem (by omega)⟩
    obtain ⟨b1, o1, c1, hao, _, hcl1, hcs1, rfl⟩ := hel k y hy
    refine WC.skip (WX.next (WC.seq (WC.block (WC.seq (WC.region ?_)))))
    refine WO.op rfl rfl rfl (R.move rfl) ?_
    refine WO.op rfl rfl rfl (R.assign rfl) ?_
    refine WO.nil (WX.next (WC.seq ?_))
    refine WC.quiet (by kernel_rfl) (by kernel_rfl) ?_
    refine WQ.op rfl rfl rfl (fun w1 hw1 => R.loadK Try.isAgg49 Try.sizeOf49 rfl (by rfl) ((hk2.ext hw1).blk hB1 (fun h => h)).cells) ?_
    refine WQ.op rfl rfl rfl (fun w1 hw1 => R.move rfl) ?_
    refine WQ.op rfl rfl rfl (fun w1 hw1 => R.move rfl) ?_
    refine WQ.op rfl rfl rfl (fun w1 hw1 => R.indexS Try.runUnderlying22 Try.sizeOf49 rfl rfl hao (by omega)) ?_
    refine WQ.op rfl rfl rfl (fun w1 hw1 => R.loadK Try.isAgg49 Try.sizeOf49 rfl (by rfl) (((hk1.ext hk2).ext hw1).cells hcs1 (fun h => h))) ?_
    refine WQ.op rfl rfl rfl (fun w1 hw1 => R.eqP Try.underlying49 Try.underlying3 (by kernel_rfl) (by kernel_rfl) Try.isAgg3 (by kernel_rfl) rfl rfl) ?_
    refine WQ.nil (fun w3 hk3 => ?_)
    refine WX.next ?_
    refine WC.ite rfl (fun he => ?_) (fun he => ?_)
    ·
      refine WC.seq (WC.region ?_)
      refine WO.op rfl rfl rfl (R.move rfl) ?_
      refine WO.op rfl rfl rfl (R.assign rfl) ?_
      refine WO.nil (WX.next (WC.ret (WX.blockR (WX.thenR (WX.thenR (WX.blockR (WX.thenR ?_)))))))
      refine WX.ret1 Try.results38 rfl ⟨_, rfl, ⟨_, rfl, by simp; have he' : x = y := he; rw [he']; exact List.mem_of_getElem? hy⟩, (hk1.ext hk2).ext hk3⟩
    ·
      refine WC.skip (WX.blockN (WX.next (WC.region ?_)))
      refine WO.op rfl rfl rfl (R.add rfl rfl (wrap_i64_in (by omega))) ?_
      refine WO.op rfl rfl rfl (R.move rfl) ?_
      refine WO.nil ?_
      refine WX.back (k + 1) (Sub.cons rfl (Sub.cons rfl (Sub.cons rfl (Sub.cons rfl Sub.nil)))) (⟨by omega, fun h => by rcases (mem_take_succ hy).1 h with h | h <;> first | exact hn h | exact he h, hk2.ext hk3⟩) (by first | omega | (dsimp only; omega))
  · have : k = l.length := by omega
    subst this
    rw [List.take_length] at hn
    refine WC.exit (WX.thenE (WX.thenE (WX.hit (WX.next (WC.seq (WC.region ?_))))))
    refine WO.op rfl rfl rfl (R.assign rfl) ?_
    refine WO.nil (WX.next (WC.ret ?_))
    refine WX.ret1 Try.results38 rfl ⟨_, rfl, ⟨_, rfl, by simp [hn]⟩, hk1.ext hk2⟩

theorem containsP_ok (l : List (Int × Int)) (x : Int × Int) (v : Value) (D : Nat → Prop) (w : World) (hv : SlR 2 RPair D w v l) : Calls Try.prog 25 #[v, .agg #[.int .i64 x.1, .int .i64 x.2]] w (Ret fun r w' => r = .bool (decide (x ∈ l)) ∧ Ext w w') := by
  have hv' := hv
  obtain ⟨ao, cap, rfl, hlc, hcm, hel⟩ := hv'
  refine calls Try.func25 rfl [(0, .slice ao l.length cap), (1, .agg #[.int .i64 x.1, .int .i64 x.2])] 9 ⟨Nat.le_of_ble_eq_true rfl, Try.ntmps25⟩ (argsOk (Sub.cons rfl (Sub.cons rfl Sub.nil))) ?_
  refine WC.seq (WC.region ?_)
  refine WO.mem rfl rfl rfl (M.box rfl rfl) ?_
  rintro _ w1 ⟨g, rfl, hg, hs1, hB1, hk1⟩
  refine WO.op rfl rfl rfl (R.assign rfl) ?_
  refine WO.nil (WX.next (WC.seq (WC.region ?_)))
  refine WO.op rfl rfl rfl (R.move rfl) ?_
  refine WO.op rfl rfl rfl (R.loadK Try.isAgg49 Try.sizeOf49 rfl (by rfl) hB1.cells) ?_
  refine WO.call rfl rfl rfl (F.call (vs := [_, _]) Try.call38 rfl) (indexP_ok l x _ D w1 (hv.ext stable_pair hk1)) ?_
  rintro _ w2 ⟨⟨i, rfl, hi⟩, hk2⟩
  refine WO.op rfl rfl rfl (R.geq rfl rfl) ?_
  refine WO.op rfl rfl rfl (R.assign rfl) ?_
  refine WO.nil (WX.next (WC.ret ?_))
  refine WX.ret1 Try.results25 rfl ⟨_, rfl, by simp [hi], hk1.ext hk2⟩

/-! ### what Dominates finds in the tree -/
section
variable {m root : Nat} {es : List (Int × Int)} {Rw : List (List Int)} {order : List Nat} {pl T : List Int}
theorem hits_dom (h : Known m root es Rw order pl T) (a : Nat) : ∀ (f b : Nat), Dfs.Reach Rw root b → hits T a f b = true → Dom Rw root a b
  | 0, _, _, hh => by simp [hits] at hh
  | f + 1, b, hb, hh => by
    rw [hits] at hh
    split at hh
    · rw [Int.toNat_natCast] at hh
      simp only [Bool.or_eq_true, decide_eq_true_eq] at hh
      rcases hh with hh | hh
      · have : a = b := by omega
        subst this
        exact Dom.refl _
      · by_cases hr : b = root
        · have h1 := h.sol.out b (h.lt hb) (.inr hr)
          rw [lk_some h1] at hh
          cases f <;> simp [hits] at hh
        · obtain ⟨p, h1, h2, h3, h4, h5, h6⟩ := h.sol.idom b hb hr
          rw [lk_some h1] at hh
          exact (hits_dom h a f p h6 hh).trans h3
    · cases hh
theorem hits_self (f b : Nat) (hb : b < T.length) : hits T b (f + 1) b = true := by
  rw [hits, if_pos (by omega)]
  simp
theorem hits_root (h : Known m root es Rw order pl T) : ∀ (f b : Nat), Dfs.Reach Rw root b → lk pl b < f → hits T root f b = true
  | 0, b, hb, hf => by have := reach_place h.ord h.place hb; omega
  | f + 1, b, hb, hf => by
    rw [hits, if_pos (by have := h.lt hb; have := h.sol.len; omega), Int.toNat_natCast]
    by_cases hr : b = root
    · simp [hr]
    · obtain ⟨p, h1, h2, h3, h4, h5, h6⟩ := h.sol.idom b hb hr
      rw [lk_some h1, hits_root h f p h6 (by omega), Bool.or_true]
theorem Known.placed (h : Known m root es Rw order pl T) {b : Nat} (hb : Dfs.Reach Rw root b) : lk pl b < m := by
  have h0 := reach_place h.ord h.place hb
  have h1 := (placeAt h.place h0).1
  have h2 := (List.getElem?_eq_some_iff.1 h1).1
  have h3 := nodup_le m order h.ord.nodup (fun x hx => h.lt ((h.ord.mem x).1 hx))
  omega
/-- A path of the graph from the root. -/
theorem path_at (h : Known m root es Rw order pl T) (hall : es.all (Gr.okE m) = true) {path : List Int} (h0 : path[0]? = some (root : Int)) (hp : ∀ i x y, path[i]? = some x → path[i + 1]? = some y → (x, y) ∈ es) :
    ∀ i, i < path.length → ∃ x : Nat, path[i]? = some (x : Int) ∧ Dfs.Reach Rw root x ∧ ∀ y : Nat, (y : Int) ∉ path → AvN Rw root y i x
  | 0, _ => ⟨root, h0, .refl, fun y hy => .start (fun e => hy (by rw [← e]; exact List.mem_of_getElem? h0))⟩
  | i + 1, hi => by
    obtain ⟨x, h1, h2, h3⟩ := path_at h hall h0 hp i (by omega)
    obtain ⟨y, hy⟩ : ∃ y, path[i + 1]? = some y := ⟨_, List.getElem?_eq_getElem hi⟩
    have he := hp i _ _ h1 hy
    have hok := List.all_eq_true.1 hall _ he
    simp [Gr.okE] at hok
    obtain ⟨z, rfl⟩ := Int.eq_ofNat_of_zero_le hok.2.1
    have hed := (h.edge hall x z).2 he
    exact ⟨z, hy, .step h2 hed, fun q hq => .step (h3 q hq) hed (fun e => hq (by rw [← e]; exact List.mem_of_getElem? hy))⟩
end

theorem lawPaths_ok (n : Int) (es : List (Int × Int)) (path : List Int) (ev pv : Value) (D D' : Nat → Prop) (w : World) (hes : SlR 2 RPair D w ev es) (hpv : SlR 1 RInt D' w pv path) : Calls Try.prog 8 #[.agg #[.int .i64 n, ev], pv] w (Ret fun r w' => r = .bool true ∧ Ext w w') := by
  have hes' := hes
  obtain ⟨ao, cap, rfl, _⟩ := hes'
  have hpv' := hpv
  obtain ⟨ap, cp, rfl, hpl, hpm, hpe⟩ := hpv'
  refine calls Try.func8 rfl [(0, .agg #[.int .i64 n, .slice ao es.length cap]), (1, .slice ap path.length cp)] 104 ⟨Nat.le_of_ble_eq_true rfl, Try.ntmps8⟩ (argsOk (Sub.cons rfl (Sub.cons rfl Sub.nil))) ?_
  refine WC.seq (WC.region ?_)
  refine WO.mem rfl rfl rfl (M.box rfl rfl) ?_
  rintro _ w1 ⟨b, rfl, hb, hs1, hB1, hk1⟩
  refine WO.op rfl rfl rfl (R.assign rfl) ?_
  refine WO.nil (WX.next (WC.seq (WC.seq (WC.region ?_))))
  refine WO.call rfl rfl rfl (F.call (vs := []) Try.call10 rfl) (known_ok w1) ?_
  rintro _ w2 ⟨rfl, hk2⟩
  have hB2 := hk2.blk hB1 (fun h => h)
  have hE2 := hk1.ext hk2
  have hes2 := hes.ext stable_pair hE2
  refine WO.op rfl rfl rfl (R.not rfl) ?_
  refine WO.nil (WX.next ?_)
  refine WC.ff rfl (rfl) ?_
  refine WC.skip (WX.next (WC.seq (WC.seq ?_)))
  refine WC.cut (σ := Bool) (fun q => [(1, .slice ap path.length cp), (2, .pointer (some ⟨b, 0, none⟩)), (32, .bool q)]) (fun q => fun w' => (q = false → n ≤ 12 ∧ 1 ≤ path.length ∧ path.length ≤ 60 ∧ ∃ r, path[0]? = some r ∧ codeOf n es r = 0) ∧ Ext w2 w') ?_ ?_
  ·
    refine WC.draw (fun w' => Ext w2 w') [] (by kernel_rfl) (fun w3 hE3 hh3 => ?_)
    refine WD.take 0 rfl (by kernel_rfl) rfl rfl rfl hE3 (fun w1 hw1 => R.loadK Try.isAgg24 Try.sizeOf24 rfl (by rfl) (hw1.blk hB2 (fun h => h)).cells) ?_
    refine WD.call 1 rfl (by kernel_rfl) rfl rfl rfl (F.call (vs := [_]) Try.call11 rfl) (few_ok n es _ D w3 (hes2.ext stable_pair hE3)) ?_
    rintro _ w4 ⟨rfl, hk4⟩
    refine ⟨fun _ => hE3.ext hk4, ?_⟩
    refine WD.takeW 2 rfl (by kernel_rfl) rfl rfl rfl (fun w1 => R.notD rfl) ?_
    refine WD.takeW 3 rfl (by kernel_rfl) rfl rfl rfl (fun w1 => R.move rfl) ?_
    refine WD.cases (p := (n ≤ 12 ∧ es.length ≤ 40)) (fun hf => ?_) (fun hf => ?_)
    ·
      refine WD.takeG 4 rfl (by kernel_rfl) rfl rfl (hE3.ext hk4) (.inl ⟨fun a ha => wanted_yes ha rfl rfl rfl (decide_eq_false (by simpa using hf)), fun w1 hw1 => R.move rfl⟩) ?_
      refine WD.takeG 5 rfl (by kernel_rfl) rfl rfl (hE3.ext hk4) (.inl ⟨fun a ha => wanted_yes ha rfl rfl rfl (decide_eq_false (by simpa using hf)), fun w1 hw1 => R.lenS rfl Try.runUnderlying27 rfl⟩) ?_
      refine WD.takeG 6 rfl (by kernel_rfl) rfl rfl (hE3.ext hk4) (.inl ⟨fun a ha => wanted_yes ha rfl rfl rfl (decide_eq_false (by simpa using hf)), fun w1 hw1 => R.lss rfl rfl⟩) ?_
      refine WD.takeW 7 rfl (by kernel_rfl) rfl rfl rfl (fun w1 => R.pickF rfl (decide_eq_false (by simpa using hf)) rfl) ?_
      refine WD.takeW 8 rfl (by kernel_rfl) rfl rfl rfl (fun w1 => R.move rfl) ?_
      refine WD.cases (p := (path.length : Int) < 1) (fun hl => ?_) (fun hl => ?_)
      ·
        refine WD.takeG (v := undef) 9 rfl (by kernel_rfl) rfl rfl (hE3.ext hk4) (.inr ⟨fun a ha => wanted_no ha rfl rfl rfl (decide_eq_true hl), rfl⟩) ?_
        refine WD.takeG (v := undef) 10 rfl (by kernel_rfl) rfl rfl (hE3.ext hk4) (.inr ⟨fun a ha => wanted_no ha rfl rfl rfl (decide_eq_true hl), rfl⟩) ?_
        refine WD.takeG (v := undef) 11 rfl (by kernel_rfl) rfl rfl (hE3.ext hk4) (.inr ⟨fun a ha => wanted_no ha rfl rfl rfl (decide_eq_true hl), rfl⟩) ?_
        refine WD.takeW 12 rfl (by kernel_rfl) rfl rfl rfl (fun w1 => R.pickT rfl (decide_eq_true hl) rfl) ?_
        refine WD.takeW 13 rfl (by kernel_rfl) rfl rfl rfl (fun w1 => R.move rfl) ?_
        refine WD.takeG (v := undef) 14 rfl (by kernel_rfl) rfl rfl (hE3.ext hk4) (.inr ⟨fun a ha => wanted_no ha rfl rfl rfl rfl, rfl⟩) ?_
        refine WD.takeG (v := undef) 15 rfl (by kernel_rfl) rfl rfl (hE3.ext hk4) (.inr ⟨fun a ha => wanted_no ha rfl rfl rfl rfl, rfl⟩) ?_
        refine WD.takeG (v := undef) 16 rfl (by kernel_rfl) rfl rfl (hE3.ext hk4) (.inr ⟨fun a ha => wanted_no ha rfl rfl rfl rfl, rfl⟩) ?_
        refine WD.takeG (v := undef) 17 rfl (by kernel_rfl) rfl rfl (hE3.ext hk4) (.inr ⟨fun a ha => wanted_no ha rfl rfl rfl rfl, rfl⟩) ?_
        refine WD.skip 18 rfl (by kernel_rfl) (fun a ha => wanted_no ha rfl rfl rfl rfl) rfl rfl (hE3.ext hk4) ?_
        refine WD.takeG (v := undef) 19 rfl (by kernel_rfl) rfl rfl (hE3.ext hk4) (.inr ⟨fun a ha => wanted_no ha rfl rfl rfl rfl, rfl⟩) ?_
        refine WD.takeW 20 rfl (by kernel_rfl) rfl rfl rfl (fun w1 => R.pickT rfl rfl rfl) ?_
        refine WD.done (by kernel_rfl) ?_ _
        refine WX.meet (true) (Sub.cons rfl (Sub.cons rfl (Sub.cons rfl Sub.nil))) (⟨by simp, hE3.ext hk4⟩)
      ·
        refine WD.takeG 9 rfl (by kernel_rfl) rfl rfl (hE3.ext hk4) (.inl ⟨fun a ha => wanted_yes ha rfl rfl rfl (decide_eq_false hl), fun w1 hw1 => R.move rfl⟩) ?_
        refine WD.takeG 10 rfl (by kernel_rfl) rfl rfl (hE3.ext hk4) (.inl ⟨fun a ha => wanted_yes ha rfl rfl rfl (decide_eq_false hl), fun w1 hw1 => R.lenS rfl Try.runUnderlying27 rfl⟩) ?_
        refine WD.takeG 11 rfl (by kernel_rfl) rfl rfl (hE3.ext hk4) (.inl ⟨fun a ha => wanted_yes ha rfl rfl rfl (decide_eq_false hl), fun w1 hw1 => R.gtr rfl rfl⟩) ?_
        refine WD.takeW 12 rfl (by kernel_rfl) rfl rfl rfl (fun w1 => R.pickF rfl (decide_eq_false hl) rfl) ?_
        refine WD.takeW 13 rfl (by kernel_rfl) rfl rfl rfl (fun w1 => R.move rfl) ?_
        refine WD.cases (p := (60 : Int) < path.length) (fun hm => ?_) (fun hm => ?_)
        ·
          refine WD.takeG (v := undef) 14 rfl (by kernel_rfl) rfl rfl (hE3.ext hk4) (.inr ⟨fun a ha => wanted_no ha rfl rfl rfl (decide_eq_true hm), rfl⟩) ?_
          refine WD.takeG (v := undef) 15 rfl (by kernel_rfl) rfl rfl (hE3.ext hk4) (.inr ⟨fun a ha => wanted_no ha rfl rfl rfl (decide_eq_true hm), rfl⟩) ?_
          refine WD.takeG (v := undef) 16 rfl (by kernel_rfl) rfl rfl (hE3.ext hk4) (.inr ⟨fun a ha => wanted_no ha rfl rfl rfl (decide_eq_true hm), rfl⟩) ?_
          refine WD.takeG (v := undef) 17 rfl (by kernel_rfl) rfl rfl (hE3.ext hk4) (.inr ⟨fun a ha => wanted_no ha rfl rfl rfl (decide_eq_true hm), rfl⟩) ?_
          refine WD.skip 18 rfl (by kernel_rfl) (fun a ha => wanted_no ha rfl rfl rfl (decide_eq_true hm)) rfl rfl (hE3.ext hk4) ?_
          refine WD.takeG (v := undef) 19 rfl (by kernel_rfl) rfl rfl (hE3.ext hk4) (.inr ⟨fun a ha => wanted_no ha rfl rfl rfl (decide_eq_true hm), rfl⟩) ?_
          refine WD.takeW 20 rfl (by kernel_rfl) rfl rfl rfl (fun w1 => R.pickT rfl (decide_eq_true hm) rfl) ?_
          refine WD.done (by kernel_rfl) ?_ _
          refine WX.meet (true) (Sub.cons rfl (Sub.cons rfl (Sub.cons rfl Sub.nil))) (⟨by simp, hE3.ext hk4⟩)
        · obtain ⟨r, hr⟩ : ∃ r, path[0]? = some r := ⟨_, List.getElem?_eq_getElem (by omega)⟩
          obtain ⟨b1, o1, c1, hao, _, hcl1, hcs1, rfl⟩ := hpe 0 r hr
          refine WD.takeG 14 rfl (by kernel_rfl) rfl rfl (hE3.ext hk4) (.inl ⟨fun a ha => wanted_yes ha rfl rfl rfl (decide_eq_false hm), fun w1 hw1 => R.loadK Try.isAgg24 Try.sizeOf24 rfl (by rfl) (hw1.blk hB2 (fun h => h)).cells⟩) ?_
          refine WD.takeG 15 rfl (by kernel_rfl) rfl rfl (hE3.ext hk4) (.inl ⟨fun a ha => wanted_yes ha rfl rfl rfl (decide_eq_false hm), fun w1 hw1 => R.move rfl⟩) ?_
          refine WD.takeG 16 rfl (by kernel_rfl) rfl rfl (hE3.ext hk4) (.inl ⟨fun a ha => wanted_yes ha rfl rfl rfl (decide_eq_false hm), fun w1 hw1 => R.indexS Try.runUnderlying27 Try.sizeOf3 rfl rfl hao (by omega)⟩) ?_
          refine WD.takeG 17 rfl (by kernel_rfl) rfl rfl (hE3.ext hk4) (.inl ⟨fun a ha => wanted_yes ha rfl rfl rfl (decide_eq_false hm), fun w1 hw1 => R.load Try.isAgg3 rfl ((hE2.ext hw1).cells hcs1 (fun h => h) 0 _ rfl)⟩) ?_
          refine WD.callG 18 rfl (by kernel_rfl) (fun a ha => wanted_yes ha rfl rfl rfl (decide_eq_false hm)) rfl rfl (F.call (vs := [_, _]) Try.call13 rfl) (code_ok n r es _ D w4 ((hes2.ext stable_pair hE3).ext stable_pair hk4)) ?_
          rintro _ w5 ⟨rfl, hk5⟩
          refine ⟨fun _ => (hE3.ext hk4).ext hk5, ?_⟩
          refine WD.takeG 19 rfl (by kernel_rfl) rfl rfl ((hE3.ext hk4).ext hk5) (.inl ⟨fun a ha => wanted_yes ha rfl rfl rfl (decide_eq_false hm), fun w1 hw1 => R.neq rfl rfl⟩) ?_
          refine WD.takeW 20 rfl (by kernel_rfl) rfl rfl rfl (fun w1 => R.pickF rfl (decide_eq_false hm) rfl) ?_
          refine WD.done (by kernel_rfl) ?_ _
          refine WX.meet (decide (codeOf n es r ≠ 0)) (Sub.cons rfl (Sub.cons rfl (Sub.cons rfl Sub.nil))) (⟨fun h => ⟨by omega, by omega, by omega, r, hr, by simpa using h⟩, (hE3.ext hk4).ext hk5⟩)
    ·
      refine WD.takeG (v := undef) 4 rfl (by kernel_rfl) rfl rfl (hE3.ext hk4) (.inr ⟨fun a ha => wanted_no ha rfl rfl rfl (decide_eq_true (by simpa using hf)), rfl⟩) ?_
      refine WD.takeG (v := undef) 5 rfl (by kernel_rfl) rfl rfl (hE3.ext hk4) (.inr ⟨fun a ha => wanted_no ha rfl rfl rfl (decide_eq_true (by simpa using hf)), rfl⟩) ?_
      refine WD.takeG (v := undef) 6 rfl (by kernel_rfl) rfl rfl (hE3.ext hk4) (.inr ⟨fun a ha => wanted_no ha rfl rfl rfl (decide_eq_true (by simpa using hf)), rfl⟩) ?_
      refine WD.takeW 7 rfl (by kernel_rfl) rfl rfl rfl (fun w1 => R.pickT rfl (decide_eq_true (by simpa using hf)) rfl) ?_
      refine WD.takeW 8 rfl (by kernel_rfl) rfl rfl rfl (fun w1 => R.move rfl) ?_
      refine WD.takeG (v := undef) 9 rfl (by kernel_rfl) rfl rfl (hE3.ext hk4) (.inr ⟨fun a ha => wanted_no ha rfl rfl rfl rfl, rfl⟩) ?_
      refine WD.takeG (v := undef) 10 rfl (by kernel_rfl) rfl rfl (hE3.ext hk4) (.inr ⟨fun a ha => wanted_no ha rfl rfl rfl rfl, rfl⟩) ?_
      refine WD.takeG (v := undef) 11 rfl (by kernel_rfl) rfl rfl (hE3.ext hk4) (.inr ⟨fun a ha => wanted_no ha rfl rfl rfl rfl, rfl⟩) ?_
      refine WD.takeW 12 rfl (by kernel_rfl) rfl rfl rfl (fun w1 => R.pickT rfl rfl rfl) ?_
      refine WD.takeW 13 rfl (by kernel_rfl) rfl rfl rfl (fun w1 => R.move rfl) ?_
      refine WD.takeG (v := undef) 14 rfl (by kernel_rfl) rfl rfl (hE3.ext hk4) (.inr ⟨fun a ha => wanted_no ha rfl rfl rfl rfl, rfl⟩) ?_
      refine WD.takeG (v := undef) 15 rfl (by kernel_rfl) rfl rfl (hE3.ext hk4) (.inr ⟨fun a ha => wanted_no ha rfl rfl rfl rfl, rfl⟩) ?_
      refine WD.takeG (v := undef) 16 rfl (by kernel_rfl) rfl rfl (hE3.ext hk4) (.inr ⟨fun a ha => wanted_no ha rfl rfl rfl rfl, rfl⟩) ?_
      refine WD.takeG (v := undef) 17 rfl (by kernel_rfl) rfl rfl (hE3.ext hk4) (.inr ⟨fun a ha => wanted_no ha rfl rfl rfl rfl, rfl⟩) ?_
      refine WD.skip 18 rfl (by kernel_rfl) (fun a ha => wanted_no ha rfl rfl rfl rfl) rfl rfl (hE3.ext hk4) ?_
      refine WD.takeG (v := undef) 19 rfl (by kernel_rfl) rfl rfl (hE3.ext hk4) (.inr ⟨fun a ha => wanted_no ha rfl rfl rfl rfl, rfl⟩) ?_
      refine WD.takeW 20 rfl (by kernel_rfl) rfl rfl rfl (fun w1 => R.pickT rfl rfl rfl) ?_
      refine WD.done (by kernel_rfl) ?_ _
      refine WX.meet (true) (Sub.cons rfl (Sub.cons rfl (Sub.cons rfl Sub.nil))) (⟨by simp, hE3.ext hk4⟩)
  rintro q w3 ⟨hq, hk3⟩
  show WX _ _ _ [(1, .slice ap path.length cp), (2, .pointer (some ⟨b, 0, none⟩)), (32, .bool q)] _
  have hE3 := hE2.ext hk3
  have hB3 := hk3.blk hB2 (fun h => h)
  refine WX.next ?_
  refine WC.bool rfl (fun hqt => ?_) (fun hqf => ?_)
  ·
    refine WC.seq (WC.region ?_)
    refine WO.op rfl rfl rfl (R.assign rfl) ?_
    refine WO.nil (WX.next (WC.ret (WX.thenR ?_)))
    refine WX.ret1 Try.results8 rfl ⟨_, rfl, rfl, hE3⟩
  · obtain ⟨hn12, hl1, hl60, r, hr, hc0⟩ := hq (by simpa using hqf)
    have hz := code_zero hc0
    obtain ⟨m, rfl⟩ := Int.eq_ofNat_of_zero_le (show 0 ≤ n by omega)
    obtain ⟨rt, rfl⟩ := Int.eq_ofNat_of_zero_le hz.2.1
    have hall := (Gr.check_zero hz.1).2.2.2
    refine WC.skip (WX.next (WC.seq (WC.seq (WC.region ?_))))
    refine WO.op rfl rfl rfl (R.assign rfl) ?_
    refine WO.nil (WX.next (WC.block ?_))
    refine WC.loop (σ := Nat) (fun i => [(1, .slice ap path.length cp), (2, .pointer (some ⟨b, 0, none⟩)), (5, .int .i64 ((i : Int) + 1))]) (fun i => fun w' => i + 1 ≤ path.length ∧ (∀ j x y, j < i → path[j]? = some x → path[j + 1]? = some y → (x, y) ∈ es) ∧ Ext w3 w') (fun i => path.length - i) (0) (Sub.cons rfl (Sub.cons rfl (Sub.cons rfl Sub.nil))) (⟨hl1, fun j x y h => absurd h (Nat.not_lt_zero _), Keep.refl _ _⟩) ?_
    rintro i w4 ⟨hi, hpr, hk4⟩
    show WC _ _ _ _ [(1, .slice ap path.length cp), (2, .pointer (some ⟨b, 0, none⟩)), (5, .int .i64 ((i : Int) + 1))] _
    refine WC.seq (WC.seq (WC.region ?_))
    refine WO.op rfl rfl rfl (R.move rfl) ?_
    refine WO.op rfl rfl rfl (R.move rfl) ?_
    refine WO.op rfl rfl rfl (R.lenS rfl Try.runUnderlying27 rfl) ?_
    refine WO.op rfl rfl rfl (R.lss rfl rfl) ?_
    refine WO.nil (WX.next ?_)
    refine WC.ite rfl (fun hlt => ?_) (fun hge => ?_)
    · obtain ⟨x, hx⟩ : ∃ x, path[i]? = some x := ⟨_, List.getElem?_eq_getElem (by omega)⟩
      obtain ⟨y, hy⟩ : ∃ y, path[i + 1]? = some y := ⟨_, List.getElem?_eq_getElem (by omega)⟩
      obtain ⟨b1, o1, c1, hao1, _, hcl1, hcs1, rfl⟩ := hpe i x hx
      obtain ⟨b2, o2, c2, hao2, _, hcl2, hcs2, rfl⟩ := hpe (i + 1) y hy
      have hE4 := hE3.ext hk4
      refine WC.skip (WX.next (WC.seq (WC.block (WC.seq ?_))))
      refine WC.draw (fun w' => Ext w4 w') [] (by kernel_rfl) (fun w5 hE5 hh5 => ?_)
      refine WD.takeW 0 rfl (by kernel_rfl) rfl rfl rfl (fun w1 => R.fieldAddr Try.runUnderlying24 rfl Try.sizeOf22 rfl) ?_
      refine WD.take 1 rfl (by kernel_rfl) rfl rfl rfl hE5 (fun w1 hw1 => R.load Try.isAgg22 rfl (((hk4.ext hw1).blk hB3 (fun h => h)).cells 1 _ rfl)) ?_
      refine WD.takeW 2 rfl (by kernel_rfl) rfl rfl rfl (fun w1 => R.move rfl) ?_
      refine WD.takeW 3 rfl (by kernel_rfl) rfl rfl rfl (fun w1 => R.move rfl) ?_
      refine WD.takeW 4 rfl (by kernel_rfl) rfl rfl rfl (fun w1 => R.sub rfl rfl (wrap_i64_in (by omega))) ?_
      refine WD.takeW 5 rfl (by kernel_rfl) rfl rfl rfl (fun w1 => R.indexS Try.runUnderlying27 Try.sizeOf3 rfl rfl hao1 (by omega)) ?_
      refine WD.take 6 rfl (by kernel_rfl) rfl rfl rfl hE5 (fun w1 hw1 => R.load Try.isAgg3 rfl (by rw [show o1 + ((i : Int) + 1 - 1).toNat * 1 = o1 + i * 1 + 0 from by omega]; exact (hE4.ext hw1).cells hcs1 (fun h => h) 0 _ rfl)) ?_
      refine WD.takeW 7 rfl (by kernel_rfl) rfl rfl rfl (fun w1 => R.move rfl) ?_
      refine WD.takeW 8 rfl (by kernel_rfl) rfl rfl rfl (fun w1 => R.move rfl) ?_
      refine WD.takeW 9 rfl (by kernel_rfl) rfl rfl rfl (fun w1 => R.indexS Try.runUnderlying27 Try.sizeOf3 rfl rfl hao2 (by omega)) ?_
      refine WD.take 10 rfl (by kernel_rfl) rfl rfl rfl hE5 (fun w1 hw1 => R.load Try.isAgg3 rfl (by rw [show o2 + ((i : Int) + 1).toNat * 1 = o2 + (i + 1) * 1 + 0 from by omega]; exact (hE4.ext hw1).cells hcs2 (fun h => h) 0 _ rfl)) ?_
      refine WD.takeW 11 rfl (by kernel_rfl) rfl rfl rfl (fun w1 => R.build (v := .agg #[.int .i64 x, .int .i64 y]) [(0, _), (1, _)] rfl (fun _ => by kernel_rfl)) ?_
      refine WD.call 12 rfl (by kernel_rfl) rfl rfl rfl (F.call (vs := [_, _]) Try.call25 rfl) (containsP_ok es (x, y) _ D w5 (hes.ext stable_pair (hE4.ext hE5))) ?_
      rintro _ w6 ⟨rfl, hk6⟩
      refine ⟨fun _ => hE5.ext hk6, ?_⟩
      refine WD.takeW 13 rfl (by kernel_rfl) rfl rfl rfl (fun w1 => R.notD rfl) ?_
      refine WD.done (by kernel_rfl) ?_ _
      refine WX.next ?_
      refine WC.ite rfl (fun hin => ?_) (fun hin => ?_)
      ·
        refine WC.seq (WC.region ?_)
        refine WO.op rfl rfl rfl (R.assign rfl) ?_
        refine WO.nil (WX.next (WC.ret (WX.blockR (WX.thenR (WX.thenR (WX.blockR (WX.thenR ?_)))))))
        refine WX.ret1 Try.results8 rfl ⟨_, rfl, rfl, (hE4.ext hE5).ext hk6⟩
      · have hin' : (x, y) ∈ es := Decidable.not_not.1 hin
        refine WC.skip (WX.blockN (WX.next (WC.region ?_)))
        refine WO.op rfl rfl rfl (R.move rfl) ?_
        refine WO.op rfl rfl rfl (R.add rfl rfl (wrap_i64_in (by omega))) ?_
        refine WO.op rfl rfl rfl (R.assign rfl) ?_
        refine WO.nil ?_
        rw [show ((i : Int) + 1 + 1) = ((i + 1 : Nat) : Int) + 1 from by omega]
        refine WX.back (i + 1) (Sub.cons rfl (Sub.cons rfl (Sub.cons rfl Sub.nil))) (⟨by omega, ?_, (hk4.ext hE5).ext hk6⟩) (by first | omega | (dsimp only; omega))
        intro j x' y' hj hx' hy'
        by_cases e : j = i
        · subst e
          rw [hx] at hx'; cases hx'
          rw [hy] at hy'; cases hy'
          exact hin'
        · exact hpr j x' y' (by omega) hx' hy'
    · have hpaths : ∀ j x y, path[j]? = some x → path[j + 1]? = some y → (x, y) ∈ es := fun j x y h1 h2 => hpr j x y (by have := (List.getElem?_eq_some_iff.1 h2).1; omega) h1 h2
      obtain ⟨b1, o1, c1, hao1, _, hcl1, hcs1, rfl⟩ := hpe 0 _ hr
      have hE4 := hE3.ext hk4
      have hB4 := hk4.blk hB3 (fun h => h)
      refine WC.exit (WX.thenE (WX.thenE (WX.hit (WX.next (WC.seq ?_)))))
      refine WC.draw (fun w' => Ext w4 w') [] (by kernel_rfl) (fun w5 hE5 hh5 => ?_)
      refine WD.take 0 rfl (by kernel_rfl) rfl rfl rfl hE5 (fun w1 hw1 => R.loadK Try.isAgg24 Try.sizeOf24 rfl (by rfl) (hw1.blk hB4 (fun h => h)).cells) ?_
      refine WD.takeW 1 rfl (by kernel_rfl) rfl rfl rfl (fun w1 => R.move rfl) ?_
      refine WD.takeW 2 rfl (by kernel_rfl) rfl rfl rfl (fun w1 => R.indexS Try.runUnderlying27 Try.sizeOf3 rfl rfl hao1 (by omega)) ?_
      refine WD.take 3 rfl (by kernel_rfl) rfl rfl rfl hE5 (fun w1 hw1 => R.load Try.isAgg3 rfl ((hE4.ext hw1).cells hcs1 (fun h => h) 0 _ rfl)) ?_
      refine WD.call 4 rfl (by kernel_rfl) rfl rfl rfl (F.call (vs := [_, _]) Try.call12 rfl) (tree_ok m rt es _ D w5 (hes.ext stable_pair (hE4.ext hE5))) ?_
      rintro _ w6 ⟨u, rfl, hu0, hu1, hk6⟩
      refine ⟨fun _ => hE5.ext hk6, ?_⟩
      refine WD.takeW 5 rfl (by kernel_rfl) rfl rfl rfl (fun w1 => R.move rfl) ?_
      refine WD.takeW 6 rfl (by kernel_rfl) rfl rfl rfl (fun w1 => R.extract rfl rfl) ?_
      refine WD.takeW 7 rfl (by kernel_rfl) rfl rfl rfl (fun w1 => R.extract rfl rfl) ?_
      refine WD.takeW 8 rfl (by kernel_rfl) rfl rfl rfl (fun w1 => R.assign rfl) ?_
      refine WD.takeW 9 rfl (by kernel_rfl) rfl rfl rfl (fun w1 => R.assign rfl) ?_
      refine WD.done (by kernel_rfl) ?_ _
      obtain ⟨Rw, order, pl, T, hK, hT⟩ := hu1 hc0
      simp only [Int.toNat_natCast] at hK
      have hTl := hK.sol.len
      have hT' := hT
      obtain ⟨at', ct, rfl, _⟩ := hT'
      have hE6 := (hE4.ext hE5).ext hk6
      have hB6 := (hE5.ext hk6).blk hB4 (fun h => h)
      rw [hc0]
      obtain ⟨last, hlast, hrl, havoid⟩ := path_at hK hall hr hpaths (path.length - 1) (by omega)
      obtain ⟨b3, o3, c3, hao3, _, hcl3, hcs3, rfl⟩ := hpe (path.length - 1) _ hlast
      refine WX.next (WC.seq (WC.seq (WC.region ?_)))
      refine WO.op rfl rfl rfl (R.move rfl) ?_
      refine WO.op rfl rfl rfl (R.neq rfl rfl) ?_
      refine WO.op rfl rfl rfl (R.move rfl) ?_
      refine WO.yes rfl rfl rfl ?_
      refine WO.op rfl rfl rfl (R.move rfl) ?_
      refine WO.yes rfl rfl rfl ?_
      refine WO.op rfl rfl rfl (R.lenS rfl Try.runUnderlying27 rfl) ?_
      refine WO.yes rfl rfl rfl ?_
      refine WO.op rfl rfl rfl (R.fieldAddr Try.runUnderlying24 rfl Try.sizeOf3 rfl) ?_
      refine WO.yes rfl rfl rfl ?_
      refine WO.op rfl rfl rfl (R.load Try.isAgg3 rfl (hB6.cells 0 _ rfl)) ?_
      refine WO.yes rfl rfl rfl ?_
      refine WO.op rfl rfl rfl (R.neq rfl rfl) ?_
      refine WO.op rfl rfl rfl (R.pickF rfl rfl rfl) ?_
      refine WO.nil (WX.next ?_)
      refine WC.ff rfl ((by simp [hTl])) ?_
      refine WC.skip (WX.next (WC.seq (WC.region ?_)))
      refine WO.op rfl rfl rfl (R.move rfl) ?_
      refine WO.op rfl rfl rfl (R.move rfl) ?_
      refine WO.op rfl rfl rfl (R.lenS rfl Try.runUnderlying27 rfl) ?_
      refine WO.op rfl rfl rfl (R.sub rfl rfl (wrap_i64_in (by omega))) ?_
      refine WO.op rfl rfl rfl (R.indexS Try.runUnderlying27 Try.sizeOf3 rfl rfl hao3 (by omega)) ?_
      refine WO.op rfl rfl rfl (R.load Try.isAgg3 rfl (by rw [show o3 + ((path.length : Int) - 1).toNat * 1 = o3 + (path.length - 1) * 1 + 0 from by omega]; exact hE6.cells hcs3 (fun h => h) 0 _ rfl)) ?_
      refine WO.op rfl rfl rfl (R.assign rfl) ?_
      refine WO.nil (WX.next (WC.seq (WC.seq (WC.region ?_))))
      refine WO.op rfl rfl rfl (R.fieldAddr Try.runUnderlying24 rfl Try.sizeOf3 rfl) ?_
      refine WO.op rfl rfl rfl (R.load Try.isAgg3 rfl (hB6.cells 0 _ rfl)) ?_
      refine WO.op rfl rfl rfl (R.move rfl) ?_
      refine WO.nil (WX.next (WC.block ?_))
      refine WC.loop (σ := Nat) (fun k => [(1, .slice ap path.length cp), (6, .slice at' T.length ct), (8, .int .i64 last), (77, .int .i64 m), (78, .int .i64 k)]) (fun k => fun w' => k ≤ m ∧ Ext w6 w') (fun k => m - k) (0) (Sub.cons rfl (Sub.cons rfl (Sub.cons rfl (Sub.cons rfl (Sub.cons rfl Sub.nil))))) (⟨Nat.zero_le _, Keep.refl _ _⟩) ?_
      rintro k w7 ⟨hkm, hk7⟩
      show WC _ _ _ _ [(1, .slice ap path.length cp), (6, .slice at' T.length ct), (8, .int .i64 last), (77, .int .i64 m), (78, .int .i64 k)] _
      refine WC.seq (WC.region ?_)
      refine WO.op rfl rfl rfl (R.lss rfl rfl) ?_
      refine WO.nil (WX.next (WC.seq ?_))
      refine WC.ite rfl (fun hkl => ?_) (fun hkg => ?_)
      ·
        refine WC.skip (WX.next (WC.seq (WC.block (WC.seq (WC.region ?_)))))
        refine WO.op rfl rfl rfl (R.move rfl) ?_
        refine WO.op rfl rfl rfl (R.assign rfl) ?_
        refine WO.nil (WX.next (WC.seq (WC.region ?_)))
        refine WO.op rfl rfl rfl (R.move rfl) ?_
        refine WO.op rfl rfl rfl (R.move rfl) ?_
        refine WO.op rfl rfl rfl (R.move rfl) ?_
        refine WO.call rfl rfl rfl (F.call (vs := [_, _, _]) Try.call23 rfl) (dominates_ok T k last _ _ w7 (hT.ext stable_int hk7)) ?_
        rintro _ w8 ⟨rfl, hk8⟩
        refine WO.op rfl rfl rfl (R.move rfl) ?_
        refine WO.cases (p := hits T k (T.length + 1) last = true) (fun hh => ?_) (fun hh => ?_)
        · have hmem : (k : Int) ∈ path := Classical.byContradiction (fun hn => (hits_dom hK k _ last hrl hh) _ (havoid k hn))
          refine WO.yes rfl rfl hh ?_
          refine WO.op rfl rfl rfl (R.move rfl) ?_
          refine WO.yes rfl rfl hh ?_
          refine WO.op rfl rfl rfl (R.move rfl) ?_
          refine WO.yes rfl rfl hh ?_
          refine WO.call rfl rfl rfl (F.call (vs := [_, _]) Try.call26 rfl) (containsI_ok path k _ D' w8 (hpv.ext stable_int ((hE6.ext hk7).ext hk8))) ?_
          rintro _ w9 ⟨rfl, hk9⟩
          refine WO.yes rfl rfl hh ?_
          refine WO.op rfl rfl rfl (R.notD rfl) ?_
          refine WO.op rfl rfl rfl (R.pickT rfl hh rfl) ?_
          refine WO.nil (WX.next ?_)
          refine WC.ff rfl ((by simp [hmem])) ?_
          refine WC.skip (WX.blockN (WX.next (WC.region ?_)))
          refine WO.op rfl rfl rfl (R.add rfl rfl (wrap_i64_in (by omega))) ?_
          refine WO.op rfl rfl rfl (R.move rfl) ?_
          refine WO.nil ?_
          refine WX.back (k + 1) (Sub.cons rfl (Sub.cons rfl (Sub.cons rfl (Sub.cons rfl (Sub.cons rfl Sub.nil))))) (⟨by omega, (hk7.ext hk8).ext hk9⟩) (by first | omega | (dsimp only; omega))
        · have hh' : hits T k (T.length + 1) last = false := by simpa using hh
          refine WO.no rfl rfl hh' rfl ?_
          refine WO.no rfl rfl hh' rfl ?_
          refine WO.no rfl rfl hh' rfl ?_
          refine WO.no rfl rfl hh' rfl ?_
          refine WO.op rfl rfl rfl (R.pickF rfl hh' rfl) ?_
          refine WO.nil (WX.next ?_)
          refine WC.ff rfl (rfl) ?_
          refine WC.skip (WX.blockN (WX.next (WC.region ?_)))
          refine WO.op rfl rfl rfl (R.add rfl rfl (wrap_i64_in (by omega))) ?_
          refine WO.op rfl rfl rfl (R.move rfl) ?_
          refine WO.nil ?_
          refine WX.back (k + 1) (Sub.cons rfl (Sub.cons rfl (Sub.cons rfl (Sub.cons rfl (Sub.cons rfl Sub.nil))))) (⟨by omega, hk7.ext hk8⟩) (by first | omega | (dsimp only; omega))
      · have hE7 := hE6.ext hk7
        refine WC.exit (WX.thenE (WX.thenE (WX.hit (WX.next (WC.seq (WC.region ?_))))))
        refine WO.op rfl rfl rfl (R.move rfl) ?_
        refine WO.op rfl rfl rfl (R.move rfl) ?_
        refine WO.op rfl rfl rfl (R.indexS Try.runUnderlying27 Try.sizeOf3 rfl rfl hao1 (by omega)) ?_
        refine WO.op rfl rfl rfl (R.load Try.isAgg3 rfl (hE7.cells hcs1 (fun h => h) 0 _ rfl)) ?_
        refine WO.op rfl rfl rfl (R.move rfl) ?_
        refine WO.call rfl rfl rfl (F.call (vs := [_, _, _]) Try.call23 rfl) (dominates_ok T rt last _ _ w7 (hT.ext stable_int hk7)) ?_
        rintro _ w8 ⟨rfl, hk8⟩
        have h1 : hits T rt (T.length + 1) last = true := hits_root hK _ _ hrl (by have := hK.placed hrl; omega)
        refine WO.op rfl rfl rfl (R.move rfl) ?_
        refine WO.yes rfl rfl h1 ?_
        refine WO.op rfl rfl rfl (R.move rfl) ?_
        refine WO.yes rfl rfl h1 ?_
        refine WO.op rfl rfl rfl (R.move rfl) ?_
        refine WO.yes rfl rfl h1 ?_
        refine WO.op rfl rfl rfl (R.move rfl) ?_
        refine WO.yes rfl rfl h1 ?_
        refine WO.call rfl rfl rfl (F.call (vs := [_, _, _]) Try.call23 rfl) (dominates_ok T last last _ _ w8 ((hT.ext stable_int hk7).ext stable_int hk8)) ?_
        rintro _ w9 ⟨rfl, hk9⟩
        refine WO.op rfl rfl rfl (R.pickT rfl h1 rfl) ?_
        refine WO.op rfl rfl rfl (R.assign rfl) ?_
        refine WO.nil (WX.next (WC.ret ?_))
        refine WX.ret1 Try.results8 rfl ⟨_, rfl, by rw [hits_self _ _ (by rw [hTl]; exact hK.lt hrl)], (hE7.ext hk8).ext hk9⟩
end Go.Proofs.Yteilalejfphkgaa
