/-
  dominance: Control and its comparison. Contracts; nothing here is a claim.
-/
import Derived.Test.YteilalejfphkgaaT13
namespace Go.GL
theorem R.sliceArr {P : Program} {env : Env} {w : World} {dst : Option Tmp} {ty : TypeId} {pos : String} {aft : Array Edge} {g : Option (Nat × Bool)} {t e : TypeId} {n k : Nat} {x : Operand} {b o : Nat} (hu : ∀ w, (underlying t).run P w = .ok (.array n e) w) (hs : ∀ w, (sizeOf e).run P w = .ok k w) (hx : ev env x = some (.pointer (some ⟨b, o, none⟩))) :
    Runs P ⟨dst, .slice t x none none none, ty, pos, aft, g⟩ env w (.slice (some ⟨b, o, none⟩) n n) w := by
  intro m a ha
  simp [execOp, ha.eval hx, Instr.sliceAt, Instr.sliceBounds, Instr.sureAddr, hu, hs, Addr.add]
end Go.GL
namespace Go.Proofs.Yteilalejfphkgaa
open Go.GL Go.GL.Dom Go.GL.Dfs

theorem isNaN_ok (a : Int) (w : World) : Calls Try.prog 71 #[.int .i64 a] w (Ret fun r w' => r = .bool false ∧ Ext w w') := by
  refine calls Try.func71 rfl [(0, .int .i64 a)] 6 ⟨Nat.le_of_ble_eq_true rfl, Try.ntmps71⟩ (argsOk (Sub.cons rfl Sub.nil)) ?_
  refine WC.seq (WC.region ?_)
  refine WO.op rfl rfl rfl (R.assign rfl) ?_
  refine WO.nil (WX.next (WC.seq (WC.region ?_)))
  refine WO.op rfl rfl rfl (R.move rfl) ?_
  refine WO.op rfl rfl rfl (R.move rfl) ?_
  refine WO.op rfl rfl rfl (R.neq rfl rfl) ?_
  refine WO.op rfl rfl rfl (R.assign rfl) ?_
  refine WO.nil (WX.next (WC.ret ?_))
  refine WX.ret1 Try.results71 rfl ⟨_, rfl, by simp, Keep.refl _ _⟩

theorem cmp_ok (a b : Int) (w : World) : Calls Try.prog 52 #[.int .i64 a, .int .i64 b] w (Ret fun r w' => r = .int .i64 (if a < b then -1 else if b < a then 1 else 0) ∧ Ext w w') := by
  refine calls Try.func52 rfl [(0, .int .i64 a), (1, .int .i64 b)] 20 ⟨Nat.le_of_ble_eq_true rfl, Try.ntmps52⟩ (argsOk (Sub.cons rfl (Sub.cons rfl Sub.nil))) ?_
  refine WC.seq (WC.region ?_)
  refine WO.op rfl rfl rfl (R.assign rfl) ?_
  refine WO.nil (WX.next (WC.seq (WC.region ?_)))
  refine WO.op rfl rfl rfl (R.move rfl) ?_
  refine WO.call rfl rfl rfl (F.call (vs := [_]) Try.call71 rfl) (isNaN_ok a w) ?_
  rintro _ w1 ⟨rfl, hk1⟩
  refine WO.op rfl rfl rfl (R.assign rfl) ?_
  refine WO.nil (WX.next (WC.seq (WC.region ?_)))
  refine WO.op rfl rfl rfl (R.move rfl) ?_
  refine WO.call rfl rfl rfl (F.call (vs := [_]) Try.call71 rfl) (isNaN_ok b w1) ?_
  rintro _ w2 ⟨rfl, hk2⟩
  refine WO.op rfl rfl rfl (R.assign rfl) ?_
  refine WO.nil (WX.next (WC.seq (WC.seq (WC.region ?_))))
  refine WO.op rfl rfl rfl (R.move rfl) ?_
  refine WO.nil (WX.next ?_)
  refine WC.ff rfl (rfl) ?_
  refine WC.skip (WX.next (WC.seq (WC.seq (WC.region ?_))))
  refine WO.op rfl rfl rfl (R.move rfl) ?_
  refine WO.nil (WX.next ?_)
  refine WC.ff rfl (rfl) ?_
  refine WC.skip (WX.next (WC.seq (WC.seq (WC.region ?_))))
  refine WO.op rfl rfl rfl (R.move rfl) ?_
  refine WO.op rfl rfl rfl (R.move rfl) ?_
  refine WO.op rfl rfl rfl (R.lss rfl rfl) ?_
  refine WO.nil (WX.next ?_)
  refine WC.ite rfl (fun h => ?_) (fun h => ?_)
  ·
    refine WC.seq (WC.region ?_)
    refine WO.op rfl rfl rfl (R.assign rfl) ?_
    refine WO.nil (WX.next (WC.ret (WX.thenR ?_)))
    refine WX.ret1 Try.results52 rfl ⟨_, rfl, by rw [if_pos h], hk1.ext hk2⟩
  ·
    refine WC.skip (WX.next (WC.seq (WC.seq (WC.region ?_))))
    refine WO.op rfl rfl rfl (R.move rfl) ?_
    refine WO.op rfl rfl rfl (R.move rfl) ?_
    refine WO.op rfl rfl rfl (R.gtr rfl rfl) ?_
    refine WO.nil (WX.next ?_)
    refine WC.ite rfl (fun h2 => ?_) (fun h2 => ?_)
    ·
      refine WC.seq (WC.region ?_)
      refine WO.op rfl rfl rfl (R.assign rfl) ?_
      refine WO.nil (WX.next (WC.ret (WX.thenR ?_)))
      refine WX.ret1 Try.results52 rfl ⟨_, rfl, by rw [if_neg h, if_pos h2], hk1.ext hk2⟩
    ·
      refine WC.skip (WX.next (WC.seq (WC.region ?_)))
      refine WO.op rfl rfl rfl (R.assign rfl) ?_
      refine WO.nil (WX.next (WC.ret ?_))
      refine WX.ret1 Try.results52 rfl ⟨_, rfl, by rw [if_neg h, if_neg (by omega)], hk1.ext hk2⟩

def cmpL : List Int → List Int → Int
  | [], [] => 0
  | [], _ :: _ => -1
  | _ :: _, [] => 1
  | x :: xs, y :: ys => if x < y then -1 else if y < x then 1 else cmpL xs ys

theorem compareL_ok (xs ys : List Int) (u v : Value) (D D' : Nat → Prop) (w : World) (hx : SlR 1 RInt D w u xs) (hy : SlR 1 RInt D' w v ys) : Calls Try.prog 35 #[u, v] w (Ret fun r w' => r = .int .i64 (cmpL xs ys) ∧ Ext w w') := by
  obtain ⟨ao, cx, rfl, hxc, hxm, hxe⟩ := hx
  obtain ⟨bo, cy, rfl, hyc, hym, hye⟩ := hy
  refine calls Try.func35 rfl [(0, .slice ao xs.length cx), (1, .slice bo ys.length cy)] 36 ⟨Nat.le_of_ble_eq_true rfl, Try.ntmps35⟩ (argsOk (Sub.cons rfl (Sub.cons rfl Sub.nil))) ?_
  refine WC.seq (WC.region ?_)
  refine WO.op rfl rfl rfl (R.assign rfl) ?_
  refine WO.nil (WX.next (WC.seq (WC.seq (WC.region ?_))))
  refine WO.op rfl rfl rfl (R.move rfl) ?_
  refine WO.op rfl rfl rfl (R.lenS rfl Try.runUnderlying27 rfl) ?_
  refine WO.op rfl rfl rfl (R.move rfl) ?_
  refine WO.nil (WX.next (WC.block ?_))
  refine WC.loop (σ := Nat) (fun k => [(0, .slice ao xs.length cx), (1, .slice bo ys.length cy), (9, .slice ao xs.length cx), (10, .int .i64 xs.length), (11, .int .i64 k)]) (fun k => fun w' => k ≤ xs.length ∧ k ≤ ys.length ∧ cmpL (xs.drop k) (ys.drop k) = cmpL xs ys ∧ Ext w w') (fun k => xs.length - k) (0) (Sub.cons rfl (Sub.cons rfl (Sub.cons rfl (Sub.cons rfl (Sub.cons rfl Sub.nil))))) (⟨Nat.zero_le _, Nat.zero_le _, rfl, Keep.refl _ _⟩) ?_
  rintro k w1 ⟨hkx, hky, hc, hk1⟩
  show WC _ _ _ _ [(0, .slice ao xs.length cx), (1, .slice bo ys.length cy), (9, .slice ao xs.length cx), (10, .int .i64 xs.length), (11, .int .i64 k)] _
  refine WC.seq (WC.region ?_)
  refine WO.op rfl rfl rfl (R.lss rfl rfl) ?_
  refine WO.nil (WX.next (WC.seq ?_))
  refine WC.ite rfl (fun hlt => ?_) (fun hge => ?_)
  · obtain ⟨x, hx⟩ : ∃ x, xs[k]? = some x := ⟨_, List.getElem?_eq_getElem (by omega)⟩
    obtain ⟨b1, o1, c1, hao, _, hcl1, hcs1, rfl⟩ := hxe k x hx
    have hdx : xs.drop k = x :: xs.drop (k + 1) := by
      obtain ⟨h1, h2⟩ := List.getElem?_eq_some_iff.1 hx
      rw [List.drop_eq_getElem_cons h1, h2]
    refine WC.skip (WX.next (WC.seq (WC.block (WC.seq (WC.region ?_)))))
    refine WO.op rfl rfl rfl (R.move rfl) ?_
    refine WO.op rfl rfl rfl (R.indexS Try.runUnderlying27 Try.sizeOf3 rfl rfl hao (by omega)) ?_
    refine WO.op rfl rfl rfl (R.load Try.isAgg3 rfl ((hk1.cells hcs1 (fun h => h)) 0 _ rfl)) ?_
    refine WO.op rfl rfl rfl (R.assign rfl) ?_
    refine WO.op rfl rfl rfl (R.assign rfl) ?_
    refine WO.nil (WX.next (WC.seq (WC.seq (WC.region ?_))))
    refine WO.op rfl rfl rfl (R.move rfl) ?_
    refine WO.op rfl rfl rfl (R.move rfl) ?_
    refine WO.op rfl rfl rfl (R.lenS rfl Try.runUnderlying27 rfl) ?_
    refine WO.op rfl rfl rfl (R.geq rfl rfl) ?_
    refine WO.nil (WX.next ?_)
    refine WC.ite rfl (fun hgy => ?_) (fun hly => ?_)
    · have : ys.drop k = [] := List.drop_of_length_le (by omega)
      refine WC.seq (WC.region ?_)
      refine WO.op rfl rfl rfl (R.assign rfl) ?_
      refine WO.nil (WX.next (WC.ret (WX.thenR (WX.blockR (WX.thenR (WX.thenR (WX.blockR (WX.thenR ?_))))))))
      refine WX.ret1 Try.results35 rfl ⟨_, rfl, by rw [← hc, hdx, this]; rfl, hk1⟩
    · obtain ⟨y, hy⟩ : ∃ y, ys[k]? = some y := ⟨_, List.getElem?_eq_getElem (by omega)⟩
      obtain ⟨b2, o2, c2, hbo, _, hcl2, hcs2, rfl⟩ := hye k y hy
      have hdy : ys.drop k = y :: ys.drop (k + 1) := by
        obtain ⟨h1, h2⟩ := List.getElem?_eq_some_iff.1 hy
        rw [List.drop_eq_getElem_cons h1, h2]
      have hcc : (if x < y then -1 else if y < x then 1 else cmpL (xs.drop (k + 1)) (ys.drop (k + 1))) = cmpL xs ys := by rw [← hc, hdx, hdy]; rfl
      refine WC.skip (WX.next (WC.seq (WC.region ?_)))
      refine WO.op rfl rfl rfl (R.move rfl) ?_
      refine WO.op rfl rfl rfl (R.move rfl) ?_
      refine WO.op rfl rfl rfl (R.indexS Try.runUnderlying27 Try.sizeOf3 rfl rfl hbo (by omega)) ?_
      refine WO.op rfl rfl rfl (R.load Try.isAgg3 rfl ((hk1.cells hcs2 (fun h => h)) 0 _ rfl)) ?_
      refine WO.op rfl rfl rfl (R.assign rfl) ?_
      refine WO.nil (WX.next (WC.seq (WC.region ?_)))
      refine WO.op rfl rfl rfl (R.move rfl) ?_
      refine WO.op rfl rfl rfl (R.move rfl) ?_
      refine WO.call rfl rfl rfl (F.call (vs := [_, _]) Try.call52 rfl) (cmp_ok x y w1) ?_
      rintro _ w2 ⟨rfl, hk2⟩
      refine WO.op rfl rfl rfl (R.assign rfl) ?_
      refine WO.nil (WX.next (WC.seq (WC.region ?_)))
      refine WO.op rfl rfl rfl (R.move rfl) ?_
      refine WO.op rfl rfl rfl (R.neq rfl rfl) ?_
      refine WO.nil (WX.next ?_)
      refine WC.ite rfl (fun hn => ?_) (fun he => ?_)
      ·
        refine WC.seq (WC.region ?_)
        refine WO.op rfl rfl rfl (R.move rfl) ?_
        refine WO.op rfl rfl rfl (R.assign rfl) ?_
        refine WO.nil (WX.next (WC.ret (WX.blockR (WX.thenR (WX.thenR (WX.blockR (WX.thenR ?_)))))))
        refine WX.ret1 Try.results35 rfl ⟨_, rfl, ?_, hk1.ext hk2⟩
        rw [← hcc]
        by_cases h1 : x < y
        · rw [if_pos h1, if_pos h1]
        · by_cases h2 : y < x
          · rw [if_neg h1, if_pos h2, if_neg h1, if_pos h2]
          · exact absurd (by rw [if_neg h1, if_neg h2]) hn
      · have h1 : ¬ x < y := fun h => he (by rw [if_pos h]; decide)
        have h2 : ¬ y < x := fun h => he (by rw [if_neg h1, if_pos h]; decide)
        rw [if_neg h1, if_neg h2] at hcc
        refine WC.skip (WX.blockN (WX.next (WC.region ?_)))
        refine WO.op rfl rfl rfl (R.add rfl rfl (wrap_i64_in (by omega))) ?_
        refine WO.op rfl rfl rfl (R.move rfl) ?_
        refine WO.nil ?_
        refine WX.back (k + 1) (Sub.cons rfl (Sub.cons rfl (Sub.cons rfl (Sub.cons rfl (Sub.cons rfl Sub.nil))))) (⟨by omega, by omega, hcc, hk1.ext hk2⟩) (by first | omega | (dsimp only; omega))
  · have hdx : xs.drop k = [] := List.drop_of_length_le (by omega)
    refine WC.exit (WX.thenE (WX.thenE (WX.hit (WX.next (WC.seq (WC.seq (WC.region ?_)))))))
    refine WO.op rfl rfl rfl (R.move rfl) ?_
    refine WO.op rfl rfl rfl (R.lenS rfl Try.runUnderlying27 rfl) ?_
    refine WO.op rfl rfl rfl (R.move rfl) ?_
    refine WO.op rfl rfl rfl (R.lenS rfl Try.runUnderlying27 rfl) ?_
    refine WO.op rfl rfl rfl (R.lss rfl rfl) ?_
    refine WO.nil (WX.next ?_)
    refine WC.ite rfl (fun hl2 => ?_) (fun hg2 => ?_)
    · obtain ⟨y, hy⟩ : ∃ y, ys[k]? = some y := ⟨_, List.getElem?_eq_getElem (by omega)⟩
      have hdy : ys.drop k = y :: ys.drop (k + 1) := by
        obtain ⟨h1, h2⟩ := List.getElem?_eq_some_iff.1 hy
        rw [List.drop_eq_getElem_cons h1, h2]
      refine WC.seq (WC.region ?_)
      refine WO.op rfl rfl rfl (R.assign rfl) ?_
      refine WO.nil (WX.next (WC.ret (WX.thenR ?_)))
      refine WX.ret1 Try.results35 rfl ⟨_, rfl, by rw [← hc, hdx, hdy]; rfl, hk1⟩
    · have hdy : ys.drop k = [] := List.drop_of_length_le (by omega)
      refine WC.skip (WX.next (WC.seq (WC.region ?_)))
      refine WO.op rfl rfl rfl (R.assign rfl) ?_
      refine WO.nil (WX.next (WC.ret ?_))
      refine WX.ret1 Try.results35 rfl ⟨_, rfl, by rw [← hc, hdx, hdy]; rfl, hk1⟩

theorem ctl_ok (x y : Int × Int) (w : World) : Calls Try.prog 34 #[.agg #[.int .i64 x.1, .int .i64 x.2], .agg #[.int .i64 y.1, .int .i64 y.2]] w (Ret fun r w' => r = .int .i64 (cmpL [x.1, x.2] [y.1, y.2]) ∧ Ext w w') := by
  refine calls Try.func34 rfl [(0, .agg #[.int .i64 x.1, .int .i64 x.2]), (1, .agg #[.int .i64 y.1, .int .i64 y.2])] 8 ⟨Nat.le_of_ble_eq_true rfl, Try.ntmps34⟩ (argsOk (Sub.cons rfl (Sub.cons rfl Sub.nil))) ?_
  refine WC.seq (WC.region ?_)
  refine WO.mem rfl rfl rfl (M.box rfl rfl) ?_
  rintro _ w1 ⟨b, rfl, hb, hs1, hB1, hk1⟩
  refine WO.mem rfl rfl rfl (M.box rfl rfl) ?_
  rintro _ w2 ⟨b', rfl, hb', hs2, hB2, hk2⟩
  refine WO.op rfl rfl rfl (R.assign rfl) ?_
  refine WO.nil (WX.next (WC.seq ?_))
  refine WC.draw (fun _ => True) [] (by kernel_rfl) (fun w3 hE3 hh3 => ?_)
  have hX := hE3.blk (hk2.blk hB1 (fun h => h)) (fun h => h)
  have hY := hE3.blk hB2 (fun h => h)
  refine WD.takeW 0 rfl (by kernel_rfl) rfl rfl rfl (fun w1 => R.sliceArr Try.runUnderlying49 Try.sizeOf3 rfl) ?_
  refine WD.takeW 1 rfl (by kernel_rfl) rfl rfl rfl (fun w1 => R.sliceArr Try.runUnderlying49 Try.sizeOf3 rfl) ?_
  refine WD.call 2 rfl (by kernel_rfl) rfl rfl rfl (F.call (vs := [_, _]) Try.call35 rfl) (compareL_ok [x.1, x.2] [y.1, y.2] _ _ (fun _ => True) (fun _ => True) w3 (SlR.ofBlk1 (n := 2) (cap := 2) (.int .i64) (fun _ _ => rfl) hX trivial rfl rfl (Nat.le_refl 2) (by decide)) (SlR.ofBlk1 (n := 2) (cap := 2) (.int .i64) (fun _ _ => rfl) hY trivial rfl rfl (Nat.le_refl 2) (by decide))) ?_
  rintro _ w4 ⟨rfl, hk4⟩
  refine ⟨fun _ => trivial, ?_⟩
  refine WD.takeW 3 rfl (by kernel_rfl) rfl rfl rfl (fun w1 => R.assign rfl) ?_
  refine WD.done (by kernel_rfl) ?_ _
  refine WX.next (WC.ret ?_)
  refine WX.ret1 Try.results34 rfl ⟨_, rfl, rfl, ((hk1.ext hk2).ext hE3).ext hk4⟩

theorem cmpL_lt (x y : Int × Int) : cmpL [x.1, x.2] [y.1, y.2] < 0 ↔ lexLt x y := by
  unfold lexLt
  simp only [cmpL]
  split
  · omega
  · split
    · omega
    · split
      · omega
      · split <;> omega

/-- The pairs of control dependence that have been found. -/
structure Pairs (Rw : List (List Int)) (root n k j : Nat) (r : List Int) (acc : List (Int × Int)) : Prop where
  mem : ∀ e, e ∈ acc ↔ ∃ x b : Nat, e = ((b : Int), (x : Int)) ∧ ((x < k ∧ Front Rw root x b) ∨ (x = k ∧ (b : Int) ∈ r.take j))
  nodup : acc.Nodup
  short : acc.length ≤ k * n + j

theorem Pairs.push {Rw : List (List Int)} {root n k j : Nat} {r : List Int} {acc : List (Int × Int)} {b : Nat} (h : Pairs Rw root n k j r acc) (hs : r.Pairwise (· < ·)) (hb : r[j]? = some (b : Int)) : Pairs Rw root n k (j + 1) r (acc ++ [((b : Int), (k : Int))]) := by
  obtain ⟨hj, hje⟩ := List.getElem?_eq_some_iff.1 hb
  have htk : ∀ y, y ∈ r.take (j + 1) ↔ y ∈ r.take j ∨ y = (b : Int) := by
    intro y
    rw [List.take_succ_eq_append_getElem hj, List.mem_append, List.mem_singleton, hje]
  have hnew : (b : Int) ∉ r.take j := by
    intro h7
    obtain ⟨i, hi, hi2⟩ := List.mem_iff_getElem.1 h7
    rw [List.length_take] at hi
    rw [List.getElem_take] at hi2
    have := List.pairwise_iff_getElem.1 hs i j (by omega) hj (by omega)
    omega
  refine ⟨fun e => ?_, ?_, by have := h.short; rw [List.length_append, List.length_singleton]; omega⟩
  · rw [List.mem_append, List.mem_singleton, h.mem]
    constructor
    · rintro (⟨x, c, h1, h2 | ⟨h2, h3⟩⟩ | rfl)
      · exact ⟨x, c, h1, .inl h2⟩
      · exact ⟨x, c, h1, .inr ⟨h2, (htk _).2 (.inl h3)⟩⟩
      · exact ⟨k, b, rfl, .inr ⟨rfl, (htk _).2 (.inr rfl)⟩⟩
    · rintro ⟨x, c, h1, h2 | ⟨h2, h3⟩⟩
      · exact .inl ⟨x, c, h1, .inl h2⟩
      · rcases (htk _).1 h3 with h4 | h4
        · exact .inl ⟨x, c, h1, .inr ⟨h2, h4⟩⟩
        · rw [h4, h2] at h1; exact .inr h1
  · rw [List.nodup_append]
    refine ⟨h.nodup, by simp, ?_⟩
    intro a ha c hc
    rw [List.mem_singleton] at hc
    rintro rfl
    obtain ⟨x, d, h1, h2 | ⟨_, h3⟩⟩ := (h.mem _).1 ha
    · rw [hc] at h1
      simp at h1
      have := h1.2
      omega
    · rw [hc] at h1
      simp at h1
      have h4 := h1.1
      rw [← h4] at h3
      exact hnew h3
theorem Pairs.next {Rw : List (List Int)} {root n k : Nat} {r : List Int} {acc : List (Int × Int)} (h : Pairs Rw root n k r.length r acc) (hr : ∀ y : Int, y ∈ r ↔ ∃ b : Nat, y = (b : Int) ∧ Front Rw root k b) (hl : r.length ≤ n) (r' : List Int) : Pairs Rw root n (k + 1) 0 r' acc := by
  refine ⟨fun e => ?_, h.nodup, ?_⟩
  · rw [h.mem, List.take_length]
    constructor
    · rintro ⟨x, b, h1, ⟨h2, h3⟩ | ⟨h2, h3⟩⟩
      · exact ⟨x, b, h1, .inl ⟨by omega, h3⟩⟩
      · obtain ⟨c, h4, h5⟩ := (hr _).1 h3
        have := Int.ofNat.inj h4
        subst this
        subst h2
        exact ⟨x, b, h1, .inl ⟨by omega, h5⟩⟩
    · rintro ⟨x, b, h1, ⟨h2, h3⟩ | ⟨_, h3⟩⟩
      · by_cases e' : x = k
        · subst e'
          exact ⟨x, b, h1, .inr ⟨rfl, (hr _).2 ⟨b, rfl, h3⟩⟩⟩
        · exact ⟨x, b, h1, .inl ⟨by omega, h3⟩⟩
      · simp at h3
  · have := h.short
    have h2 : (k + 1) * n = k * n + n := Nat.succ_mul k n
    omega
theorem Pairs.start (Rw : List (List Int)) (root n : Nat) (r : List Int) : Pairs Rw root n 0 0 r [] := by
  refine ⟨fun e => ?_, List.nodup_nil, Nat.zero_le _⟩
  constructor
  · intro h; cases h
  · rintro ⟨x, b, _, ⟨h, _⟩ | ⟨_, h⟩⟩
    · exact absurd h (Nat.not_lt_zero _)
    · simp at h

/-- All pairs, sorted. -/
structure CtlList (Rw : List (List Int)) (root : Nat) (S : List (Int × Int)) : Prop where
  sorted : S.Pairwise lexLt
  mem : ∀ e, e ∈ S ↔ ∃ x b : Nat, e = ((b : Int), (x : Int)) ∧ Front Rw root x b

theorem _root_.Go.GL.Dom.Dom.reach {R : List (List Int)} {root x a : Nat} (h : Dom R root x a) (ha : Dfs.Reach R root a) : Dfs.Reach R root x := by
  have h1 : (∃ k, AvN R root x k a) ∨ Dfs.Reach R root x := by
    induction ha with
    | refl =>
      by_cases e : root = x
      · subst e; exact .inr .refl
      · exact .inl ⟨0, .start e⟩
    | @step a b ha' he ih =>
      by_cases e : b = x
      · subst e; exact .inr (.step ha' he)
      · by_cases hr : ∃ k, AvN R root x k a
        · obtain ⟨k, hk⟩ := hr
          exact .inl ⟨k + 1, .step hk he e⟩
        · exact .inr (by
            rcases ih (fun k hk => hr ⟨k, hk⟩) with h2 | h2
            · exact absurd h2 hr
            · exact h2)
  rcases h1 with ⟨k, hk⟩ | h1
  · exact absurd hk (h k)
  · exact h1

theorem control_ok (n root : Int) (es : List (Int × Int)) (ev : Value) (D : Nat → Prop) (w : World) (hes : SlR 2 RPair D w ev es) (hsm : n ≤ 1000) : Calls Try.prog 19 #[.agg #[.int .i64 n, ev], .int .i64 root] w (Ret fun v w' => ∃ u, v = .tuple #[u, .int .i64 (codeOf n es root)] ∧ (codeOf n es root ≠ 0 → u = .slice none 0 0) ∧ (codeOf n es root = 0 → ∃ s Rw order pl T S, Turned es s ∧ Known n.toNat root.toNat s Rw order pl T ∧ CtlList Rw root.toNat S ∧ SlR 2 RPair (fun b => w.heap.size ≤ b) w' u S) ∧ Ext w w') := by
  have hes' := hes
  obtain ⟨ao, cap, rfl, _⟩ := hes'
  refine calls Try.func19 rfl [(0, .agg #[.int .i64 n, .slice ao es.length cap]), (1, .int .i64 root)] 47 ⟨Nat.le_of_ble_eq_true rfl, Try.ntmps19⟩ (argsOk (Sub.cons rfl (Sub.cons rfl Sub.nil))) ?_
  refine WC.seq (WC.region ?_)
  refine WO.mem rfl rfl rfl (M.box rfl rfl) ?_
  rintro _ w1 ⟨b, rfl, hb, hs1, hB1, hk1⟩
  refine WO.op rfl rfl rfl (R.assign rfl) ?_
  refine WO.op rfl rfl rfl (R.assign rfl) ?_
  refine WO.nil (WX.next (WC.seq (WC.region ?_)))
  refine WO.op rfl rfl rfl (R.loadK Try.isAgg24 Try.sizeOf24 rfl (by rfl) hB1.cells) ?_
  refine WO.op rfl rfl rfl (R.move rfl) ?_
  refine WO.call rfl rfl rfl (F.call (vs := [_, _]) Try.call32 rfl) (backwards_ok n root es _ D w1 (hes.ext stable_pair hk1)) ?_
  rintro _ w2 ⟨u, rfl, hu0, hu1, hk2⟩
  have hE2 := hk1.ext hk2
  refine WO.op rfl rfl rfl (R.move rfl) ?_
  refine WO.op rfl rfl rfl (R.extract rfl rfl) ?_
  refine WO.op rfl rfl rfl (R.extract rfl rfl) ?_
  refine WO.op rfl rfl rfl (R.assign rfl) ?_
  refine WO.op rfl rfl rfl (R.assign rfl) ?_
  refine WO.nil (WX.next (WC.seq (WC.seq (WC.region ?_))))
  refine WO.op rfl rfl rfl (R.move rfl) ?_
  refine WO.op rfl rfl rfl (R.neq rfl rfl) ?_
  refine WO.nil (WX.next ?_)
  refine WC.ite rfl (fun hc => ?_) (fun hc => ?_)
  ·
    refine WC.seq (WC.region ?_)
    refine WO.op rfl rfl rfl (R.move rfl) ?_
    refine WO.op rfl rfl rfl (R.assign rfl) ?_
    refine WO.op rfl rfl rfl (R.assign rfl) ?_
    refine WO.nil (WX.next (WC.ret (WX.thenR ?_)))
    refine WX.ret2 Try.results19 rfl rfl ⟨_, rfl, .slice none 0 0, rfl, fun _ => rfl, fun h => absurd h hc, hE2⟩
  · have hc0 : codeOf n es root = 0 := by simpa using hc
    obtain ⟨s, bw, Rw, Pw, order, pl, T, nv, bv, ov, bp, bt, hs, rfl, hp⟩ := hu1 hc0
    obtain ⟨m, rfl⟩ := Int.eq_ofNat_of_zero_le (show 0 ≤ n from by have := code_zero hc0; omega)
    obtain ⟨rt, rfl⟩ := Int.eq_ofNat_of_zero_le (show 0 ≤ root from by have := code_zero hc0; omega)
    simp only [Int.toNat_natCast] at hp
    refine WC.skip (WX.next (WC.seq (WC.region ?_)))
    refine WO.op rfl rfl rfl (R.assign rfl) ?_
    refine WO.nil (WX.next (WC.seq (WC.seq (WC.region ?_))))
    refine WO.op rfl rfl rfl (R.move rfl) ?_
    refine WO.call rfl rfl rfl (F.call (vs := [_]) Try.call31 rfl) (frontiers_ok w2 hp (by omega)) ?_
    rintro u w3 ⟨Fr, hF, hu, hk3⟩
    obtain ⟨fa, fc, rfl, hfl, hfm, hfe⟩ := hu
    have hFl := hF.len
    have hE3 := hE2.ext hk3
    have hshort : ∀ (x : Nat) r, Fr[x]? = some r → r.length ≤ m := by
      intro x r hr
      have h1 := nodup_le m (r.map Int.toNat) (by
        rw [List.Nodup, List.pairwise_map]
        refine (hF.sorted x r hr).imp_of_mem ?_
        intro p q hp' hq hpq
        obtain ⟨p, rfl, _⟩ := (hF.mem x r hr _).1 hp'
        obtain ⟨q, rfl, _⟩ := (hF.mem x r hr _).1 hq
        omega) (by
        intro y hy
        obtain ⟨z, hz, rfl⟩ := List.mem_map.1 hy
        obtain ⟨c, rfl, d, h1, h2, _⟩ := (hF.mem x r hr _).1 hz
        have := (Dfs.Reach.step h1 h2).lt hp.rows (by rw [hp.succ.len]; exact hp.hroot)
        rw [hp.succ.len] at this
        omega)
      rwa [List.length_map] at h1
    have hmm : m * m ≤ 1000 * 1000 := Nat.mul_le_mul (by omega) (by omega)
    refine WO.op rfl rfl rfl (R.lenS rfl Try.runUnderlying35 rfl) ?_
    refine WO.op rfl rfl rfl (R.move rfl) ?_
    refine WO.nil (WX.next (WC.block ?_))
    refine WC.loop (σ := Nat × List (Int × Int) × Value) (fun ⟨k, acc, va⟩ => [(23, .slice fa Fr.length fc), (24, .int .i64 Fr.length), (25, .int .i64 k), (8, va)]) (fun ⟨k, acc, va⟩ => fun w' => k ≤ Fr.length ∧ Pairs Rw rt m k 0 [] acc ∧ w'.ownsRow 0 49 2 va acc.length (acc.flatMap encP) ∧ (∀ g, va.ownBlock = some g → w3.heap.size ≤ g) ∧ Ext w3 w') (fun ⟨k, acc, va⟩ => Fr.length - k) ((0, [], .slice none 0 0)) (Sub.cons rfl (Sub.cons rfl (Sub.cons rfl (Sub.cons rfl Sub.nil)))) (⟨Nat.zero_le _, Pairs.start .., own_nil _ _ _, fun g hg => by simp [Value.ownBlock] at hg, Keep.refl _ _⟩) ?_
    rintro ⟨k, acc, va⟩ w4 ⟨hkl, hP, hown, hfr, hk4⟩
    show WC _ _ _ _ [(23, .slice fa Fr.length fc), (24, .int .i64 Fr.length), (25, .int .i64 k), (8, va)] _
    refine WC.seq (WC.region ?_)
    refine WO.op rfl rfl rfl (R.lss rfl rfl) ?_
    refine WO.nil (WX.next (WC.seq ?_))
    refine WC.ite rfl (fun hlt => ?_) (fun hge => ?_)
    · obtain ⟨r, hr⟩ : ∃ r, Fr[k]? = some r := ⟨_, List.getElem?_eq_getElem (by omega)⟩
      obtain ⟨b1, o1, cs1, hfa, _, _, hcs, hRs⟩ := hfe k r hr
      obtain ⟨rv1, rfl, ra, rc, rfl, hrlc, hrcm, hrel⟩ := hRs
      have hcs4 := hk4.cells hcs (fun h => h)
      have hrm := hshort k r hr
      have hkm : (k + 1) * m ≤ m * m := Nat.mul_le_mul_right _ (by omega)
      have hk1m : (k + 1) * m = k * m + m := Nat.succ_mul k m
      refine WC.skip (WX.next (WC.seq (WC.block (WC.seq (WC.region ?_)))))
      refine WO.op rfl rfl rfl (R.move rfl) ?_
      refine WO.op rfl rfl rfl (R.indexS Try.runUnderlying35 Try.sizeOf27 rfl rfl hfa (by omega)) ?_
      refine WO.op rfl rfl rfl (R.load Try.isAgg27 rfl (hcs4 0 _ rfl)) ?_
      refine WO.op rfl rfl rfl (R.assign rfl) ?_
      refine WO.op rfl rfl rfl (R.assign rfl) ?_
      refine WO.nil (WX.next (WC.seq (WC.region ?_)))
      refine WO.op rfl rfl rfl (R.move rfl) ?_
      refine WO.op rfl rfl rfl (R.lenS rfl Try.runUnderlying27 rfl) ?_
      refine WO.op rfl rfl rfl (R.move rfl) ?_
      refine WO.nil (WX.next (WC.block ?_))
      refine WC.loop (σ := Nat × List (Int × Int) × Value) (fun ⟨j, acc, va⟩ => [(23, .slice fa Fr.length fc), (24, .int .i64 Fr.length), (25, .int .i64 k), (8, va), (9, .int .i64 k), (30, .slice ra r.length rc), (31, .int .i64 r.length), (32, .int .i64 j)]) (fun ⟨j, acc, va⟩ => fun w' => j ≤ r.length ∧ Pairs Rw rt m k j r acc ∧ w'.ownsRow 0 49 2 va acc.length (acc.flatMap encP) ∧ (∀ g, va.ownBlock = some g → w3.heap.size ≤ g) ∧ Ext w3 w') (fun ⟨j, acc, va⟩ => r.length - j) ((0, acc, va)) (Sub.cons rfl (Sub.cons rfl (Sub.cons rfl (Sub.cons rfl (Sub.cons rfl (Sub.cons rfl (Sub.cons rfl (Sub.cons rfl Sub.nil)))))))) (⟨Nat.zero_le _, ⟨fun e => by rw [hP.mem]; simp, hP.nodup, hP.short⟩, hown, hfr, hk4⟩) ?_
      rintro ⟨j, acc, va⟩ w5 ⟨hjr, hP5, hown5, hfr5, hk5⟩
      show WC _ _ _ _ [(23, .slice fa Fr.length fc), (24, .int .i64 Fr.length), (25, .int .i64 k), (8, va), (9, .int .i64 k), (30, .slice ra r.length rc), (31, .int .i64 r.length), (32, .int .i64 j)] _
      refine WC.seq (WC.region ?_)
      refine WO.op rfl rfl rfl (R.lss rfl rfl) ?_
      refine WO.nil (WX.next (WC.seq ?_))
      refine WC.ite rfl (fun hjl => ?_) (fun hjg => ?_)
      · obtain ⟨y, hy⟩ : ∃ y, r[j]? = some y := ⟨_, List.getElem?_eq_getElem (by omega)⟩
        obtain ⟨c, rfl, _⟩ := (hF.mem k r hr y).1 (List.mem_of_getElem? hy)
        obtain ⟨be, oe, ce, hra, _, hcel, hce, rfl⟩ := hrel j _ hy
        have hce5 := hk5.cells hce (fun h => h)
        have hsz := hP5.short
        refine WC.skip (WX.next (WC.seq (WC.block (WC.seq (WC.region ?_)))))
        refine WO.op rfl rfl rfl (R.indexS Try.runUnderlying27 Try.sizeOf3 rfl rfl hra (by omega)) ?_
        refine WO.op rfl rfl rfl (R.load Try.isAgg3 rfl (hce5 0 _ rfl)) ?_
        refine WO.op rfl rfl rfl (R.assign rfl) ?_
        refine WO.nil (WX.next (WC.region ?_))
        refine WO.op rfl rfl rfl (R.move rfl) ?_
        refine WO.op rfl rfl rfl (R.move rfl) ?_
        refine WO.op rfl rfl rfl (R.move rfl) ?_
        refine WO.op rfl rfl rfl (R.build (v := .agg #[.int .i64 c, .int .i64 k]) [(0, _), (1, _)] rfl (fun _ => by kernel_rfl)) ?_
        refine WO.mem rfl rfl rfl (M.buildSlice (cs := encP ((c : Int), (k : Int))) [(0, _)] Try.runUnderlying22 Try.sizeOf49 Try.zeroValue49 (by decide) rfl (by kernel_rfl)) ?_
        rintro _ w6 ⟨b6, rfl, hb6, hs6, hB6, hk6⟩
        have hown6 := own_keep hown5 hk6 (fun _ _ h => h)
        refine WO.mem rfl rfl rfl (M.append Try.underlying22 Try.el49 rfl (by decide) rfl rfl hown6 rfl (Cells.add hB6.cells) (encP_one _) (by omega) (by omega)) ?_
        rintro va' w7 ⟨hown7, hfr7, hk7, _⟩
        have hsz3 := hk5.size
        refine WO.op rfl rfl rfl (R.assign rfl) ?_
        refine WO.nil (WX.blockN (WX.next (WC.region ?_)))
        refine WO.op rfl rfl rfl (R.add rfl rfl (wrap_i64_in (by omega))) ?_
        refine WO.op rfl rfl rfl (R.move rfl) ?_
        refine WO.nil ?_
        refine WX.back ((j + 1, acc ++ [((c : Int), (k : Int))], va')) (Sub.cons rfl (Sub.cons rfl (Sub.cons rfl (Sub.cons rfl (Sub.cons rfl (Sub.cons rfl (Sub.cons rfl (Sub.cons rfl Sub.nil)))))))) (⟨by omega, hP5.push (hF.sorted k r hr) hy, ?_, ?_, ?_⟩) (by first | omega | (dsimp only; omega))
        · rw [List.length_append, List.flatMap_append]
          simpa using hown7
        · intro g hg
          rcases hfr7 with h1 | ⟨g', h1, h2⟩
          · rw [h1] at hg; exact hfr5 g hg
          · rw [h1] at hg; cases hg; have := hk6.size; omega
        · exact (hk5.ext hk6).trans hk7 (fun q hq h => by have := hfr5 q h; omega)
      · have hjr' : j = r.length := by omega
        subst hjr'
        refine WC.exit (WX.thenE (WX.thenE (WX.hit (WX.blockN (WX.next (WC.region ?_))))))
        refine WO.op rfl rfl rfl (R.add rfl rfl (wrap_i64_in (by omega))) ?_
        refine WO.op rfl rfl rfl (R.move rfl) ?_
        refine WO.nil ?_
        refine WX.back ((k + 1, acc, va)) (Sub.cons rfl (Sub.cons rfl (Sub.cons rfl (Sub.cons rfl Sub.nil)))) (⟨by omega, hP5.next (hF.mem k r hr) hrm [], hown5, hfr5, hk5⟩) (by first | omega | (dsimp only; omega))
    · have hk' : k = Fr.length := by omega
      subst hk'
      have hlt' : ∀ x b, Front Rw rt x b → x < m ∧ b < m := by
        rintro x b ⟨a, h1, h2, h3, _⟩
        have h4 : Rw.length = m := hp.succ.len
        have h5 : rt < Rw.length := by rw [h4]; exact hp.hroot
        exact ⟨by rw [← h4]; exact (h3.reach h1).lt hp.rows h5, by rw [← h4]; exact (Dfs.Reach.step h1 h2).lt hp.rows h5⟩
      have hmemF : ∀ e, e ∈ acc ↔ ∃ x b : Nat, e = ((b : Int), (x : Int)) ∧ Front Rw rt x b := by
        intro e
        rw [hP.mem]
        constructor
        · rintro ⟨x, b, h1, ⟨_, h2⟩ | ⟨_, h2⟩⟩
          · exact ⟨x, b, h1, h2⟩
          · simp at h2
        · rintro ⟨x, b, h1, h2⟩
          refine ⟨x, b, h1, .inl ⟨?_, h2⟩⟩
          rw [hFl]
          exact hlt' x b h2 |>.1
      have hlen : acc.length ≤ 1048576 := by
        have h1 := hP.short
        rw [hFl] at h1
        omega
      have hbd : ∀ e ∈ acc, bd e := by
        intro e he
        obtain ⟨x, b, rfl, h1⟩ := (hmemF e).1 he
        have := hlt' x b h1
        unfold bd
        dsimp only
        omega
      refine WC.exit (WX.thenE (WX.thenE (WX.hit (WX.next (WC.seq (WC.region ?_))))))
      refine WO.op rfl rfl rfl (R.move rfl) ?_
      refine WO.call rfl rfl rfl (F.call (vs := [_, _]) Try.call33 rfl) (sortP_ok 34 Try.call34 (fun x y => cmpL [x.1, x.2] [y.1, y.2]) (fun x y W _ _ => ctl_ok x y W) (fun x y _ _ => cmpL_lt x y) acc hbd hlen va acc.length w4 hown) ?_
      rintro _ w5 ⟨rfl, S, hperm, hsrt, hown5, hk5⟩
      refine WO.nil (WX.next (WC.seq (WC.region ?_)))
      refine WO.op rfl rfl rfl (R.move rfl) ?_
      refine WO.op rfl rfl rfl (R.assign rfl) ?_
      refine WO.op rfl rfl rfl (R.assign rfl) ?_
      refine WO.nil (WX.next (WC.ret ?_))
      have hsz3 := hE3.size
      have hk35 : Ext w3 w5 := hk4.trans hk5 (fun q hq h => by have := hfr q h; omega)
      obtain ⟨av, cv, rfl⟩ := own_form hown5
      rw [hc0]
      refine WX.ret2 Try.results19 rfl rfl ⟨_, rfl, .slice av acc.length cv, rfl, fun h => absurd rfl h, fun _ => ⟨s, Rw, order, pl, T, S, hs, hp.known, ⟨?_, ?_⟩, ?_⟩, hE3.ext hk35⟩
      · have hnd : S.Nodup := (hperm.nodup_iff).2 hP.nodup
        have h1 : S.Pairwise (fun a b => ¬ lexLt b a ∧ a ≠ b) := by
          rw [List.pairwise_iff_getElem] at hsrt ⊢
          intro i j hi hj hij
          exact ⟨hsrt i j hi hj hij, fun h => by have := (List.getElem_inj hnd).1 h; omega⟩
        refine h1.imp ?_
        rintro ⟨a1, a2⟩ ⟨b1, b2⟩ ⟨h2, h3⟩
        unfold lexLt at h2 ⊢
        simp at h2 h3 ⊢
        omega
      · intro e
        rw [hperm.mem_iff]
        exact hmemF e
      · exact SlR.ofRowK (by decide) encP encP_len (fun _ _ => rfl) hown5 (fun g hg => by have := hfr g hg; omega)
end Go.Proofs.Yteilalejfphkgaa
