/-
  The law DominanceIterated: walk. Nothing here is a claim.
-/
import Derived.Test.YteilalejfphkgaaT27
namespace Go.Proofs.Yteilalejfphkgaa
open Go.GL Go.GL.Dom Go.GL.Dfs

/-- The marked numbers below k, in ascending order. -/
def marked (ins : List Bool) (k : Nat) : List Int := ((List.range k).filter (fun b => ins[b]? == some true)).map (fun (b : Nat) => (b : Int))
theorem marked_yes {ins : List Bool} {k : Nat} (h : ins[k]? = some true) : marked ins (k + 1) = marked ins k ++ [(k : Int)] := by
  unfold marked
  rw [List.range_succ, List.filter_append, List.map_append]
  simp [h]
theorem marked_no {ins : List Bool} {k : Nat} (h : ins[k]? = some false) : marked ins (k + 1) = marked ins k := by
  unfold marked
  rw [List.range_succ, List.filter_append, List.map_append]
  simp [h]
theorem marked_mem {ins : List Bool} {k : Nat} (y : Int) : y ∈ marked ins k ↔ ∃ b : Nat, y = (b : Int) ∧ b < k ∧ ins[b]? = some true := by
  unfold marked
  simp only [List.mem_map, List.mem_filter, List.mem_range, beq_iff_eq]
  constructor
  · rintro ⟨b, ⟨h1, h2⟩, rfl⟩; exact ⟨b, rfl, h1, h2⟩
  · rintro ⟨b, rfl, h1, h2⟩; exact ⟨b, ⟨h1, h2⟩, rfl⟩
theorem marked_len {ins : List Bool} {k : Nat} : (marked ins k).length ≤ k := by
  unfold marked
  rw [List.length_map]
  exact Nat.le_trans (List.length_filter_le _ _) (by simp)
theorem marked_sorted {ins : List Bool} {k : Nat} : (marked ins k).Pairwise (· < ·) := by
  unfold marked
  rw [List.pairwise_map]
  exact (List.Pairwise.filter _ (List.pairwise_lt_range)).imp (fun h => by omega)

theorem lawIterated_ok (n root : Int) (es : List (Int × Int)) (nodes : List Int) (ev nv : Value) (D D' : Nat → Prop) (w : World) (hes : SlR 2 RPair D w ev es) (hnv : SlR 1 RInt D' w nv nodes) : Calls Try.prog 9 #[.agg #[.int .i64 n, ev], .int .i64 root, nv] w (Ret fun r w' => r = .bool true ∧ Ext w w') := by
  have hes' := hes
  obtain ⟨ao, cap, rfl, _⟩ := hes'
  have hnv' := hnv
  obtain ⟨an, cn, rfl, hnlc, hncm, hnel⟩ := hnv'
  refine calls Try.func9 rfl [(0, .agg #[.int .i64 n, .slice ao es.length cap]), (1, .int .i64 root), (2, .slice an nodes.length cn)] 130 ⟨Nat.le_of_ble_eq_true rfl, Try.ntmps9⟩ (argsOk (Sub.cons rfl (Sub.cons rfl (Sub.cons rfl Sub.nil)))) ?_
  refine WC.seq (WC.region ?_)
  refine WO.mem rfl rfl rfl (M.box rfl rfl) ?_
  rintro _ w1 ⟨b, rfl, hb, hs1, hB1, hk1⟩
  refine WO.op rfl rfl rfl (R.assign rfl) ?_
  refine WO.nil (WX.next (WC.seq (WC.seq (WC.region ?_))))
  refine WO.call rfl rfl rfl (F.call (vs := []) Try.call10 rfl) (known_ok w1) ?_
  rintro _ w2 ⟨rfl, hk2⟩
  have hB2 := hk2.blk hB1 (fun h => h)
  have hes2 := (hes.ext stable_pair hk1).ext stable_pair hk2
  refine WO.op rfl rfl rfl (R.not rfl) ?_
  refine WO.nil (WX.next ?_)
  refine WC.ff rfl (rfl) ?_
  refine WC.skip (WX.next (WC.seq (WC.seq (WC.region ?_))))
  refine WO.op rfl rfl rfl (R.loadK Try.isAgg24 Try.sizeOf24 rfl (by rfl) hB2.cells) ?_
  refine WO.call rfl rfl rfl (F.call (vs := [_]) Try.call11 rfl) (few_ok n es _ D w2 hes2) ?_
  rintro _ w3 ⟨rfl, hk3⟩
  have hB3 := hk3.blk hB2 (fun h => h)
  have hes3 := hes2.ext stable_pair hk3
  have hE3 := (hk1.ext hk2).ext hk3
  refine WO.op rfl rfl rfl (R.notD rfl) ?_
  refine WO.op rfl rfl rfl (R.move rfl) ?_
  refine WO.cases (p := (n ≤ 12 ∧ es.length ≤ 40)) (fun hf => ?_) (fun hf => ?_)
  ·
    refine WO.yes rfl rfl (decide_eq_false (by simpa using hf)) ?_
    refine WO.op rfl rfl rfl (R.move rfl) ?_
    refine WO.yes rfl rfl (decide_eq_false (by simpa using hf)) ?_
    refine WO.op rfl rfl rfl (R.lenS rfl Try.runUnderlying27 rfl) ?_
    refine WO.yes rfl rfl (decide_eq_false (by simpa using hf)) ?_
    refine WO.op rfl rfl rfl (R.gtr rfl rfl) ?_
    refine WO.op rfl rfl rfl (R.pickF rfl (decide_eq_false (by simpa using hf)) rfl) ?_
    refine WO.nil (WX.next ?_)
    refine WC.ite rfl (fun hl => ?_) (fun hl => ?_)
    ·
      refine WC.seq (WC.region ?_)
      refine WO.op rfl rfl rfl (R.assign rfl) ?_
      refine WO.nil (WX.next (WC.ret (WX.thenR ?_)))
      refine WX.ret1 Try.results9 rfl ⟨_, rfl, rfl, hE3⟩
    ·
      refine WC.skip (WX.next (WC.seq (WC.region ?_)))
      refine WO.op rfl rfl rfl (R.loadK Try.isAgg24 Try.sizeOf24 rfl (by rfl) hB3.cells) ?_
      refine WO.op rfl rfl rfl (R.move rfl) ?_
      refine WO.op rfl rfl rfl (R.move rfl) ?_
      refine WO.call rfl rfl rfl (F.call (vs := [_, _, _]) Try.call27 rfl) (iterated_ok n root es nodes _ _ D D' w3 hes3 (hnv.ext stable_int hE3) (by omega) (by omega)) ?_
      rintro _ w4 ⟨u, rfl, hu0, hu1, hk4⟩
      have hB4 := hk4.blk hB3 (fun h => h)
      have hes4 := hes3.ext stable_pair hk4
      refine WO.op rfl rfl rfl (R.move rfl) ?_
      refine WO.op rfl rfl rfl (R.extract rfl rfl) ?_
      refine WO.op rfl rfl rfl (R.extract rfl rfl) ?_
      refine WO.op rfl rfl rfl (R.assign rfl) ?_
      refine WO.op rfl rfl rfl (R.assign rfl) ?_
      refine WO.nil (WX.next (WC.seq (WC.region ?_)))
      refine WO.op rfl rfl rfl (R.loadK Try.isAgg24 Try.sizeOf24 rfl (by rfl) hB4.cells) ?_
      refine WO.op rfl rfl rfl (R.move rfl) ?_
      refine WO.call rfl rfl rfl (F.call (vs := [_, _]) Try.call13 rfl) (code_ok n root es _ D w4 hes4) ?_
      rintro _ w5 ⟨rfl, hk5⟩
      have hE5 := (hE3.ext hk4).ext hk5
      have hB5 := hk5.blk hB4 (fun h => h)
      have hes5 := hes4.ext stable_pair hk5
      have hnv5 := hnv.ext stable_int hE5
      refine WO.op rfl rfl rfl (R.assign rfl) ?_
      refine WO.nil (WX.next (WC.seq (WC.seq (WC.region ?_))))
      refine WO.op rfl rfl rfl (R.move rfl) ?_
      refine WO.op rfl rfl rfl (R.lenS rfl Try.runUnderlying27 rfl) ?_
      refine WO.op rfl rfl rfl (R.move rfl) ?_
      refine WO.nil (WX.next (WC.block ?_))
      refine WC.loop (σ := Nat × Int) (fun ⟨k, c⟩ => [(1, .int .i64 root), (2, .slice an nodes.length cn), (3, .pointer (some ⟨b, 0, none⟩)), (7, u), (8, .int .i64 (itCode n es root nodes)), (9, .int .i64 c), (40, .slice an nodes.length cn), (41, .int .i64 nodes.length), (42, .int .i64 k)]) (fun ⟨k, c⟩ => fun w' => k ≤ nodes.length ∧ c = (if codeOf n es root ≠ 0 then codeOf n es root else if (nodes.take k).all (fun x => decide (0 ≤ x ∧ x < n)) then 0 else 3) ∧ w' = w5) (fun ⟨k, c⟩ => nodes.length - k) ((0, codeOf n es root)) (Sub.cons rfl (Sub.cons rfl (Sub.cons rfl (Sub.cons rfl (Sub.cons rfl (Sub.cons rfl (Sub.cons rfl (Sub.cons rfl (Sub.cons rfl Sub.nil))))))))) (⟨Nat.zero_le _, by simp, rfl⟩) ?_
      rintro ⟨k, c⟩ w6 ⟨hkl, hcd, hw6⟩
      show WC _ _ _ _ [(1, .int .i64 root), (2, .slice an nodes.length cn), (3, .pointer (some ⟨b, 0, none⟩)), (7, u), (8, .int .i64 (itCode n es root nodes)), (9, .int .i64 c), (40, .slice an nodes.length cn), (41, .int .i64 nodes.length), (42, .int .i64 k)] _
      subst hw6
      refine WC.seq (WC.region ?_)
      refine WO.op rfl rfl rfl (R.lss rfl rfl) ?_
      refine WO.nil (WX.next (WC.seq ?_))
      refine WC.ite rfl (fun hlt => ?_) (fun hge => ?_)
      · obtain ⟨x, hx⟩ : ∃ x, nodes[k]? = some x := ⟨_, List.getElem?_eq_getElem (by omega)⟩
        obtain ⟨b1, o1, c1, hao1, _, hcl1, hcs1, rfl⟩ := hnel k x hx
        have hnext : (nodes.take (k + 1)).all (fun x => decide (0 ≤ x ∧ x < n)) = ((nodes.take k).all (fun x => decide (0 ≤ x ∧ x < n)) && decide (0 ≤ x ∧ x < n)) := by
          rw [List.take_add_one, hx]; simp
        refine WC.skip (WX.next (WC.seq (WC.block (WC.seq (WC.region ?_)))))
        refine WO.op rfl rfl rfl (R.indexS Try.runUnderlying27 Try.sizeOf3 rfl rfl hao1 (by omega)) ?_
        refine WO.op rfl rfl rfl (R.load Try.isAgg3 rfl (hE5.cells hcs1 (fun h => h) 0 _ rfl)) ?_
        refine WO.op rfl rfl rfl (R.assign rfl) ?_
        refine WO.nil (WX.next (WC.seq (WC.region ?_)))
        refine WO.op rfl rfl rfl (R.move rfl) ?_
        refine WO.op rfl rfl rfl (R.eql rfl rfl) ?_
        refine WO.op rfl rfl rfl (R.move rfl) ?_
        refine WO.cases (p := c = 0) (fun hc0 => ?_) (fun hc0 => ?_)
        · have hgood : 0 ≤ x ∧ x < n → c = (if codeOf n es root ≠ 0 then codeOf n es root else if (nodes.take (k + 1)).all (fun x => decide (0 ≤ x ∧ x < n)) then 0 else 3) := by
            intro h
            rw [hnext, decide_eq_true h, Bool.and_true]; exact hcd
          have hbad : ¬ (0 ≤ x ∧ x < n) → 3 = (if codeOf n es root ≠ 0 then codeOf n es root else if (nodes.take (k + 1)).all (fun x => decide (0 ≤ x ∧ x < n)) then 0 else 3) := by
            intro h
            rw [hnext, decide_eq_false h, Bool.and_false]
            rw [if_neg (show ¬ codeOf n es root ≠ 0 from by intro h1; rw [if_pos h1] at hcd; omega)]
            rfl
          refine WO.yes rfl rfl (decide_eq_true hc0) ?_
          refine WO.op rfl rfl rfl (R.move rfl) ?_
          refine WO.yes rfl rfl (decide_eq_true hc0) ?_
          refine WO.op rfl rfl rfl (R.lss rfl rfl) ?_
          refine WO.yes rfl rfl (decide_eq_true hc0) ?_
          refine WO.op rfl rfl rfl (R.move rfl) ?_
          refine WO.cases (p := x < 0) (fun hx0 => ?_) (fun hx0 => ?_)
          ·
            refine WO.no rfl rfl (decide_eq_true hx0) rfl ?_
            refine WO.no rfl rfl (decide_eq_true hx0) rfl ?_
            refine WO.no rfl rfl (decide_eq_true hx0) rfl ?_
            refine WO.no rfl rfl (decide_eq_true hx0) rfl ?_
            refine WO.yes rfl rfl (decide_eq_true hc0) ?_
            refine WO.op rfl rfl rfl (R.pickT rfl (decide_eq_true hx0) rfl) ?_
            refine WO.op rfl rfl rfl (R.pickT rfl (decide_eq_true hc0) rfl) ?_
            refine WO.nil (WX.next ?_)
            refine WC.tt rfl (rfl) ?_
            refine WC.region ?_
            refine WO.op rfl rfl rfl (R.assign rfl) ?_
            refine WO.nil (WX.blockN (WX.next (WC.region ?_)))
            refine WO.op rfl rfl rfl (R.add rfl rfl (wrap_i64_in (by omega))) ?_
            refine WO.op rfl rfl rfl (R.move rfl) ?_
            refine WO.nil ?_
            refine WX.back ((k + 1, 3)) (Sub.cons rfl (Sub.cons rfl (Sub.cons rfl (Sub.cons rfl (Sub.cons rfl (Sub.cons rfl (Sub.cons rfl (Sub.cons rfl (Sub.cons rfl Sub.nil))))))))) (⟨by omega, hbad (by omega), rfl⟩) (by first | omega | (dsimp only; omega))
          ·
            refine WO.yes rfl rfl (decide_eq_false hx0) ?_
            refine WO.op rfl rfl rfl (R.move rfl) ?_
            refine WO.yes rfl rfl (decide_eq_false hx0) ?_
            refine WO.op rfl rfl rfl (R.fieldAddr Try.runUnderlying24 rfl Try.sizeOf3 rfl) ?_
            refine WO.yes rfl rfl (decide_eq_false hx0) ?_
            refine WO.op rfl rfl rfl (R.load Try.isAgg3 rfl (hB5.cells 0 _ rfl)) ?_
            refine WO.yes rfl rfl (decide_eq_false hx0) ?_
            refine WO.op rfl rfl rfl (R.geq rfl rfl) ?_
            refine WO.yes rfl rfl (decide_eq_true hc0) ?_
            refine WO.op rfl rfl rfl (R.pickF rfl (decide_eq_false hx0) rfl) ?_
            refine WO.op rfl rfl rfl (R.pickT rfl (decide_eq_true hc0) rfl) ?_
            refine WO.nil (WX.next ?_)
            refine WC.ite rfl (fun hxn => ?_) (fun hxn => ?_)
            ·
              refine WC.region ?_
              refine WO.op rfl rfl rfl (R.assign rfl) ?_
              refine WO.nil (WX.blockN (WX.next (WC.region ?_)))
              refine WO.op rfl rfl rfl (R.add rfl rfl (wrap_i64_in (by omega))) ?_
              refine WO.op rfl rfl rfl (R.move rfl) ?_
              refine WO.nil ?_
              refine WX.back ((k + 1, 3)) (Sub.cons rfl (Sub.cons rfl (Sub.cons rfl (Sub.cons rfl (Sub.cons rfl (Sub.cons rfl (Sub.cons rfl (Sub.cons rfl (Sub.cons rfl Sub.nil))))))))) (⟨by omega, hbad (by omega), rfl⟩) (by first | omega | (dsimp only; omega))
            ·
              refine WC.skip (WX.blockN (WX.next (WC.region ?_)))
              refine WO.op rfl rfl rfl (R.add rfl rfl (wrap_i64_in (by omega))) ?_
              refine WO.op rfl rfl rfl (R.move rfl) ?_
              refine WO.nil ?_
              refine WX.back ((k + 1, c)) (Sub.cons rfl (Sub.cons rfl (Sub.cons rfl (Sub.cons rfl (Sub.cons rfl (Sub.cons rfl (Sub.cons rfl (Sub.cons rfl (Sub.cons rfl Sub.nil))))))))) (⟨by omega, hgood (by omega), rfl⟩) (by first | omega | (dsimp only; omega))
        · have hsame : c = (if codeOf n es root ≠ 0 then codeOf n es root else if (nodes.take (k + 1)).all (fun x => decide (0 ≤ x ∧ x < n)) then 0 else 3) := by
            rw [hnext, hcd]
            by_cases h1 : codeOf n es root ≠ 0
            · rw [if_pos h1, if_pos h1]
            · rw [if_neg h1, if_neg h1]
              rw [hcd, if_neg h1] at hc0
              cases h2 : (nodes.take k).all (fun x => decide (0 ≤ x ∧ x < n)) with
              | true => rw [h2] at hc0; exact absurd rfl hc0
              | false => rfl
          refine WO.no rfl rfl (decide_eq_false hc0) rfl ?_
          refine WO.no rfl rfl (decide_eq_false hc0) rfl ?_
          refine WO.no rfl rfl (decide_eq_false hc0) rfl ?_
          refine WO.noU rfl rfl rfl ?_
          refine WO.noU rfl rfl rfl ?_
          refine WO.noU rfl rfl rfl ?_
          refine WO.noU rfl rfl rfl ?_
          refine WO.no rfl rfl (decide_eq_false hc0) rfl ?_
          refine WO.op rfl rfl rfl (R.pickF rfl (decide_eq_false hc0) rfl) ?_
          refine WO.nil (WX.next ?_)
          refine WC.ff rfl (rfl) ?_
          refine WC.skip (WX.blockN (WX.next (WC.region ?_)))
          refine WO.op rfl rfl rfl (R.add rfl rfl (wrap_i64_in (by omega))) ?_
          refine WO.op rfl rfl rfl (R.move rfl) ?_
          refine WO.nil ?_
          refine WX.back ((k + 1, c)) (Sub.cons rfl (Sub.cons rfl (Sub.cons rfl (Sub.cons rfl (Sub.cons rfl (Sub.cons rfl (Sub.cons rfl (Sub.cons rfl (Sub.cons rfl Sub.nil))))))))) (⟨by omega, hsame, rfl⟩) (by first | omega | (dsimp only; omega))
      · have hkk : k = nodes.length := by omega
        subst hkk
        rw [List.take_length] at hcd
        have hcd : c = itCode n es root nodes := hcd
        subst hcd
        refine WC.exit (WX.thenE (WX.thenE (WX.hit (WX.next (WC.seq (WC.seq (WC.region ?_)))))))
        refine WO.op rfl rfl rfl (R.move rfl) ?_
        refine WO.op rfl rfl rfl (R.neq rfl rfl) ?_
        refine WO.nil (WX.next ?_)
        refine WC.ite rfl (fun hc => ?_) (fun hc => ?_)
        · have hu := hu0 hc
          subst hu
          refine WC.seq (WC.region ?_)
          refine WO.op rfl rfl rfl (R.move rfl) ?_
          refine WO.op rfl rfl rfl (R.move rfl) ?_
          refine WO.op rfl rfl rfl (R.eql rfl rfl) ?_
          refine WO.op rfl rfl rfl (R.move rfl) ?_
          refine WO.yes rfl rfl (decide_eq_true rfl) ?_
          refine WO.op rfl rfl rfl (R.move rfl) ?_
          refine WO.yes rfl rfl (decide_eq_true rfl) ?_
          refine WO.op rfl rfl rfl (R.lenS rfl Try.runUnderlying27 rfl) ?_
          refine WO.yes rfl rfl (decide_eq_true rfl) ?_
          refine WO.op rfl rfl rfl (R.eql rfl rfl) ?_
          refine WO.op rfl rfl rfl (R.pickT rfl (decide_eq_true rfl) rfl) ?_
          refine WO.op rfl rfl rfl (R.assign rfl) ?_
          refine WO.nil (WX.next (WC.ret (WX.thenR ?_)))
          refine WX.ret1 Try.results9 rfl ⟨_, rfl, by simp, hE5⟩
        · have hi0 : itCode n es root nodes = 0 := by simpa using hc
          obtain ⟨Rw, order, pl, T, L, hK, hLs, hLm, hsL⟩ := hu1 hi0
          have hc0 : codeOf n es root = 0 := by
            unfold itCode at hi0
            split at hi0
            · rename_i h1; exact absurd hi0 h1
            · rename_i h1; simpa using h1
          have hnd : nodes.all (fun x => decide (0 ≤ x ∧ x < n)) = true := by
            unfold itCode at hi0
            rw [if_neg (by simp [hc0])] at hi0
            split at hi0
            · rename_i h1; exact h1
            · cases hi0
          have hz := code_zero hc0
          obtain ⟨m, rfl⟩ := Int.eq_ofNat_of_zero_le (show 0 ≤ n by omega)
          obtain ⟨rt, rfl⟩ := Int.eq_ofNat_of_zero_le hz.2.1
          simp only [Int.toNat_natCast] at hK hLm
          have hall := (Gr.check_zero hz.1).2.2.2
          have hnod : ∀ x ∈ nodes, ∃ a : Nat, x = (a : Int) ∧ a < m := by
            intro x hx
            have := List.all_eq_true.1 hnd x hx
            simp at this
            exact ⟨x.toNat, by omega, by omega⟩
          rw [hi0]
          refine WC.skip (WX.next (WC.seq (WC.region ?_)))
          refine WO.op rfl rfl rfl (R.loadK Try.isAgg24 Try.sizeOf24 rfl (by rfl) hB5.cells) ?_
          refine WO.op rfl rfl rfl (R.move rfl) ?_
          refine WO.call rfl rfl rfl (F.call (vs := [_, _]) Try.call17 rfl) (refFront_ok m rt es _ D w6 hes5 (by omega) hall (by omega)) ?_
          rintro u' w7 ⟨M', rows, hM, hP, hsl, hk7⟩
          have hB7 := hk7.blk hB5 (fun h => h)
          have hrow : ∀ a, a < m → ∀ y : Int, y ∈ rowB M' es a m ↔ ∃ b : Nat, y = (b : Int) ∧ Front Rw rt a b := by
            intro a ha y
            rw [rowB_mem]
            constructor
            · rintro ⟨b, rfl, h2, h3⟩
              exact ⟨b, rfl, (front_dm hK hall hM a b).2 ⟨ha, h2, h3⟩⟩
            · rintro ⟨b, rfl, hb⟩
              have := (front_dm hK hall hM a b).1 hb
              exact ⟨b, rfl, this.2.1, this.2.2⟩
          have hsl' := hsl
          obtain ⟨ar, cr, rfl, hrl, hrm, hre⟩ := hsl'
          refine WO.op rfl rfl rfl (R.assign rfl) ?_
          refine WO.nil (WX.next (WC.seq (WC.region ?_)))
          refine WO.op rfl rfl rfl (R.fieldAddr Try.runUnderlying24 rfl Try.sizeOf3 rfl) ?_
          refine WO.op rfl rfl rfl (R.load Try.isAgg3 rfl (hB7.cells 0 _ rfl)) ?_
          refine WO.mem rfl rfl rfl (M.make Try.underlying53 Try.el4 rfl rfl (by omega) (by omega) (made1 _ m rfl)) ?_
          rintro _ w8 ⟨bi, rfl, hbi, hs8, hB8, hk8⟩
          have hB8' : Blk w8 bi ((List.replicate m false).map .bool) 4 := by rw [List.map_replicate]; exact hB8
          have hE8 := (hE5.ext hk7).ext hk8
          have hlti := hB8.lt
          refine WO.op rfl rfl rfl (R.assign rfl) ?_
          refine WO.nil (WX.next (WC.seq (WC.region ?_)))
          refine WO.mem rfl rfl rfl (M.buildSlice0 Try.runUnderlying27 Try.sizeOf3) ?_
          rintro _ w9 ⟨b9, rfl, hb9, hs9, hB9, hk9⟩
          have hnv9 := hnv.ext stable_int (hE8.ext hk9)
          have hown9 : w9.ownsRow 0 3 1 (.slice (some ⟨b9, 0, none⟩) 0 0) 0 (([] : List Int).flatMap encI) := own_blk hB9 (Nat.le_refl _) (by omega) rfl
          refine WO.op rfl rfl rfl (R.move rfl) ?_
          refine WO.mem rfl rfl rfl (M.appendL encI encI_len (by intro x u hu; rw [List.mem_singleton.1 hu]; rfl) (fun _ _ h => h) Try.underlying27 Try.el3 rfl (by decide) rfl rfl hnv9 hown9 (by omega) (by omega)) ?_
          rintro vt w10 ⟨hown10, hfr10, hk10⟩
          have hk810 : Ext w8 w10 := hk9.trans hk10 (fun q hq h => by simp [Value.ownBlock] at h; omega)
          have hB10 := hk810.blk hB8' (fun h => h)
          have hft : ∀ q, vt.ownBlock = some q → w8.heap.size ≤ q := by
            intro q hq
            have := hk9.size
            rcases hfr10 with h | ⟨q', h, h'⟩
            · rw [h] at hq; simp [Value.ownBlock] at hq; omega
            · rw [h] at hq; cases hq; omega
          rw [Nat.zero_add] at hown10
          simp only [List.flatMap_nil, List.nil_append] at hown10
          refine WO.op rfl rfl rfl (R.assign rfl) ?_
          refine WO.nil (WX.next (WC.seq (WC.seq (WC.region ?_))))
          refine WO.op rfl rfl rfl (R.assign rfl) ?_
          refine WO.nil (WX.next ?_)
          refine WC.cut (σ := List Bool × List Int) (fun ⟨ins, out⟩ => [(7, u), (8, .int .i64 0), (13, .slice (some ⟨bi, 0, none⟩) m m)]) (fun ⟨ins, out⟩ => fun w' => ItI (Front Rw rt) nodes m (fun _ => False) ins out [] ∧ Blk w' bi (ins.map .bool) 4 ∧ Keep (fun q => q = bi) w8 w') ?_ ?_
          ·
            refine WC.block ?_
            refine WC.loop (σ := Nat × List Bool × List Int × Value) (fun ⟨i, ins, out, vt⟩ => [(7, u), (8, .int .i64 0), (12, .slice ar rows.length cr), (13, .slice (some ⟨bi, 0, none⟩) m m), (14, vt), (15, .int .i64 i)]) (fun ⟨i, ins, out, vt⟩ => fun w' => ItI (Front Rw rt) nodes m (fun _ => False) ins out ((nodes ++ out).drop i) ∧ i ≤ (nodes ++ out).length ∧ (nodes ++ out).length + ins.count false ≤ nodes.length + m ∧ Blk w' bi (ins.map .bool) 4 ∧ w'.ownsRow 0 3 1 vt (nodes ++ out).length ((nodes ++ out).flatMap encI) ∧ (∀ g, vt.ownBlock = some g → w8.heap.size ≤ g) ∧ Keep (fun q => q = bi) w8 w') (fun ⟨i, ins, out, vt⟩ => nodes.length + m - i) ((0, List.replicate m false, [], vt)) (Sub.cons rfl (Sub.cons rfl (Sub.cons rfl (Sub.cons rfl (Sub.cons rfl (Sub.cons rfl Sub.nil)))))) (⟨by simpa using ItI.start hnod, Nat.zero_le _, by simp, hB10, by simpa using hown10, hft, hk810.mono (fun _ _ h => h.elim)⟩) ?_
            rintro ⟨i, ins, out, vt⟩ w11 ⟨hI, hil, hcnt, hBi, hot, hft11, hk11⟩
            show WC _ _ _ _ [(7, u), (8, .int .i64 0), (12, .slice ar rows.length cr), (13, .slice (some ⟨bi, 0, none⟩) m m), (14, vt), (15, .int .i64 i)] _
            obtain ⟨av, cv, hvs⟩ := own_form hot
            rw [hvs]
            refine WC.seq (WC.seq (WC.region ?_))
            refine WO.op rfl rfl rfl (R.move rfl) ?_
            refine WO.op rfl rfl rfl (R.move rfl) ?_
            refine WO.op rfl rfl rfl (R.lenS rfl Try.runUnderlying27 rfl) ?_
            refine WO.op rfl rfl rfl (R.lss rfl rfl) ?_
            refine WO.nil (WX.next ?_)
            refine WC.ite rfl (fun hgt => ?_) (fun hle => ?_)
            · obtain ⟨x, hx⟩ : ∃ x, (nodes ++ out)[i]? = some x := ⟨_, List.getElem?_eq_getElem (by omega)⟩
              have hdrop : (nodes ++ out).drop i = x :: (nodes ++ out).drop (i + 1) := by
                obtain ⟨h1, h2⟩ := List.getElem?_eq_some_iff.1 hx
                rw [← h2, List.getElem_cons_drop]
              rw [hdrop] at hI
              have hne : nodes ++ out ≠ [] := by intro h; rw [h] at hx; simp at hx
              obtain ⟨g, gc, sp, hvs', hlen, hnc, hcm, hBg, hcl⟩ := own_open encI_len (by omega) hot hne
              rw [hvs] at hvs'
              cases hvs'
              have hct : Cells w11 g (0 + i * 1) (encI x) := flat_cells encI_len hBg hx
              obtain ⟨a, rfl, ham, hva⟩ := hI.todo x (by simp)
              have hr : rows[a]? = some (rowB M' es a m) := by have := hP.at_ a ham; rw [if_pos ham] at this; exact this
              obtain ⟨b1, o1, c1, hao1, hD1, hcl1, hcs1, v1, rfl, hr1⟩ := hre a _ hr
              have hr1' := hr1
              obtain ⟨ra, rc, rfl, hrlc, hrcm, hrel⟩ := hr1'
              have hk711 : Ext w7 w11 := hk8.trans hk11 (fun q hq h => by have h : q = bi := h; omega)
              have hI' := hI.pop (a := a) (op' := (nodes ++ out).drop (i + 1)) (fun y => by simp [or_comm])
              refine WC.skip (WX.next (WC.seq (WC.block (WC.seq (WC.region ?_)))))
              refine WO.op rfl rfl rfl (R.move rfl) ?_
              refine WO.op rfl rfl rfl (R.move rfl) ?_
              refine WO.op rfl rfl rfl (R.move rfl) ?_
              refine WO.op rfl rfl rfl (R.indexS Try.runUnderlying27 Try.sizeOf3 rfl rfl rfl (by omega)) ?_
              refine WO.op rfl rfl rfl (R.load Try.isAgg3 rfl (by rw [show 0 + (i : Int).toNat * 1 = 0 + i * 1 + 0 from by omega]; exact hct 0 _ rfl)) ?_
              refine WO.op rfl rfl rfl (R.indexS Try.runUnderlying35 Try.sizeOf27 rfl rfl hao1 (by have := hP.len; omega)) ?_
              refine WO.op rfl rfl rfl (R.load Try.isAgg27 rfl (hk711.cells hcs1 (fun h => h) 0 _ rfl)) ?_
              refine WO.op rfl rfl rfl (R.lenS rfl Try.runUnderlying27 rfl) ?_
              refine WO.op rfl rfl rfl (R.move rfl) ?_
              refine WO.nil (WX.next (WC.block ?_))
              refine WC.loop (σ := Nat × List Bool × List Int × Value) (fun ⟨j, ins2, out2, vt2⟩ => [(7, u), (8, .int .i64 0), (12, .slice ar rows.length cr), (13, .slice (some ⟨bi, 0, none⟩) m m), (14, vt2), (15, .int .i64 i), (90, .slice ra (rowB M' es a m).length rc), (91, .int .i64 (rowB M' es a m).length), (92, .int .i64 j)]) (fun ⟨j, ins2, out2, vt2⟩ => fun w' => j ≤ (rowB M' es a m).length ∧ ItI (Front Rw rt) nodes m (fun c => c = a) ins2 out2 ((nodes ++ out2).drop (i + 1)) ∧ i + 1 ≤ (nodes ++ out2).length ∧ ((a : Int) ∈ nodes ∨ ins2[a]? = some true) ∧ (∀ b : Nat, (b : Int) ∈ (rowB M' es a m).take j → ins2[b]? = some true) ∧ (nodes ++ out2).length + ins2.count false ≤ nodes.length + m ∧ Blk w' bi (ins2.map .bool) 4 ∧ w'.ownsRow 0 3 1 vt2 (nodes ++ out2).length ((nodes ++ out2).flatMap encI) ∧ (∀ g, vt2.ownBlock = some g → w8.heap.size ≤ g) ∧ Keep (fun q => q = bi) w8 w') (fun ⟨j, ins2, out2, vt2⟩ => (rowB M' es a m).length - j) ((0, ins, out, .slice (some ⟨g, 0, none⟩) (nodes ++ out).length cv)) (Sub.cons rfl (Sub.cons rfl (Sub.cons rfl (Sub.cons rfl (Sub.cons rfl (Sub.cons rfl (Sub.cons rfl (Sub.cons rfl (Sub.cons rfl Sub.nil))))))))) (⟨Nat.zero_le _, hI', by omega, hva, by simp, hcnt, hBi, by rw [← hvs]; exact hot, by rw [← hvs]; exact hft11, hk11⟩) ?_
              rintro ⟨j, ins2, out2, vt2⟩ w12 ⟨hjr, hI2, hil2, hva2, hr2, hc2, hBi2, hot2, hft2, hk12⟩
              show WC _ _ _ _ [(7, u), (8, .int .i64 0), (12, .slice ar rows.length cr), (13, .slice (some ⟨bi, 0, none⟩) m m), (14, vt2), (15, .int .i64 i), (90, .slice ra (rowB M' es a m).length rc), (91, .int .i64 (rowB M' es a m).length), (92, .int .i64 j)] _
              refine WC.seq (WC.region ?_)
              refine WO.op rfl rfl rfl (R.lss rfl rfl) ?_
              refine WO.nil (WX.next (WC.seq ?_))
              refine WC.ite rfl (fun hjl => ?_) (fun hjg => ?_)
              · obtain ⟨y, hy⟩ : ∃ y, (rowB M' es a m)[j]? = some y := ⟨_, List.getElem?_eq_getElem (by omega)⟩
                obtain ⟨c, rfl, hFc⟩ := (hrow a ham y).1 (List.mem_of_getElem? hy)
                have hcm' : c < m := ((front_dm hK hall hM a c).1 hFc).2.1
                obtain ⟨be, oe, ce, hra, _, hcel, hce, rfl⟩ := hrel j _ hy
                obtain ⟨s, hs⟩ : ∃ s, ins2[c]? = some s := ⟨_, List.getElem?_eq_getElem (by rw [hI2.len]; exact hcm')⟩
                have hk712 : Ext w7 w12 := hk8.trans hk12 (fun q hq h => by have h : q = bi := h; omega)
                refine WC.skip (WX.next (WC.seq (WC.block (WC.seq (WC.region ?_)))))
                refine WO.op rfl rfl rfl (R.indexS Try.runUnderlying27 Try.sizeOf3 rfl rfl hra (by omega)) ?_
                refine WO.op rfl rfl rfl (R.load Try.isAgg3 rfl (hk712.cells hce (fun h => h) 0 _ rfl)) ?_
                refine WO.op rfl rfl rfl (R.assign rfl) ?_
                refine WO.nil (WX.next (WC.seq (WC.region ?_)))
                refine WO.op rfl rfl rfl (R.move rfl) ?_
                refine WO.op rfl rfl rfl (R.move rfl) ?_
                refine WO.op rfl rfl rfl (R.indexS Try.runUnderlying53 Try.sizeOf4 rfl rfl rfl (by omega)) ?_
                refine WO.op rfl rfl rfl (R.load Try.isAgg4 rfl (hBi2.cells.el1 c rfl (map_at hs))) ?_
                refine WO.op rfl rfl rfl (R.not rfl) ?_
                refine WO.nil (WX.next ?_)
                refine WC.bool rfl (fun hsn => ?_) (fun hsy => ?_)
                · have hsf : s = false := by simpa using hsn
                  subst hsf
                  have hcn := cnt_set hs
                  refine WC.seq (WC.region ?_)
                  refine WO.op rfl rfl rfl (R.move rfl) ?_
                  refine WO.op rfl rfl rfl (R.move rfl) ?_
                  refine WO.op rfl rfl rfl (R.indexS Try.runUnderlying53 Try.sizeOf4 rfl rfl rfl (by omega)) ?_
                  refine WO.mem0 rfl rfl (M.store Try.sizeOf4 rfl rfl rfl rfl hBi2 (by rw [List.length_map, hI2.len]; omega)) ?_
                  rintro w13 ⟨hs13, hB13, hk13⟩
                  rw [show 0 + (c : Int).toNat * 1 = c from by omega, map_boolset] at hB13
                  refine WO.nil (WX.next (WC.region ?_))
                  refine WO.op rfl rfl rfl (R.move rfl) ?_
                  refine WO.op rfl rfl rfl (R.move rfl) ?_
                  refine WO.mem rfl rfl rfl (M.buildSlice (cs := [.int .i64 c]) [(0, _)] Try.runUnderlying27 Try.sizeOf3 Try.zeroValue3 (by decide) rfl (by kernel_rfl)) ?_
                  rintro _ w14 ⟨b14, rfl, hb14, hs14, hB14, hk14⟩
                  have hk1214 : Keep (fun q => q = bi) w12 w14 := hk13.ext hk14
                  have hot14 := own_keep hot2 hk1214 (fun q hq h => by have := hft2 q hq; have h : q = bi := h; omega)
                  refine WO.mem rfl rfl rfl (M.append Try.underlying27 Try.el3 rfl (by decide) rfl rfl hot14 rfl (Cells.add hB14.cells) (by simp; rfl) (by omega) (by omega)) ?_
                  rintro vt3 w15 ⟨hown15, hfr15, hk15, _⟩
                  have hsz12 := hk12.size
                  have hsz1214 := hk1214.size
                  have hbt2 : vt2.ownBlock ≠ some bi := fun h => by have := hft2 bi h; omega
                  refine WO.op rfl rfl rfl (R.assign rfl) ?_
                  refine WO.nil (WX.blockN (WX.next (WC.region ?_)))
                  refine WO.op rfl rfl rfl (R.add rfl rfl (wrap_i64_in (by omega))) ?_
                  refine WO.op rfl rfl rfl (R.move rfl) ?_
                  refine WO.nil ?_
                  refine WX.back ((j + 1, ins2.set c true, out2 ++ [(c : Int)], vt3)) (Sub.cons rfl (Sub.cons rfl (Sub.cons rfl (Sub.cons rfl (Sub.cons rfl (Sub.cons rfl (Sub.cons rfl (Sub.cons rfl (Sub.cons rfl Sub.nil))))))))) (⟨by omega, hI2.push hcm' hs hva2 hFc (fun y => ?_), by simp at hil2 ⊢; omega, ?_, ?_, by simp at hc2 ⊢; omega, hk15.blk (hk14.blk hB13 (fun h => h)) hbt2, ?_, ?_, ?_⟩) (by first | omega | (dsimp only; omega))
                  · rw [← List.append_assoc, List.drop_append_of_le_length hil2]
                    simp
                  · refine hva2.imp id (fun h => ?_)
                    by_cases e : a = c
                    · subst e; rw [hs] at h; cases h
                    · rw [List.getElem?_set_ne (fun h => e h.symm)]; exact h
                  · intro b hb
                    rcases List.mem_append.1 (by rw [List.take_add_one, hy] at hb; exact hb) with h | h
                    · have h1 := hr2 b h
                      by_cases e : b = c
                      · subst e; rw [hs] at h1; cases h1
                      · rw [List.getElem?_set_ne (fun h => e h.symm)]; exact h1
                    · simp at h
                      have : b = c := by omega
                      subst this
                      rw [List.getElem?_set_self (by rw [hI2.len]; exact hcm')]
                  · rw [← List.append_assoc, List.length_append, List.flatMap_append]
                    exact hown15
                  · intro q hq
                    rcases hfr15 with h | ⟨q', h, h'⟩
                    · exact hft2 q (by rw [← h]; exact hq)
                    · rw [h] at hq; cases hq; omega
                  · exact (hk12.trans hk1214 (fun q hq h => h)).trans hk15 (fun q hq h => by have := hft2 q h; omega)
                · have hst' : s = true := by simpa using hsy
                  subst hst'
                  refine WC.skip (WX.blockN (WX.next (WC.region ?_)))
                  refine WO.op rfl rfl rfl (R.add rfl rfl (wrap_i64_in (by omega))) ?_
                  refine WO.op rfl rfl rfl (R.move rfl) ?_
                  refine WO.nil ?_
                  refine WX.back ((j + 1, ins2, out2, vt2)) (Sub.cons rfl (Sub.cons rfl (Sub.cons rfl (Sub.cons rfl (Sub.cons rfl (Sub.cons rfl (Sub.cons rfl (Sub.cons rfl (Sub.cons rfl Sub.nil))))))))) (⟨by omega, hI2, hil2, hva2, ?_, hc2, hBi2, hot2, hft2, hk12⟩) (by first | omega | (dsimp only; omega))
                  intro b hb
                  rcases List.mem_append.1 (by rw [List.take_add_one, hy] at hb; exact hb) with h | h
                  · exact hr2 b h
                  · simp at h
                    have : b = c := by omega
                    subst this; exact hs
              · have hj' : j = (rowB M' es a m).length := by omega
                rw [hj', List.take_length] at hr2
                refine WC.exit (WX.thenE (WX.thenE (WX.hit (WX.blockN (WX.next (WC.region ?_))))))
                refine WO.op rfl rfl rfl (R.move rfl) ?_
                refine WO.op rfl rfl rfl (R.add rfl rfl (wrap_i64_in (by omega))) ?_
                refine WO.op rfl rfl rfl (R.assign rfl) ?_
                refine WO.nil ?_
                refine WX.back ((i + 1, ins2, out2, vt2)) (Sub.cons rfl (Sub.cons rfl (Sub.cons rfl (Sub.cons rfl (Sub.cons rfl (Sub.cons rfl Sub.nil)))))) (⟨hI2.close (fun b hb => hr2 b ((hrow a ham _).2 ⟨b, rfl, hb⟩)), hil2, hc2, hBi2, hot2, hft2, hk12⟩) (by first | omega | (dsimp only; omega))
            · have hii : i = (nodes ++ out).length := by omega
              rw [hii, List.drop_length] at hI
              refine WC.exit (WX.thenE (WX.thenE (WX.hit ?_)))
              refine WX.meet ((ins, out)) (Sub.cons rfl (Sub.cons rfl (Sub.cons rfl Sub.nil))) (⟨hI, hBi, hk11⟩)
          ·
            rintro ⟨ins, out⟩ w11 ⟨hI, hBi, hk11⟩
            show WX _ _ _ [(7, u), (8, .int .i64 0), (13, .slice (some ⟨bi, 0, none⟩) m m)] _
            have hE11 : Ext w w11 := hE8.trans hk11 (fun q hq h => by have h : q = bi := h; have := hE5.size; have := hk7.size; omega)
            have hil := hI.len
            have hlast : marked ins m = L := by
              refine sorted_unique (lt := fun a b : Int => a < b) (fun a h => by omega) (fun a b h h' => by omega) _ _ marked_sorted hLs (fun y => ?_)
              rw [marked_mem, hLm]
              constructor
              · rintro ⟨b, h1, _, h2⟩; exact ⟨b, h1, (hI.fin b).1 h2⟩
              · rintro ⟨b, h1, h2⟩
                have h3 := (hI.fin b).2 h2
                exact ⟨b, h1, by have := (List.getElem?_eq_some_iff.1 h3).1; omega, h3⟩
            refine WX.next (WC.seq (WC.region ?_))
            refine WO.op rfl rfl rfl (R.assign rfl) ?_
            refine WO.nil (WX.next (WC.seq (WC.seq (WC.region ?_))))
            refine WO.op rfl rfl rfl (R.move rfl) ?_
            refine WO.op rfl rfl rfl (R.lenS rfl Try.runUnderlying53 rfl) ?_
            refine WO.op rfl rfl rfl (R.move rfl) ?_
            refine WO.nil (WX.next (WC.block ?_))
            refine WC.loop (σ := Nat × Value) (fun ⟨k, vw⟩ => [(7, u), (8, .int .i64 0), (13, .slice (some ⟨bi, 0, none⟩) m m), (18, vw), (110, .int .i64 m), (111, .int .i64 k)]) (fun ⟨k, vw⟩ => fun w' => k ≤ m ∧ w'.ownsRow 0 3 1 vw (marked ins k).length ((marked ins k).flatMap encI) ∧ (∀ g, vw.ownBlock = some g → w11.heap.size ≤ g) ∧ Ext w11 w') (fun ⟨k, vw⟩ => m - k) ((0, .slice none 0 0)) (Sub.cons rfl (Sub.cons rfl (Sub.cons rfl (Sub.cons rfl (Sub.cons rfl (Sub.cons rfl Sub.nil)))))) (⟨Nat.zero_le _, own_nil _ _ _, fun g hg => by simp [Value.ownBlock] at hg, Keep.refl _ _⟩) ?_
            rintro ⟨k, vw⟩ w12 ⟨hkm, hown, hfr, hk12⟩
            show WC _ _ _ _ [(7, u), (8, .int .i64 0), (13, .slice (some ⟨bi, 0, none⟩) m m), (18, vw), (110, .int .i64 m), (111, .int .i64 k)] _
            refine WC.seq (WC.region ?_)
            refine WO.op rfl rfl rfl (R.lss rfl rfl) ?_
            refine WO.nil (WX.next (WC.seq ?_))
            refine WC.ite rfl (fun hkl2 => ?_) (fun hkg2 => ?_)
            · obtain ⟨s, hs⟩ : ∃ s, ins[k]? = some s := ⟨_, List.getElem?_eq_getElem (by omega)⟩
              have hml := marked_len (ins := ins) (k := k)
              refine WC.skip (WX.next (WC.seq (WC.block (WC.seq (WC.region ?_)))))
              refine WO.op rfl rfl rfl (R.move rfl) ?_
              refine WO.op rfl rfl rfl (R.assign rfl) ?_
              refine WO.nil (WX.next (WC.seq (WC.region ?_)))
              refine WO.op rfl rfl rfl (R.move rfl) ?_
              refine WO.op rfl rfl rfl (R.move rfl) ?_
              refine WO.op rfl rfl rfl (R.indexS Try.runUnderlying53 Try.sizeOf4 rfl rfl rfl (by omega)) ?_
              refine WO.op rfl rfl rfl (R.load Try.isAgg4 rfl ((hk12.blk hBi (fun h => h)).cells.el1 k rfl (map_at hs))) ?_
              refine WO.nil (WX.next ?_)
              refine WC.bool rfl (fun hst => ?_) (fun hsf => ?_)
              · rw [hst] at hs
                refine WC.region ?_
                refine WO.op rfl rfl rfl (R.move rfl) ?_
                refine WO.op rfl rfl rfl (R.move rfl) ?_
                refine WO.mem rfl rfl rfl (M.buildSlice (cs := [.int .i64 k]) [(0, _)] Try.runUnderlying27 Try.sizeOf3 Try.zeroValue3 (by decide) rfl (by kernel_rfl)) ?_
                rintro _ w13 ⟨b13, rfl, hb13, hs13, hB13, hk13⟩
                have hown13 := own_keep hown hk13 (fun _ _ h => h)
                refine WO.mem rfl rfl rfl (M.append Try.underlying27 Try.el3 rfl (by decide) rfl rfl hown13 rfl (Cells.add hB13.cells) (by simp; rfl) (by omega) (by omega)) ?_
                rintro vw2 w14 ⟨hown14, hfr14, hk14, _⟩
                have hsz12 := hk12.size
                have hsz13 := hk13.size
                refine WO.op rfl rfl rfl (R.assign rfl) ?_
                refine WO.nil (WX.blockN (WX.next (WC.region ?_)))
                refine WO.op rfl rfl rfl (R.add rfl rfl (wrap_i64_in (by omega))) ?_
                refine WO.op rfl rfl rfl (R.move rfl) ?_
                refine WO.nil ?_
                refine WX.back ((k + 1, vw2)) (Sub.cons rfl (Sub.cons rfl (Sub.cons rfl (Sub.cons rfl (Sub.cons rfl (Sub.cons rfl Sub.nil)))))) (⟨by omega, ?_, ?_, ?_⟩) (by first | omega | (dsimp only; omega))
                · rw [marked_yes hs, List.length_append, List.flatMap_append]
                  exact hown14
                · intro q hq
                  rcases hfr14 with h | ⟨q', h, h'⟩
                  · exact hfr q (by rw [← h]; exact hq)
                  · rw [h] at hq; cases hq; omega
                · exact (hk12.ext hk13).trans hk14 (fun q hq h => by have := hfr q h; omega)
              · rw [hsf] at hs
                refine WC.skip (WX.blockN (WX.next (WC.region ?_)))
                refine WO.op rfl rfl rfl (R.add rfl rfl (wrap_i64_in (by omega))) ?_
                refine WO.op rfl rfl rfl (R.move rfl) ?_
                refine WO.nil ?_
                refine WX.back ((k + 1, vw)) (Sub.cons rfl (Sub.cons rfl (Sub.cons rfl (Sub.cons rfl (Sub.cons rfl (Sub.cons rfl Sub.nil)))))) (⟨by omega, by rw [marked_no hs]; exact hown, hfr, hk12⟩) (by first | omega | (dsimp only; omega))
            · have hkm' : k = m := by omega
              subst hkm'
              rw [hlast] at hown
              have hslw : SlR 1 RInt (fun _ => True) w12 vw L := SlR.ofRowK (by omega) encI encI_len (fun x _ => rfl) hown (fun _ _ => trivial)
              have hsL12 : SlR 1 RInt (fun b => w3.heap.size ≤ b) w12 u L := (hsL.ext stable_int hk5).ext stable_int ((((hk7.ext hk8).trans hk11 (fun q hq h => by have h : q = bi := h; have := hk7.size; omega))).ext hk12)
              refine WC.exit (WX.thenE (WX.thenE (WX.hit (WX.next (WC.seq (WC.region ?_))))))
              refine WO.op rfl rfl rfl (R.move rfl) ?_
              refine WO.op rfl rfl rfl (R.eql rfl rfl) ?_
              refine WO.op rfl rfl rfl (R.move rfl) ?_
              refine WO.yes rfl rfl rfl ?_
              refine WO.op rfl rfl rfl (R.move rfl) ?_
              refine WO.yes rfl rfl rfl ?_
              refine WO.op rfl rfl rfl (R.move rfl) ?_
              refine WO.yes rfl rfl rfl ?_
              refine WO.call rfl rfl rfl (F.call (vs := [_, _]) Try.call14 rfl) (same_ok L L u vw _ _ w12 hsL12 hslw) ?_
              rintro _ w13 ⟨rfl, hk13⟩
              refine WO.op rfl rfl rfl (R.pickT rfl rfl rfl) ?_
              refine WO.op rfl rfl rfl (R.assign rfl) ?_
              refine WO.nil (WX.next (WC.ret ?_))
              refine WX.ret1 Try.results9 rfl ⟨_, rfl, by simp, (hE11.ext hk12).ext hk13⟩
  ·
    refine WO.no rfl rfl (decide_eq_true (by simpa using hf)) rfl ?_
    refine WO.no rfl rfl (decide_eq_true (by simpa using hf)) rfl ?_
    refine WO.no rfl rfl (decide_eq_true (by simpa using hf)) rfl ?_
    refine WO.op rfl rfl rfl (R.pickT rfl (decide_eq_true (by simpa using hf)) rfl) ?_
    refine WO.nil (WX.next ?_)
    refine WC.tt rfl (rfl) ?_
    refine WC.seq (WC.region ?_)
    refine WO.op rfl rfl rfl (R.assign rfl) ?_
    refine WO.nil (WX.next (WC.ret (WX.thenR ?_)))
    refine WX.ret1 Try.results9 rfl ⟨_, rfl, rfl, hE3⟩
end Go.Proofs.Yteilalejfphkgaa
