/-
  The laws DominanceTree, DominanceWalks: walks. Nothing here is a claim.
-/
import Derived.Test.YteilalejfphkgaaT20
namespace Go.Proofs.Yteilalejfphkgaa
open Go.GL Go.GL.Dom Go.GL.Dfs

theorem lawTree_ok (n root : Int) (es : List (Int × Int)) (ev : Value) (D : Nat → Prop) (w : World) (hes : SlR 2 RPair D w ev es) : Calls Try.prog 3 #[.agg #[.int .i64 n, ev], .int .i64 root] w (Ret fun r w' => r = .bool true ∧ Ext w w') := by
  have hes' := hes
  obtain ⟨ao, cap, rfl, _⟩ := hes'
  refine calls Try.func3 rfl [(0, .agg #[.int .i64 n, .slice ao es.length cap]), (1, .int .i64 root)] 41 ⟨Nat.le_of_ble_eq_true rfl, Try.ntmps3⟩ (argsOk (Sub.cons rfl (Sub.cons rfl Sub.nil))) ?_
  refine WC.seq (WC.region ?_)
  refine WO.mem rfl rfl rfl (M.box rfl rfl) ?_
  rintro _ w1 ⟨b, rfl, hb, hs1, hB1, hk1⟩
  refine WO.op rfl rfl rfl (R.assign rfl) ?_
  refine WO.nil (WX.next (WC.seq (WC.seq (WC.region ?_))))
  refine WO.call rfl rfl rfl (F.call (vs := []) Try.call10 rfl) (known_ok w1) ?_
  rintro _ w2 ⟨rfl, hk2⟩
  have hB2 := hk2.blk hB1 (fun h => h)
  have hes2 := (hes.ext stable_pair hk1).ext stable_pair hk2
  refine WO.op rfl rfl rfl (R.not rfl) ?_
  refine WO.nil (WX.next ?_)
  refine WC.ff rfl (rfl) ?_
  refine WC.skip (WX.next (WC.seq (WC.seq (WC.region ?_))))
  refine WO.op rfl rfl rfl (R.loadK Try.isAgg24 Try.sizeOf24 rfl (by rfl) hB2.cells) ?_
  refine WO.call rfl rfl rfl (F.call (vs := [_]) Try.call11 rfl) (few_ok n es _ D w2 hes2) ?_
  rintro _ w3 ⟨rfl, hk3⟩
  have hB3 := hk3.blk hB2 (fun h => h)
  have hes3 := hes2.ext stable_pair hk3
  have hE3 := (hk1.ext hk2).ext hk3
  refine WO.op rfl rfl rfl (R.notD rfl) ?_
  refine WO.nil (WX.next ?_)
  refine WC.ite rfl (fun hf => ?_) (fun hf => ?_)
  ·
    refine WC.seq (WC.region ?_)
    refine WO.op rfl rfl rfl (R.assign rfl) ?_
    refine WO.nil (WX.next (WC.ret (WX.thenR ?_)))
    refine WX.ret1 Try.results3 rfl ⟨_, rfl, rfl, hE3⟩
  ·
    refine WC.skip (WX.next (WC.seq (WC.region ?_)))
    refine WO.op rfl rfl rfl (R.loadK Try.isAgg24 Try.sizeOf24 rfl (by rfl) hB3.cells) ?_
    refine WO.op rfl rfl rfl (R.move rfl) ?_
    refine WO.call rfl rfl rfl (F.call (vs := [_, _]) Try.call12 rfl) (tree_ok n root es _ D w3 hes3) ?_
    rintro _ w4 ⟨u, rfl, hu0, hu1, hk4⟩
    have hB4 := hk4.blk hB3 (fun h => h)
    have hes4 := hes3.ext stable_pair hk4
    refine WO.op rfl rfl rfl (R.move rfl) ?_
    refine WO.op rfl rfl rfl (R.extract rfl rfl) ?_
    refine WO.op rfl rfl rfl (R.extract rfl rfl) ?_
    refine WO.op rfl rfl rfl (R.assign rfl) ?_
    refine WO.op rfl rfl rfl (R.assign rfl) ?_
    refine WO.nil (WX.next (WC.seq (WC.seq (WC.region ?_))))
    refine WO.op rfl rfl rfl (R.loadK Try.isAgg24 Try.sizeOf24 rfl (by rfl) hB4.cells) ?_
    refine WO.op rfl rfl rfl (R.move rfl) ?_
    refine WO.call rfl rfl rfl (F.call (vs := [_, _]) Try.call13 rfl) (code_ok n root es _ D w4 hes4) ?_
    rintro _ w5 ⟨rfl, hk5⟩
    have hE5 := (hE3.ext hk4).ext hk5
    have hB5 := hk5.blk hB4 (fun h => h)
    have hes5 := hes4.ext stable_pair hk5
    refine WO.op rfl rfl rfl (R.assign rfl) ?_
    refine WO.nil (WX.next (WC.seq (WC.region ?_)))
    refine WO.op rfl rfl rfl (R.move rfl) ?_
    refine WO.op rfl rfl rfl (R.neq rfl rfl) ?_
    refine WO.nil (WX.next ?_)
    refine WC.ite rfl (fun hc => ?_) (fun hc => ?_)
    · have hu := hu0 hc
      subst hu
      refine WC.seq (WC.region ?_)
      refine WO.op rfl rfl rfl (R.move rfl) ?_
      refine WO.op rfl rfl rfl (R.move rfl) ?_
      refine WO.op rfl rfl rfl (R.eql rfl rfl) ?_
      refine WO.op rfl rfl rfl (R.move rfl) ?_
      refine WO.yes rfl rfl (decide_eq_true rfl) ?_
      refine WO.op rfl rfl rfl (R.move rfl) ?_
      refine WO.yes rfl rfl (decide_eq_true rfl) ?_
      refine WO.op rfl rfl rfl (R.lenS rfl Try.runUnderlying27 rfl) ?_
      refine WO.yes rfl rfl (decide_eq_true rfl) ?_
      refine WO.op rfl rfl rfl (R.eql rfl rfl) ?_
      refine WO.op rfl rfl rfl (R.pickT rfl (decide_eq_true rfl) rfl) ?_
      refine WO.op rfl rfl rfl (R.assign rfl) ?_
      refine WO.nil (WX.next (WC.ret (WX.thenR ?_)))
      refine WX.ret1 Try.results3 rfl ⟨_, rfl, by simp, hE5⟩
    · have hc0 : codeOf n es root = 0 := by simpa using hc
      obtain ⟨Rw, order, pl, T, hK, hT⟩ := hu1 hc0
      have hz := code_zero hc0
      obtain ⟨m, rfl⟩ := Int.eq_ofNat_of_zero_le (show 0 ≤ n by omega)
      obtain ⟨rt, rfl⟩ := Int.eq_ofNat_of_zero_le hz.2.1
      simp only [Int.toNat_natCast] at hK
      have hall := (Gr.check_zero hz.1).2.2.2
      rw [hc0]
      refine WC.skip (WX.next (WC.seq (WC.region ?_)))
      refine WO.op rfl rfl rfl (R.move rfl) ?_
      refine WO.op rfl rfl rfl (R.eql rfl rfl) ?_
      refine WO.op rfl rfl rfl (R.move rfl) ?_
      refine WO.yes rfl rfl rfl ?_
      refine WO.op rfl rfl rfl (R.move rfl) ?_
      refine WO.yes rfl rfl rfl ?_
      refine WO.op rfl rfl rfl (R.loadK Try.isAgg24 Try.sizeOf24 rfl (by rfl) hB5.cells) ?_
      refine WO.yes rfl rfl rfl ?_
      refine WO.op rfl rfl rfl (R.move rfl) ?_
      refine WO.yes rfl rfl rfl ?_
      refine WO.call rfl rfl rfl (F.call (vs := [_, _]) Try.call15 rfl) (refTree_ok m rt es _ D w5 hes5 (by omega) hall (by omega)) ?_
      rintro u' w6 ⟨M', T', hM, hT', hsl, hk6⟩
      have hTe := tree_unique hK hall hM hT'
      subst hTe
      refine WO.yes rfl rfl rfl ?_
      refine WO.call rfl rfl rfl (F.call (vs := [_, _]) Try.call14 rfl) (same_ok T T u u' _ _ w6 ((hT.ext stable_int hk5).ext stable_int hk6) hsl) ?_
      rintro _ w7 ⟨rfl, hk7⟩
      refine WO.op rfl rfl rfl (R.pickT rfl rfl rfl) ?_
      refine WO.op rfl rfl rfl (R.assign rfl) ?_
      refine WO.nil (WX.next (WC.ret ?_))
      refine WX.ret1 Try.results3 rfl ⟨_, rfl, by simp, (hE5.ext hk6).ext hk7⟩
end Go.Proofs.Yteilalejfphkgaa
