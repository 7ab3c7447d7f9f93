/-
  Contracts and the mathematics that the proof needs. Nothing here is a claim.
-/
import Derived.Test.YtldhllpogdikdaaGreatKN4
namespace Go.Proofs.YtldhllpogdikdaaGreat
open Go.GL
abbrev In20 (a : Int) : Prop := -1048576 ≤ a ∧ a ≤ 1048576
theorem flatDivide_ok (a b : Int) (w : World) (ha : In20 a) (hb : In20 b) : Calls Tryz.prog 229 #[.int .i64 a, .int .i64 b] w (Ret fun r w' => r = .int .i64 (a.fdiv b) ∧ Ext w w') := by
 have hE := Keep.refl (fun _ => False) w
 refine calls Tryz.func229 rfl [(0, .int .i64 a), (1, .int .i64 b)] 25 ⟨Nat.le_of_ble_eq_true rfl, Tryz.ntmps229⟩ (argsOk (Sub.of rfl)) ?_
 refine WC.sr (WO.a rfl rfl (WO.nil (WX.next (WC.seq (WC.seq (WC.region ?_))))))
 refine WO.mv rfl rfl (WO.o rfl (R.eql rfl rfl) (WO.nil (WX.next ?_)))
 refine WC.ite rfl (fun h0 => ?_) (fun h0 => ?_)
 ·
  subst h0
  refine WC.sr (WO.a rfl rfl (WO.nil (WX.next (WC.ret (WX.thenR ?_)))))
  refine WX.ret1 Tryz.results229 rfl ⟨_, rfl, by rw [Int.fdiv_zero], hE⟩
 ·
  have hd := fdiv_tdiv a b h0
  have hq : (a.tdiv b).natAbs ≤ a.natAbs := Int.natAbs_tdiv_le_natAbs a b
  refine WC.ks (WO.mv rfl rfl (WO.mv rfl rfl (WO.o rfl (R.quo rfl rfl h0 (by omega)) (WO.a rfl rfl (WO.nil (WX.next (WC.seq (WC.seq (WC.region ?_)))))))))
  refine WO.mv rfl rfl (WO.mv rfl rfl (WO.o rfl (R.rem rfl rfl h0 (by omega)) (WO.o rfl (R.neq rfl rfl) (WO.mv rfl rfl (WO.splitP (d := 15) rfl (fun h1 => ?_) (fun h1 => ?_))))))
  ·
   refine WO.yes rfl rfl (dT h1) (WO.mv rfl rfl (WO.yes rfl rfl (dT h1) (WO.o rfl (R.lss rfl rfl) (WO.yes rfl rfl (dT h1) (WO.mv rfl rfl (WO.yes rfl rfl (dT h1) (WO.o rfl (R.lss rfl rfl) (WO.yes rfl rfl (dT h1) (WO.o rfl (R.neqB Tryz.underlying4 rfl rfl) (WO.o rfl (R.pickT rfl (dT h1) rfl) (WO.nil (WX.next ?_))))))))))))
   refine WC.ite rfl (fun h2 => ?_) (fun h2 => ?_)
   ·
    refine WC.region (WO.mv rfl rfl (WO.o rfl (R.sub rfl rfl (wrap_i64_in (by omega))) (WO.a rfl rfl (WO.nr (WO.mv rfl rfl (WO.a rfl rfl (WO.nil (WX.next (WC.ret ?_)))))))))
    refine WX.ret1 Tryz.results229 rfl ⟨_, rfl, by rw [hd, if_pos ⟨h1, h2⟩], hE⟩
   ·
    refine WC.ks (WO.mv rfl rfl (WO.a rfl rfl (WO.nil (WX.next (WC.ret ?_)))))
    refine WX.ret1 Tryz.results229 rfl ⟨_, rfl, by rw [hd, if_neg (fun h => h2 h.2)], hE⟩
  ·
   refine WO.no rfl rfl (dF h1) rfl (WO.no rfl rfl (dF h1) rfl (WO.no rfl rfl (dF h1) rfl (WO.no rfl rfl (dF h1) rfl (WO.no rfl rfl (dF h1) rfl (WO.o rfl (R.pickF rfl (dF h1) rfl) (WO.nil (WX.next ?_)))))))
   refine WC.ff rfl (rfl) (WC.ks (WO.mv rfl rfl (WO.a rfl rfl (WO.nil (WX.next (WC.ret ?_))))))
   refine WX.ret1 Tryz.results229 rfl ⟨_, rfl, by rw [hd, if_neg (fun h => h1 h.1)], hE⟩
theorem mulq_bound (a b : Int) (hb : b ≠ 0) : -(a.natAbs : Int) - b.natAbs ≤ b * a.fdiv b ∧ b * a.fdiv b ≤ (a.natAbs : Int) + b.natAbs := by
 have h := fmod_range a b
 generalize b * a.fdiv b = q at *
 omega
theorem flatModulo_ok (a b : Int) (w : World) (ha : In20 a) (hb : In20 b) : Calls Tryz.prog 230 #[.int .i64 a, .int .i64 b] w (Ret fun r w' => r = .int .i64 (if b = 0 then 0 else a - b * a.fdiv b) ∧ Ext w w') := by
 have hE := Keep.refl (fun _ => False) w
 refine calls Tryz.func230 rfl [(0, .int .i64 a), (1, .int .i64 b)] 14 ⟨Nat.le_of_ble_eq_true rfl, Tryz.ntmps230⟩ (argsOk (Sub.of rfl)) ?_
 refine WC.sr (WO.a rfl rfl (WO.nil (WX.next (WC.seq (WC.seq (WC.region ?_))))))
 refine WO.mv rfl rfl (WO.o rfl (R.eql rfl rfl) (WO.nil (WX.next ?_)))
 refine WC.ite rfl (fun h0 => ?_) (fun h0 => ?_)
 ·
  refine WC.sr (WO.a rfl rfl (WO.nil (WX.next (WC.ret (WX.thenR ?_)))))
  refine WX.ret1 Tryz.results230 rfl ⟨_, rfl, by rw [if_pos h0], hE⟩
 ·
  have hm := mulq_bound a b h0
  refine WC.ks (WO.mv rfl rfl (WO.mv rfl rfl (WO.mv rfl rfl (WO.mv rfl rfl (WO.call rfl rfl rfl (F.call (vs := [_, _]) Tryz.call229 rfl) (flatDivide_ok a b _ ha hb) ?_)))))
  rintro _ wz1 ⟨rfl, hz1⟩
  replace hE := hE.ext hz1
  refine WO.o rfl (R.mul rfl rfl (wrap_i64_in (by omega))) (WO.o rfl (R.sub rfl rfl (wrap_i64_in (by omega))) (WO.a rfl rfl (WO.nil (WX.next (WC.ret ?_)))))
  refine WX.ret1 Tryz.results230 rfl ⟨_, rfl, by rw [if_neg h0], hE⟩
theorem flatBinary_ok (op a b : Int) (w : World) (ha : In20 a) (hb : In20 b) : Calls Tryz.prog 224 #[.int .i64 op, .int .i64 a, .int .i64 b] w (Ret fun r w' => r = .int .i64 (binI op a b) ∧ Ext w w') := by
 have hE := Keep.refl (fun _ => False) w
 have hml := mul_le ha hb
 refine calls Tryz.func224 rfl [(0, .int .i64 op), (1, .int .i64 a), (2, .int .i64 b)] 95 ⟨Nat.le_of_ble_eq_true rfl, Tryz.ntmps224⟩ (argsOk (Sub.of rfl)) ?_
 refine WC.sr (WO.a rfl rfl (WO.nil (WX.next (WC.seq (WC.seq (WC.region ?_))))))
 refine WO.mv rfl rfl (WO.nil (WX.next (WC.block (WC.seq (WC.region ?_)))))
 refine WO.o rfl (R.eql rfl rfl) (WO.a rfl rfl (WO.nil (WX.next ?_)))
 refine WC.ite rfl (fun hh1 => ?_) (fun hh1 => ?_)
 ·
  refine WC.sr (WO.mv rfl rfl (WO.mv rfl rfl (WO.o rfl (R.add rfl rfl (wrap_i64_in (by omega))) (WO.a rfl rfl (WO.nil (WX.next (WC.ret (WX.blockR (WX.thenR ?_)))))))))
  refine WX.ret1 Tryz.results224 rfl ⟨_, rfl, by simp [binI, hh1], hE⟩
 ·
  refine WC.sr (WO.o rfl (R.eql rfl rfl) (WO.a rfl rfl (WO.nil (WX.next ?_))))
  refine WC.ite rfl (fun hh2 => ?_) (fun hh2 => ?_)
  ·
   refine WC.sr (WO.mv rfl rfl (WO.mv rfl rfl (WO.o rfl (R.sub rfl rfl (wrap_i64_in (by omega))) (WO.a rfl rfl (WO.nil (WX.next (WC.ret (WX.blockR (WX.thenR ?_)))))))))
   refine WX.ret1 Tryz.results224 rfl ⟨_, rfl, by simp [binI, hh2], hE⟩
  ·
   refine WC.sr (WO.o rfl (R.eql rfl rfl) (WO.a rfl rfl (WO.nil (WX.next ?_))))
   refine WC.ite rfl (fun hh3 => ?_) (fun hh3 => ?_)
   ·
    refine WC.sr (WO.mv rfl rfl (WO.mv rfl rfl (WO.o rfl (R.mul rfl rfl (wrap_i64_in (by omega))) (WO.a rfl rfl (WO.nil (WX.next (WC.ret (WX.blockR (WX.thenR ?_)))))))))
    refine WX.ret1 Tryz.results224 rfl ⟨_, rfl, by simp [binI, hh3], hE⟩
   ·
    refine WC.sr (WO.o rfl (R.eql rfl rfl) (WO.a rfl rfl (WO.nil (WX.next ?_))))
    refine WC.ite rfl (fun hh4 => ?_) (fun hh4 => ?_)
    ·
     refine WC.sr (WO.mv rfl rfl (WO.mv rfl rfl (WO.call rfl rfl rfl (F.call (vs := [_, _]) Tryz.call229 rfl) (flatDivide_ok a b _ ha hb) ?_)))
     rintro _ wz5 ⟨rfl, hz5⟩
     replace hE := hE.ext hz5
     refine WO.a rfl rfl (WO.nil (WX.next (WC.ret (WX.blockR (WX.thenR ?_)))))
     refine WX.ret1 Tryz.results224 rfl ⟨_, rfl, by simp [binI, hh4], hE⟩
    ·
     refine WC.sr (WO.o rfl (R.eql rfl rfl) (WO.a rfl rfl (WO.nil (WX.next ?_))))
     refine WC.ite rfl (fun hh6 => ?_) (fun hh6 => ?_)
     ·
      refine WC.sr (WO.mv rfl rfl (WO.mv rfl rfl (WO.call rfl rfl rfl (F.call (vs := [_, _]) Tryz.call230 rfl) (flatModulo_ok a b _ ha hb) ?_)))
      rintro _ wz7 ⟨rfl, hz7⟩
      replace hE := hE.ext hz7
      refine WO.a rfl rfl (WO.nil (WX.next (WC.ret (WX.blockR (WX.thenR ?_)))))
      refine WX.ret1 Tryz.results224 rfl ⟨_, rfl, by simp [binI, hh6], hE⟩
     ·
      refine WC.sr (WO.o rfl (R.eql rfl rfl) (WO.a rfl rfl (WO.nil (WX.next ?_))))
      refine WC.ite rfl (fun hh8 => ?_) (fun hh8 => ?_)
      ·
       refine WC.sr (WO.mv rfl rfl (WO.mv rfl rfl (WO.o rfl (R.eql rfl rfl) (WO.call rfl rfl rfl (F.call (vs := [_]) Tryz.call222 rfl) (flatFlag_ok _ _) ?_))))
       rintro _ wz9 ⟨rfl, hz9⟩
       replace hE := hE.ext hz9
       refine WO.a rfl rfl (WO.nil (WX.next (WC.ret (WX.blockR (WX.thenR ?_)))))
       refine WX.ret1 Tryz.results224 rfl ⟨_, rfl, by simp [binI, flagI, hh8], hE⟩
      ·
       refine WC.sr (WO.o rfl (R.eql rfl rfl) (WO.a rfl rfl (WO.nil (WX.next ?_))))
       refine WC.ite rfl (fun hh10 => ?_) (fun hh10 => ?_)
       ·
        refine WC.sr (WO.mv rfl rfl (WO.mv rfl rfl (WO.o rfl (R.neq rfl rfl) (WO.call rfl rfl rfl (F.call (vs := [_]) Tryz.call222 rfl) (flatFlag_ok _ _) ?_))))
        rintro _ wz11 ⟨rfl, hz11⟩
        replace hE := hE.ext hz11
        refine WO.a rfl rfl (WO.nil (WX.next (WC.ret (WX.blockR (WX.thenR ?_)))))
        refine WX.ret1 Tryz.results224 rfl ⟨_, rfl, by simp [binI, flagI, hh10], hE⟩
       ·
        refine WC.sr (WO.o rfl (R.eql rfl rfl) (WO.a rfl rfl (WO.nil (WX.next ?_))))
        refine WC.ite rfl (fun hh12 => ?_) (fun hh12 => ?_)
        ·
         refine WC.sr (WO.mv rfl rfl (WO.mv rfl rfl (WO.o rfl (R.lss rfl rfl) (WO.call rfl rfl rfl (F.call (vs := [_]) Tryz.call222 rfl) (flatFlag_ok _ _) ?_))))
         rintro _ wz13 ⟨rfl, hz13⟩
         replace hE := hE.ext hz13
         refine WO.a rfl rfl (WO.nil (WX.next (WC.ret (WX.blockR (WX.thenR ?_)))))
         refine WX.ret1 Tryz.results224 rfl ⟨_, rfl, by simp [binI, flagI, hh12], hE⟩
        ·
         refine WC.sr (WO.o rfl (R.eql rfl rfl) (WO.a rfl rfl (WO.nil (WX.next ?_))))
         refine WC.ite rfl (fun hh14 => ?_) (fun hh14 => ?_)
         ·
          refine WC.sr (WO.mv rfl rfl (WO.mv rfl rfl (WO.o rfl (R.leq rfl rfl) (WO.call rfl rfl rfl (F.call (vs := [_]) Tryz.call222 rfl) (flatFlag_ok _ _) ?_))))
          rintro _ wz15 ⟨rfl, hz15⟩
          replace hE := hE.ext hz15
          refine WO.a rfl rfl (WO.nil (WX.next (WC.ret (WX.blockR (WX.thenR ?_)))))
          refine WX.ret1 Tryz.results224 rfl ⟨_, rfl, by simp [binI, flagI, hh14], hE⟩
         ·
          refine WC.sr (WO.o rfl (R.eql rfl rfl) (WO.a rfl rfl (WO.nil (WX.next ?_))))
          refine WC.ite rfl (fun hh16 => ?_) (fun hh16 => ?_)
          ·
           refine WC.sr (WO.mv rfl rfl (WO.mv rfl rfl (WO.o rfl (R.gtr rfl rfl) (WO.call rfl rfl rfl (F.call (vs := [_]) Tryz.call222 rfl) (flatFlag_ok _ _) ?_))))
           rintro _ wz17 ⟨rfl, hz17⟩
           replace hE := hE.ext hz17
           refine WO.a rfl rfl (WO.nil (WX.next (WC.ret (WX.blockR (WX.thenR ?_)))))
           refine WX.ret1 Tryz.results224 rfl ⟨_, rfl, by simp [binI, flagI, hh16], hE⟩
          ·
           refine WC.sr (WO.o rfl (R.eql rfl rfl) (WO.a rfl rfl (WO.nil (WX.next ?_))))
           refine WC.ite rfl (fun hh18 => ?_) (fun hh18 => ?_)
           ·
            refine WC.sr (WO.mv rfl rfl (WO.mv rfl rfl (WO.o rfl (R.geq rfl rfl) (WO.call rfl rfl rfl (F.call (vs := [_]) Tryz.call222 rfl) (flatFlag_ok _ _) ?_))))
            rintro _ wz19 ⟨rfl, hz19⟩
            replace hE := hE.ext hz19
            refine WO.a rfl rfl (WO.nil (WX.next (WC.ret (WX.blockR (WX.thenR ?_)))))
            refine WX.ret1 Tryz.results224 rfl ⟨_, rfl, by simp [binI, flagI, hh18], hE⟩
           ·
            refine WC.sr (WO.o rfl (R.eql rfl rfl) (WO.a rfl rfl (WO.nil (WX.next ?_))))
            refine WC.ite rfl (fun hh20 => ?_) (fun hh20 => ?_)
            ·
             refine WC.sr (WO.mv rfl rfl (WO.o rfl (R.neq rfl rfl) (WO.mv rfl rfl (WO.splitP (d := 73) rfl (fun hh21 => ?_) (fun hh21 => ?_)))))
             ·
              refine WO.yes rfl rfl (dT hh21) (WO.mv rfl rfl (WO.yes rfl rfl (dT hh21) (WO.o rfl (R.neq rfl rfl) (WO.o rfl (R.pickT rfl (dT hh21) rfl) (WO.call rfl rfl rfl (F.call (vs := [_]) Tryz.call222 rfl) (flatFlag_ok _ _) ?_)))))
              rintro _ wz22 ⟨rfl, hz22⟩
              replace hE := hE.ext hz22
              refine WO.a rfl rfl (WO.nil (WX.next (WC.ret (WX.blockR (WX.thenR ?_)))))
              refine WX.ret1 Tryz.results224 rfl ⟨_, rfl, by simp [binI, flagI, hh20, hh21], hE⟩
             ·
              refine WO.no rfl rfl (dF hh21) rfl (WO.no rfl rfl (dF hh21) rfl (WO.o rfl (R.pickF rfl (dF hh21) rfl) (WO.call rfl rfl rfl (F.call (vs := [_]) Tryz.call222 rfl) (flatFlag_ok _ _) ?_)))
              rintro _ wz23 ⟨rfl, hz23⟩
              replace hE := hE.ext hz23
              refine WO.a rfl rfl (WO.nil (WX.next (WC.ret (WX.blockR (WX.thenR ?_)))))
              refine WX.ret1 Tryz.results224 rfl ⟨_, rfl, by simp [binI, flagI, hh20, hh21], hE⟩
            ·
             refine WC.sr (WO.o rfl (R.eql rfl rfl) (WO.a rfl rfl (WO.nil (WX.next ?_))))
             refine WC.ite rfl (fun hh24 => ?_) (fun hh24 => ?_)
             ·
              refine WC.sr (WO.mv rfl rfl (WO.o rfl (R.neq rfl rfl) (WO.mv rfl rfl (WO.splitP (d := 82) rfl (fun hh25 => ?_) (fun hh25 => ?_)))))
              ·
               refine WO.no rfl rfl (dT hh25) rfl (WO.no rfl rfl (dT hh25) rfl (WO.o rfl (R.pickT rfl (dT hh25) rfl) (WO.call rfl rfl rfl (F.call (vs := [_]) Tryz.call222 rfl) (flatFlag_ok _ _) ?_)))
               rintro _ wz26 ⟨rfl, hz26⟩
               replace hE := hE.ext hz26
               refine WO.a rfl rfl (WO.nil (WX.next (WC.ret (WX.blockR (WX.thenR ?_)))))
               refine WX.ret1 Tryz.results224 rfl ⟨_, rfl, by simp [binI, flagI, hh24, hh25], hE⟩
              ·
               refine WO.yes rfl rfl (dF hh25) (WO.mv rfl rfl (WO.yes rfl rfl (dF hh25) (WO.o rfl (R.neq rfl rfl) (WO.o rfl (R.pickF rfl (dF hh25) rfl) (WO.call rfl rfl rfl (F.call (vs := [_]) Tryz.call222 rfl) (flatFlag_ok _ _) ?_)))))
               rintro _ wz27 ⟨rfl, hz27⟩
               replace hE := hE.ext hz27
               refine WO.a rfl rfl (WO.nil (WX.next (WC.ret (WX.blockR (WX.thenR ?_)))))
               refine WX.ret1 Tryz.results224 rfl ⟨_, rfl, by simp [binI, flagI, hh24, hh25], hE⟩
             ·
              refine WC.sr (WO.o rfl (R.eql rfl rfl) (WO.a rfl rfl (WO.nil (WX.next ?_))))
              refine WC.ite rfl (fun hh28 => ?_) (fun hh28 => ?_)
              ·
               refine WC.sr (WO.mv rfl rfl (WO.mv rfl rfl (WO.o rfl (R.minI rfl rfl) (WO.a rfl rfl (WO.nil (WX.next (WC.ret (WX.blockR (WX.thenR ?_)))))))))
               refine WX.ret1 Tryz.results224 rfl ⟨_, rfl, by simp [binI, hh28], hE⟩
              ·
               refine WC.skip (WX.blockN (WX.next (WC.seq (WC.region (WO.mv rfl rfl (WO.mv rfl rfl (WO.o rfl (R.maxI rfl rfl) (WO.a rfl rfl (WO.nil (WX.next (WC.ret ?_)))))))))))
               refine WX.ret1 Tryz.results224 rfl ⟨_, rfl, by simp [binI, hh1, hh2, hh3, hh4, hh6, hh8, hh10, hh12, hh14, hh16, hh18, hh20, hh24, hh28], hE⟩
structure TmOk (vs : List Vr) (vals : List Int) (t : Tm) : Prop where
 ops : t.op = 0 ∨ t.op = 24 ∨ t.op = 6 ∨ t.op = 7 ∨ 8 ≤ t.op ∧ t.op ≤ 22 ∨ t.op = 23 ∨ t.op = 25
 k1 : t.op = 6 ∨ t.op = 7 → t.kids.length = 1
 k2 : 8 ≤ t.op ∧ t.op ≤ 22 → t.kids.length = 2
 k3 : t.op = 23 → t.kids.length = 3
 k25 : t.op = 25 → 2 ≤ t.kids.length ∧ t.kids.length ≤ 33
 var : t.op = 24 → 0 ≤ t.n ∧ t.n < vs.length
 self : In20 (valT vals t)
 kid : ∀ k ∈ t.kids, In20 (valT vals k)
theorem tmOk {vs : List Vr} {inp : Bool} (hv : ∀ v ∈ vs, Good (v.low, v.high)) {vals : List Int} (hV : InV vs vals) {t : Tm} (hf : formedT vs inp t = true) (hr : (rng vs t).isSome = true) : TmOk vs vals t ∧ ∀ k ∈ t.kids, formedT vs inp k = true ∧ (rng vs k).isSome = true := by
 obtain ⟨r, hr⟩ := Option.isSome_iff_exists.1 hr
 have hin : ∀ k, formedT vs inp k = true → ∀ r, rng vs k = some r → In20 (valT vals k) := fun k h1 r h2 => by
  have h3 := valT_in hv hV k h1 r h2
  have h4 := rng_good hv k h1 r h2
  unfold Good at h4
  exact ⟨by omega, by omega⟩
 have hself := hin t hf r hr
 rw [formedT_eq, Bool.and_eq_true, Bool.and_eq_true] at hf
 rw [rng_eq, Option.bind_eq_some_iff] at hr
 obtain ⟨l, h1, h2⟩ := hr
 have hlen := rngL_len _ _ h1
 have hgr : ∀ (ks : List Tm) (m : List Rg), rngL vs ks = some m → ∀ k ∈ ks, (rng vs k).isSome = true := by
  intro ks
  induction ks with
  | nil => intro m _ k h; simp at h
  | cons y ys ihy =>
   intro m hm k hk
   simp only [rngL, Option.bind_eq_some_iff, Option.map_eq_some_iff] at hm
   obtain ⟨z, g1, u, g2, rfl⟩ := hm
   rcases List.mem_cons.1 hk with rfl | hk
   · rw [g1]; rfl
   · exact ihy u g2 k hk
 have hkid : ∀ k ∈ t.kids, formedT vs inp k = true ∧ (rng vs k).isSome = true := fun k hk => ⟨formedL_mem hf.2 hk, hgr _ _ h1 k hk⟩
 have hn : NodeOk vs t.op t.n l := nodeOk_of hlen hf.1.1 hf.1.2 (fun x hx => by
  obtain ⟨k, hk, hkx⟩ := rngL_mem _ _ h1 x hx
  exact rng_good hv k (formedL_mem hf.2 hk) x hkx) hv
 refine ⟨⟨?_, fun h => by rw [← hlen]; exact hn.k1 h, fun h => by rw [← hlen]; exact hn.k2 h, fun h => ?_, fun h => by rw [← hlen]; exact hn.k3 (.inr h), hn.var, hself, fun k hk => ?_⟩, hkid⟩
 ·
  by_cases h : 0 ≤ kidsN t.op ∨ kidsN t.op = -2
  ·
   unfold kidsN at h
   repeat' split at h
   all_goals omega
  ·
   exfalso
   have := kidsN_vals t.op
   have h3 := hf.1.1
   rw [kidsFit_no (.inl (by omega))] at h3
   cases h3
 ·
  have h3 := hf.1.1
  unfold kidsFit at h3
  rw [show kidsN t.op = 3 by unfold kidsN; rw [h]; rfl] at h3
  simp at h3; omega
 ·
  obtain ⟨h3, h4⟩ := hkid k hk
  obtain ⟨r', h5⟩ := Option.isSome_iff_exists.1 h4
  exact hin k h3 r' h5
def ValOk (vals : List Int) (k : Tm) : Prop := ∀ (cs : List Value) (D Dv : Nat → Prop) (w : World) (vv : Value), SlR 1 RInt Dv w vv vals → RTm D w k cs → Calls Tryz.prog 207 #[vv, .agg cs.toArray] w (Ret fun r w' => r = .int .i64 (valT vals k) ∧ Ext w w')
theorem kid_ok (vals : List Int) (t : Tm) (i : Nat) (k : Tm) (hk : t.kids[i]? = some k) (b2 b3 : Nat) (vv kv : Value) (D Dv : Nat → Prop) (w : World) (hB2 : Blk w b2 [vv] 50) (hB3 : Blk w b3 [.int .i64 t.op, .int .i64 t.n, kv] 84) (hks : SlR 3 RTm D w kv t.kids) (hvv : SlR 1 RInt Dv w vv vals) (ih : ValOk vals k) :
  Calls Tryz.prog 221 #[.int .i64 i, .pointer (some ⟨b2, 0, none⟩), .pointer (some ⟨b3, 0, none⟩)] w (Ret fun r w' => r = .int .i64 (valT vals k) ∧ Ext w w') := by
 have hE := Keep.refl (fun _ => False) w
 have hi := (List.getElem?_eq_some_iff.1 hk).1
 obtain ⟨a3, c3, rfl⟩ := hks.form
 obtain ⟨bk, ok, ck, hak, _, hck, hRk⟩ := hks.at hk
 obtain ⟨kv', rfl, hkk⟩ := hRk.get
 refine calls Tryz.func221 rfl [(0, .int .i64 i), (1, .pointer (some ⟨b2, 0, none⟩)), (2, .pointer (some ⟨b3, 0, none⟩))] 12 ⟨Nat.le_of_ble_eq_true rfl, Tryz.ntmps221⟩ (argsOk (Sub.of rfl)) ?_
 refine WC.sr (WO.a rfl rfl (WO.nil (WX.next (WC.seq ?_))))
 refine WC.draw (fun q => Ext w q) [] (by kernel_rfl) (fun wd1 hD _ => (WD.take 0 rfl (by kernel_rfl) rfl rfl rfl hD (fun w1 hw1 => R.load Tryz.isAgg50 rfl ((hw1.blk hB2 (fun h => h)).cells 0 _ rfl)) (WD.takeW 1 rfl (by kernel_rfl) rfl rfl rfl (fun w1 => R.fieldAddr Tryz.runUnderlying84 rfl Tryz.sizeOf82 rfl) (WD.take 2 rfl (by kernel_rfl) rfl rfl rfl hD (fun w1 hw1 => R.load Tryz.isAgg82 rfl ((hw1.blk hB3 (fun h => h)).cells 2 _ rfl)) (WD.takeW 3 rfl (by kernel_rfl) rfl rfl rfl (fun w1 => R.move rfl) (WD.takeW 4 rfl (by kernel_rfl) rfl rfl rfl (fun w1 => R.indexS Tryz.runUnderlying82 Tryz.sizeOf84 rfl rfl hak (by omega)) ?_))))))
 refine WD.take 5 rfl (by kernel_rfl) rfl rfl rfl hD (fun w1 hw1 => R.loadK Tryz.isAgg84 Tryz.sizeOf84 rfl (by rfl) (hw1.cells hck (fun h => h))) (WD.call 6 rfl (by kernel_rfl) rfl rfl rfl (F.call (vs := [_, _]) Tryz.call207 rfl) (ih _ D Dv _ _ (hvv.ext stable_int hD) (RTm.put (hkk.ext stable_tm hD))) ?_)
 rintro _ wz2 ⟨rfl, hz2⟩
 replace hD := hD.ext hz2
 refine ⟨fun _ => hD, ?_⟩
 refine WD.takeW 7 rfl (by kernel_rfl) rfl rfl rfl (fun w1 => R.assign rfl) (WD.done (by kernel_rfl) ?_ _)
 replace hE := hE.ext hD
 refine WX.next (WC.ret (WX.ret1 Tryz.results221 rfl ⟨_, rfl, rfl, hE⟩))
theorem value_ok {vs : List Vr} {inp : Bool} (hv : ∀ v ∈ vs, Good (v.low, v.high)) {vals : List Int} (hV : InV vs vals) (t : Tm) : formedT vs inp t = true → (rng vs t).isSome = true → ValOk vals t := by
 induction t using Tm.ind with
 | h t ih =>
 intro hf hr cs D Dv w vv hvv ht
 obtain ⟨ok, hkf⟩ := tmOk hv hV hf hr
 have ihk : ∀ k ∈ t.kids, ValOk vals k := fun k hk => ih k hk (hkf k hk).1 (hkf k hk).2
 obtain ⟨kv, rfl, hks⟩ := ht.get
 obtain ⟨a3, c3, rfl⟩ := hks.form
 obtain ⟨av, cv, rfl⟩ := hvv.form
 have hve := valT_eq vals t
 have hops := ok.ops
 have hE := Keep.refl (fun _ => False) w
 refine calls Tryz.func207 rfl [(0, .slice av vals.length cv), (1, .agg #[.int .i64 t.op, .int .i64 t.n, .slice a3 t.kids.length c3])] 59 ⟨Nat.le_of_ble_eq_true rfl, Tryz.ntmps207⟩ (argsOk (Sub.of rfl)) ?_
 refine WC.sr (WO.mem rfl rfl rfl (M.box rfl rfl) ?_)
 rintro _ w_b2 ⟨b2, rfl, hg_b2, hs_b2, hB_b2, hk_b2⟩
 have hge_b2 : _ ≤ b2 := Nat.le_trans hE.size (Nat.le_of_eq hg_b2.symm)
 replace hE := hE.ext hk_b2
 replace hks := hks.ext stable_tm hk_b2
 replace hvv := hvv.ext stable_int hk_b2
 refine WO.mem rfl rfl rfl (M.box rfl rfl) ?_
 rintro _ w_b3 ⟨b3, rfl, hg_b3, hs_b3, hB_b3, hk_b3⟩
 have hn_b2_b3 : b2 ≠ b3 := by have := hB_b2.lt; omega
 have hge_b3 : _ ≤ b3 := Nat.le_trans hE.size (Nat.le_of_eq hg_b3.symm)
 replace hE := hE.ext hk_b3
 replace hks := hks.ext stable_tm hk_b3
 replace hvv := hvv.ext stable_int hk_b3
 replace hB_b2 := hk_b3.blk hB_b2 (fun h => h)
 refine WO.a rfl rfl (WO.nr (WO.o rfl (R.makeFunc (fs := []) (cs := [_, _]) rfl rfl) (WO.a rfl rfl (WO.nil (WX.next (WC.seq (WC.seq (WC.region ?_))))))))
 refine WO.o rfl (R.fieldAddr Tryz.runUnderlying84 rfl Tryz.sizeOf81 rfl) (WO.o rfl (R.load Tryz.isAgg81 rfl (hB_b3.cells 0 _ rfl)) (WO.nil (WX.next (WC.block (WC.seq (WC.region ?_))))))
 refine WO.o rfl (R.eql rfl rfl) (WO.a rfl rfl (WO.nil (WX.next ?_)))
 have hkid : ∀ (i : Int) (j : Nat) (k : Tm), i = (j : Int) → t.kids[j]? = some k → ∀ w', Ext w_b3 w' → Calls Tryz.prog 221 #[.int .i64 i, .pointer (some ⟨b2, 0, none⟩), .pointer (some ⟨b3, 0, none⟩)] w' (Ret fun r w'' => r = .int .i64 (valT vals k) ∧ Ext w' w'') := fun i j k hij hk w' hw' => by
  subst hij
  exact kid_ok vals t j k hk b2 b3 _ _ D Dv w' (hw'.blk hB_b2 (fun h => h)) (hw'.blk hB_b3 (fun h => h)) (hks.ext stable_tm hw') (hvv.ext stable_int hw') (ihk k (List.mem_of_getElem? hk))
 have hget : ∀ i : Nat, i < t.kids.length → ∃ k, t.kids[i]? = some k ∧ lki (valL vals t.kids) i = valT vals k ∧ In20 (valT vals k) := fun i hi => by
  obtain ⟨k, hk⟩ : ∃ k, t.kids[i]? = some k := ⟨_, List.getElem?_eq_getElem hi⟩
  exact ⟨k, hk, valL_get hk, ok.kid k (List.mem_of_getElem? hk)⟩
 have hX := Keep.refl (fun _ => False) w_b3
 refine WC.ite rfl (fun c0 => ?_) (fun c0 => ?_)
 ·
  refine WC.sr (WO.o rfl (R.fieldAddr Tryz.runUnderlying84 rfl Tryz.sizeOf3 rfl) (WO.o rfl (R.load Tryz.isAgg3 rfl (hB_b3.cells 1 _ rfl)) (WO.a rfl rfl (WO.nil (WX.next (WC.ret (WX.blockR (WX.thenR ?_))))))))
  refine WX.ret1 Tryz.results207 rfl ⟨_, rfl, by rw [hve, valOf, if_pos c0], hE⟩
 ·
  refine WC.sr (WO.o rfl (R.eql rfl rfl) (WO.a rfl rfl (WO.nil (WX.next ?_))))
  refine WC.ite rfl (fun c24 => ?_) (fun c24 => ?_)
  ·
   have hn := ok.var c24
   have hln := hV.len
   obtain ⟨bx, ox, cx, hax, _, hcx, rfl⟩ := hvv.at (lki_at (l := vals) (i := t.n.toNat) (by omega))
   refine WC.sr (WO.o rfl (R.load Tryz.isAgg50 rfl (hB_b2.cells 0 _ rfl)) (WO.o rfl (R.fieldAddr Tryz.runUnderlying84 rfl Tryz.sizeOf3 rfl) (WO.o rfl (R.load Tryz.isAgg3 rfl (hB_b3.cells 1 _ rfl)) (WO.o rfl (R.indexS Tryz.runUnderlying50 Tryz.sizeOf3 rfl rfl hax (by omega)) (WO.o rfl (R.load Tryz.isAgg3 rfl (hcx 0 _ rfl)) (WO.a rfl rfl (WO.nil (WX.next (WC.ret (WX.blockR (WX.thenR ?_)))))))))))
   refine WX.ret1 Tryz.results207 rfl ⟨_, rfl, by rw [hve, valOf, if_neg c0, if_pos c24], hE⟩
  ·
   refine WC.sr (WO.o rfl (R.eql rfl rfl) (WO.a rfl rfl (WO.nil (WX.next ?_))))
   refine WC.ite rfl (fun c6 => ?_) (fun c6 => ?_)
   ·
    have h1 := ok.k1 (.inl c6)
    obtain ⟨k0, hk0, hl0, hi0⟩ := hget 0 (by omega)
    refine WC.sr (WO.mv rfl rfl (WO.call rfl rfl rfl (F.callV (vs := [_]) Tryz.call221 rfl rfl) (hkid 0 0 k0 rfl hk0 _ hX) ?_))
    rintro _ wz1 ⟨rfl, hz1⟩
    replace hE := hE.ext hz1
    replace hks := hks.ext stable_tm hz1
    replace hvv := hvv.ext stable_int hz1
    replace hB_b2 := hz1.blk hB_b2 (fun h => h)
    replace hB_b3 := hz1.blk hB_b3 (fun h => h)
    replace hX := hX.ext hz1
    refine WO.o rfl (R.neg rfl (wrap_i64_in (by omega))) (WO.a rfl rfl (WO.nil (WX.next (WC.ret (WX.blockR (WX.thenR ?_))))))
    refine WX.ret1 Tryz.results207 rfl ⟨_, rfl, by rw [hve, valOf, if_neg c0, if_neg c24, if_pos c6, hl0], hE⟩
   ·
    refine WC.sr (WO.o rfl (R.eql rfl rfl) (WO.a rfl rfl (WO.nil (WX.next ?_))))
    refine WC.ite rfl (fun c7 => ?_) (fun c7 => ?_)
    ·
     have h1 := ok.k1 (.inr c7)
     obtain ⟨k0, hk0, hl0, hi0⟩ := hget 0 (by omega)
     refine WC.sr (WO.mv rfl rfl (WO.call rfl rfl rfl (F.callV (vs := [_]) Tryz.call221 rfl rfl) (hkid 0 0 k0 rfl hk0 _ hX) ?_))
     rintro _ wz2 ⟨rfl, hz2⟩
     replace hE := hE.ext hz2
     replace hks := hks.ext stable_tm hz2
     replace hvv := hvv.ext stable_int hz2
     replace hB_b2 := hz2.blk hB_b2 (fun h => h)
     replace hB_b3 := hz2.blk hB_b3 (fun h => h)
     replace hX := hX.ext hz2
     refine WO.o rfl (R.eql rfl rfl) (WO.call rfl rfl rfl (F.call (vs := [_]) Tryz.call222 rfl) (flatFlag_ok _ _) ?_)
     rintro _ wz3 ⟨rfl, hz3⟩
     replace hE := hE.ext hz3
     replace hks := hks.ext stable_tm hz3
     replace hvv := hvv.ext stable_int hz3
     replace hB_b2 := hz3.blk hB_b2 (fun h => h)
     replace hB_b3 := hz3.blk hB_b3 (fun h => h)
     replace hX := hX.ext hz3
     refine WO.a rfl rfl (WO.nil (WX.next (WC.ret (WX.blockR (WX.thenR ?_)))))
     refine WX.ret1 Tryz.results207 rfl ⟨_, rfl, by rw [hve, valOf, if_neg c0, if_neg c24, if_neg c6, if_pos c7, hl0]; rfl, hE⟩
    ·
     refine WC.sr (WO.o rfl (R.eql rfl rfl) (WO.a rfl rfl (WO.nil (WX.next ?_))))
     refine WC.ite rfl (fun c23 => ?_) (fun c23 => ?_)
     ·
      have h1 := ok.k3 c23
      obtain ⟨k0, hk0, hl0, hi0⟩ := hget 0 (by omega)
      obtain ⟨k1, hk1, hl1, hi1⟩ := hget 1 (by omega)
      obtain ⟨k2, hk2, hl2, hi2⟩ := hget 2 (by omega)
      refine WC.seq (WC.seq (WC.region (WO.mv rfl rfl (WO.call rfl rfl rfl (F.callV (vs := [_]) Tryz.call221 rfl rfl) (hkid 0 0 k0 rfl hk0 _ hX) ?_))))
      rintro _ wz4 ⟨rfl, hz4⟩
      replace hE := hE.ext hz4
      replace hks := hks.ext stable_tm hz4
      replace hvv := hvv.ext stable_int hz4
      replace hB_b2 := hz4.blk hB_b2 (fun h => h)
      replace hB_b3 := hz4.blk hB_b3 (fun h => h)
      replace hX := hX.ext hz4
      refine WO.o rfl (R.neq rfl rfl) (WO.nil (WX.next ?_))
      refine WC.ite rfl (fun z => ?_) (fun z => ?_)
      ·
       refine WC.sr (WO.mv rfl rfl (WO.call rfl rfl rfl (F.callV (vs := [_]) Tryz.call221 rfl rfl) (hkid 1 1 k1 rfl hk1 _ hX) ?_))
       rintro _ wz5 ⟨rfl, hz5⟩
       replace hE := hE.ext hz5
       replace hks := hks.ext stable_tm hz5
       replace hvv := hvv.ext stable_int hz5
       replace hB_b2 := hz5.blk hB_b2 (fun h => h)
       replace hB_b3 := hz5.blk hB_b3 (fun h => h)
       replace hX := hX.ext hz5
       refine WO.a rfl rfl (WO.nil (WX.next (WC.ret (WX.thenR (WX.blockR (WX.thenR ?_))))))
       refine WX.ret1 Tryz.results207 rfl ⟨_, rfl, by rw [hve, valOf, if_neg c0, if_neg c24, if_neg c6, if_neg c7, if_pos c23, hl0, if_pos z, hl1], hE⟩
      ·
       refine WC.ks (WO.mv rfl rfl (WO.call rfl rfl rfl (F.callV (vs := [_]) Tryz.call221 rfl rfl) (hkid 2 2 k2 rfl hk2 _ hX) ?_))
       rintro _ wz6 ⟨rfl, hz6⟩
       replace hE := hE.ext hz6
       replace hks := hks.ext stable_tm hz6
       replace hvv := hvv.ext stable_int hz6
       replace hB_b2 := hz6.blk hB_b2 (fun h => h)
       replace hB_b3 := hz6.blk hB_b3 (fun h => h)
       replace hX := hX.ext hz6
       refine WO.a rfl rfl (WO.nil (WX.next (WC.ret (WX.blockR (WX.thenR ?_)))))
       refine WX.ret1 Tryz.results207 rfl ⟨_, rfl, by rw [hve, valOf, if_neg c0, if_neg c24, if_neg c6, if_neg c7, if_pos c23, hl0, if_neg z, hl2], hE⟩
     ·
      refine WC.sr (WO.o rfl (R.eql rfl rfl) (WO.a rfl rfl (WO.nil (WX.next ?_))))
      refine WC.ite rfl (fun c25 => ?_) (fun c25 => ?_)
      ·
       have h1 := ok.k25 c25
       obtain ⟨k0, hk0, hl0, hi0⟩ := hget 0 (by omega)
       have hcl := clampI_range (valT vals k0) (show (0 : Int) ≤ (t.kids.length : Int) - 2 by omega)
       obtain ⟨kj, hkj, hlj, hij⟩ := hget (1 + clampI (valT vals k0) 0 ((t.kids.length : Int) - 2)).toNat (by omega)
       refine WC.seq (WC.draw (fun q => Ext w_b3 q) [] (by kernel_rfl) (fun wd7 hD _ => ?_))
       refine WD.takeW 0 rfl (by kernel_rfl) rfl rfl rfl (fun w1 => R.move rfl) (WD.takeW 1 rfl (by kernel_rfl) rfl rfl rfl (fun w1 => R.move rfl) (WD.takeW 3 rfl (by kernel_rfl) rfl rfl rfl (fun w1 => R.fieldAddr Tryz.runUnderlying84 rfl Tryz.sizeOf82 rfl) (WD.take 4 rfl (by kernel_rfl) rfl rfl rfl hD (fun w1 hw1 => R.load Tryz.isAgg82 rfl ((hw1.blk hB_b3 (fun h => h)).cells 2 _ rfl)) (WD.takeW 5 rfl (by kernel_rfl) rfl rfl rfl (fun w1 => R.lenS rfl Tryz.runUnderlying82 rfl) (WD.takeW 6 rfl (by kernel_rfl) rfl rfl rfl (fun w1 => R.sub rfl rfl (wrap_i64_in (by omega))) (WD.call 2 rfl (by kernel_rfl) rfl rfl rfl (F.callV (vs := [_]) Tryz.call221 rfl rfl) (hkid 0 0 k0 rfl hk0 _ (hX.ext hD)) ?_))))))
       rintro _ wz8 ⟨rfl, hz8⟩
       replace hD := hD.ext hz8
       refine ⟨fun _ => hD, ?_⟩
       refine WD.call 7 rfl (by kernel_rfl) rfl rfl rfl (F.call (vs := [_, _, _]) Tryz.call223 rfl) (flatClamp_ok _ _ _ _ (by omega)) ?_
       rintro _ wz9 ⟨rfl, hz9⟩
       replace hD := hD.ext hz9
       refine ⟨fun _ => hD, ?_⟩
       refine WD.takeW 8 rfl (by kernel_rfl) rfl rfl rfl (fun w1 => R.add rfl rfl (wrap_i64_in (by omega))) (WD.call 9 rfl (by kernel_rfl) rfl rfl rfl (F.callV (vs := [_]) Tryz.call221 rfl rfl) (hkid _ _ kj (by omega) hkj _ (hX.ext hD)) ?_)
       rintro _ wz10 ⟨rfl, hz10⟩
       replace hD := hD.ext hz10
       refine ⟨fun _ => hD, ?_⟩
       refine WD.takeW 10 rfl (by kernel_rfl) rfl rfl rfl (fun w1 => R.assign rfl) (WD.done (by kernel_rfl) ?_ _)
       replace hE := hE.ext hD
       replace hks := hks.ext stable_tm hD
       replace hvv := hvv.ext stable_int hD
       replace hB_b2 := hD.blk hB_b2 (fun h => h)
       replace hB_b3 := hD.blk hB_b3 (fun h => h)
       replace hX := hX.ext hD
       refine WX.next (WC.ret (WX.blockR (WX.thenR (WX.ret1 Tryz.results207 rfl ⟨_, rfl, by rw [hve, valOf, if_neg c0, if_neg c24, if_neg c6, if_neg c7, if_neg c23, if_pos c25, hl0, valL_len, hlj], hE⟩))))
      ·
       have h1 := ok.k2 (by omega)
       obtain ⟨k0, hk0, hl0, hi0⟩ := hget 0 (by omega)
       obtain ⟨k1, hk1, hl1, hi1⟩ := hget 1 (by omega)
       refine WC.skip (WX.blockN (WX.next (WC.seq (WC.draw (fun q => Ext w_b3 q) [] (by kernel_rfl) (fun wd11 hD _ => ?_)))))
       refine WD.takeW 0 rfl (by kernel_rfl) rfl rfl rfl (fun w1 => R.fieldAddr Tryz.runUnderlying84 rfl Tryz.sizeOf81 rfl) (WD.take 1 rfl (by kernel_rfl) rfl rfl rfl hD (fun w1 hw1 => R.load Tryz.isAgg81 rfl ((hw1.blk hB_b3 (fun h => h)).cells 0 _ rfl)) (WD.takeW 2 rfl (by kernel_rfl) rfl rfl rfl (fun w1 => R.move rfl) (WD.takeW 4 rfl (by kernel_rfl) rfl rfl rfl (fun w1 => R.move rfl) (WD.call 3 rfl (by kernel_rfl) rfl rfl rfl (F.callV (vs := [_]) Tryz.call221 rfl rfl) (hkid 0 0 k0 rfl hk0 _ (hX.ext hD)) ?_))))
       rintro _ wz12 ⟨rfl, hz12⟩
       replace hD := hD.ext hz12
       refine ⟨fun _ => hD, ?_⟩
       refine WD.call 5 rfl (by kernel_rfl) rfl rfl rfl (F.callV (vs := [_]) Tryz.call221 rfl rfl) (hkid 1 1 k1 rfl hk1 _ (hX.ext hD)) ?_
       rintro _ wz13 ⟨rfl, hz13⟩
       replace hD := hD.ext hz13
       refine ⟨fun _ => hD, ?_⟩
       refine WD.call 6 rfl (by kernel_rfl) rfl rfl rfl (F.call (vs := [_, _, _]) Tryz.call224 rfl) (flatBinary_ok _ _ _ _ hi0 hi1) ?_
       rintro _ wz14 ⟨rfl, hz14⟩
       replace hD := hD.ext hz14
       refine ⟨fun _ => hD, ?_⟩
       refine WD.takeW 7 rfl (by kernel_rfl) rfl rfl rfl (fun w1 => R.assign rfl) (WD.done (by kernel_rfl) ?_ _)
       replace hE := hE.ext hD
       replace hks := hks.ext stable_tm hD
       replace hvv := hvv.ext stable_int hD
       replace hB_b2 := hD.blk hB_b2 (fun h => h)
       replace hB_b3 := hD.blk hB_b3 (fun h => h)
       replace hX := hX.ext hD
       refine WX.next (WC.ret (WX.ret1 Tryz.results207 rfl ⟨_, rfl, by rw [hve, valOf, if_neg c0, if_neg c24, if_neg c6, if_neg c7, if_neg c23, if_neg c25, hl0, hl1], hE⟩))
theorem flatEval_ok {vs : List Vr} (hg : ∀ v ∈ vs, Good (v.low, v.high)) {vals : List Int} (hV : InV vs vals) (t : Tm) (hf : formedT vs false t = true) (hr : (rng vs t).isSome = true) (hsz : t.nodes ≤ 1000000) (cs : List Value) (D Dv Dl : Nat → Prop) (w : World) (vv lv : Value) (hvs : SlR 5 RVr Dv w vv vs) (hvv : SlR 1 RInt Dl w lv vals) (ht : RTm D w t cs) :
  Calls Tryz.prog 165 #[vv, lv, .agg cs.toArray] w (Ret fun r w' => r = .tuple #[.int .i64 (valT vals t), .int .i64 0] ∧ Ext w w') := by
 have hln := hV.len
 have h1t := ht.one
 obtain ⟨kv, rfl, hks⟩ := ht.get
 obtain ⟨a3, c3, rfl⟩ := hks.form
 obtain ⟨av, cv, rfl⟩ := hvs.form
 obtain ⟨al, cl, rfl⟩ := hvv.form
 have hmx := hvs.max
 have hE := Keep.refl (fun _ => False) w
 refine calls Tryz.func165 rfl [(0, .slice av vs.length cv), (1, .slice al vals.length cl), (2, .agg #[.int .i64 t.op, .int .i64 t.n, .slice a3 t.kids.length c3])] 66 ⟨Nat.le_of_ble_eq_true rfl, Tryz.ntmps165⟩ (argsOk (Sub.of rfl)) ?_
 refine WC.sr (WO.mem rfl rfl rfl (M.box rfl rfl) ?_)
 rintro _ w_b ⟨b, rfl, hg_b, hs_b, hB_b, hk_b⟩
 have hge_b : _ ≤ b := Nat.le_trans hE.size (Nat.le_of_eq hg_b.symm)
 replace hE := hE.ext hk_b
 replace hks := hks.ext stable_tm hk_b
 replace hvs := hvs.ext stable_vr hk_b
 replace hvv := hvv.ext stable_int hk_b
 refine WO.a rfl rfl (WO.a rfl rfl (WO.nil (WX.next (WC.seq (WC.seq (WC.region ?_))))))
 refine WO.mv rfl rfl (WO.o rfl (R.lenS rfl Tryz.runUnderlying50 rfl) (WO.mv rfl rfl (WO.o rfl (R.lenS rfl Tryz.runUnderlying22 rfl) (WO.o rfl (R.neq rfl rfl) (WO.mv rfl rfl (WO.splitP (d := 17) rfl (fun hne => ?_) (fun hne => ?_)))))))
 · exact absurd hne (by omega)
 ·
  refine WO.yes rfl rfl (dF hne) (WO.mv rfl rfl (WO.yes rfl rfl (dF hne) (WO.o rfl (R.loadK Tryz.isAgg84 Tryz.sizeOf84 rfl (by rfl) hB_b.cells) (WO.yes rfl rfl (dF hne) (WO.call rfl rfl rfl (F.call (vs := [_, _, _]) Tryz.call196 rfl) (flatFormed_ok vs false _ Dv t _ D _ hvs (RTm.put hks)) ?_)))))
  rintro _ wz1 ⟨rfl, hz1⟩
  replace hE := hE.ext hz1
  replace hks := hks.ext stable_tm hz1
  replace hvs := hvs.ext stable_vr hz1
  replace hvv := hvv.ext stable_int hz1
  replace hB_b := hz1.blk hB_b (fun h => h)
  rw [hf]
  refine WO.yes rfl rfl (dF hne) (WO.o rfl (R.notU rfl (by first | exact not_decide_eq | rfl)) (WO.o rfl (R.pickF rfl (dF hne) rfl) (WO.nil (WX.next ?_))))
  refine WC.ff rfl (rfl) (WC.skip (WX.next (WC.seq (WC.seq (WC.region ?_)))))
  refine WO.mv rfl rfl (WO.o rfl (R.lenS rfl Tryz.runUnderlying22 rfl) (WO.mv rfl rfl (WO.nil (WX.next (WC.block ?_)))))
  refine WC.loop (σ := Nat) (fun i => [(0, .slice av vs.length cv), (1, .slice al vals.length cl), (5, .pointer (some ⟨b, 0, none⟩)), (23, .slice av vs.length cv), (24, .int .i64 vs.length), (25, .int .i64 i)]) (fun i => fun w' => i ≤ vs.length ∧ Ext wz1 w') (fun i => vs.length - i) (0) (Sub.of rfl) (⟨Nat.zero_le _, Keep.refl _ _⟩) ?_
  rintro i w2 ⟨hi, hL1⟩
  show WC _ _ _ _ [(0, .slice av vs.length cv), (1, .slice al vals.length cl), (5, .pointer (some ⟨b, 0, none⟩)), (23, .slice av vs.length cv), (24, .int .i64 vs.length), (25, .int .i64 i)] _
  replace hE := hE.ext hL1
  replace hks := hks.ext stable_tm hL1
  replace hvs := hvs.ext stable_vr hL1
  replace hvv := hvv.ext stable_int hL1
  replace hB_b := hL1.blk hB_b (fun h => h)
  refine WC.sr (WO.o rfl (R.lss rfl rfl) (WO.nil (WX.next (WC.seq ?_))))
  refine WC.ite rfl (fun hlt => ?_) (fun hge => ?_)
  ·
   obtain ⟨x, he_x⟩ : ∃ x, vs[i]? = some x := ⟨_, List.getElem?_eq_getElem (by omega)⟩
   have hm_x := List.mem_of_getElem? he_x
   obtain ⟨b_x, o_x, c_x, ha_x, _, hc_x, hR_x⟩ := hvs.at he_x
   have h1_x := RVr.one hR_x
   obtain rfl := hR_x
   have hlt_x : b_x < _ := World.block_lt_of_cell? _ _ (hc_x 0 _ rfl)
   have hgx := hg x hm_x
   have hbb : bndB x.low x.high = true := by unfold Good at hgx; unfold bndB; exact decide_eq_true ⟨hgx.2.1, hgx.1, hgx.2.2⟩
   have hin := hV.at_ i x he_x
   obtain ⟨bx, ox, cx, hax, _, hcx, hrx⟩ := hvv.at (lki_at (l := vals) (i := i) (by omega))
   obtain rfl := hrx
   refine WC.skip (WX.next (WC.seq (WC.block (WC.seq (WC.region (WO.mv rfl rfl (WO.o rfl (R.indexS Tryz.runUnderlying22 Tryz.sizeOf125 rfl rfl ha_x (by omega)) (WO.o rfl (R.loadK Tryz.isAgg125 Tryz.sizeOf125 rfl (by rfl) hc_x) (WO.mem rfl rfl rfl (M.alloc (cs := _) Tryz.zeroValue125 rfl) ?_)))))))))
   rintro _ wa2 ⟨c, rfl, hg_c, hs_c, hB_c, hk_c⟩
   refine WO.a rfl rfl (WO.mem0 rfl rfl (M.storeK Tryz.sizeOf125 rfl rfl rfl rfl h1_x hB_c (by simp)) ?_)
   rintro w_c ⟨_, hB_c, hkk_c⟩
   replace hk_c := hk_c.trans hkk_c (fun q hq h => by have h : q = c := h; omega)
   have hn_b_c : b ≠ c := by have := hB_b.lt; omega
   have hge_c : _ ≤ c := Nat.le_trans hE.size (Nat.le_of_eq hg_c.symm)
   replace hE := hE.ext hk_c
   replace hks := hks.ext stable_tm hk_c
   replace hvs := hvs.ext stable_vr hk_c
   replace hvv := hvv.ext stable_int hk_c
   replace hB_b := hk_c.blk hB_b (fun h => h)
   replace hL1 := hL1.ext hk_c
   replace hc_x := hk_c.cells hc_x (fun h => h)
   replace hcx := hk_c.cells hcx (fun h => h)
   refine WO.nil (WX.next (WC.seq (WC.draw (fun q => Ext w_c q) [] (by kernel_rfl) (fun wd3 hD _ => ?_))))
   refine WD.takeW 0 rfl (by kernel_rfl) rfl rfl rfl (fun w1 => R.fieldAddr Tryz.runUnderlying125 rfl Tryz.sizeOf3 rfl) (WD.take 1 rfl (by kernel_rfl) rfl rfl rfl hD (fun w1 hw1 => R.load Tryz.isAgg3 rfl ((hw1.blk hB_c (fun h => h)).cells 2 _ rfl)) (WD.takeW 2 rfl (by kernel_rfl) rfl rfl rfl (fun w1 => R.fieldAddr Tryz.runUnderlying125 rfl Tryz.sizeOf3 rfl) (WD.take 3 rfl (by kernel_rfl) rfl rfl rfl hD (fun w1 hw1 => R.load Tryz.isAgg3 rfl ((hw1.blk hB_c (fun h => h)).cells 3 _ rfl)) (WD.call 4 rfl (by kernel_rfl) rfl rfl rfl (F.call (vs := [_, _]) Tryz.call152 rfl) (flatBounded_ok x.low x.high _) ?_))))
   rintro _ wz4 ⟨rfl, hz4⟩
   replace hD := hD.ext hz4
   refine ⟨fun _ => hD, ?_⟩
   refine WD.takeW 5 rfl (by kernel_rfl) rfl rfl rfl (fun w1 => R.notU rfl (by first | exact not_decide_eq | rfl)) (WD.takeW 6 rfl (by kernel_rfl) rfl rfl rfl (fun w1 => R.move rfl) (WD.splitB (d := 36) rfl (fun n3 => ?_) (fun n3 => ?_)))
   · rw [hbb] at n3; cases n3
   ·
    refine WD.takeG 7 rfl (by kernel_rfl) rfl rfl hD (.inl ⟨fun a ha => wanted_yes ha rfl rfl rfl n3, fun w1 hw1 => R.move rfl⟩) (WD.takeG 8 rfl (by kernel_rfl) rfl rfl hD (.inl ⟨fun a ha => wanted_yes ha rfl rfl rfl n3, fun w1 hw1 => R.move rfl⟩) (WD.takeG 9 rfl (by kernel_rfl) rfl rfl hD (.inl ⟨fun a ha => wanted_yes ha rfl rfl rfl n3, fun w1 hw1 => R.indexS Tryz.runUnderlying50 Tryz.sizeOf3 rfl rfl hax (by omega)⟩) (WD.takeG 10 rfl (by kernel_rfl) rfl rfl hD (.inl ⟨fun a ha => wanted_yes ha rfl rfl rfl n3, fun w1 hw1 => R.load Tryz.isAgg3 rfl (hw1.cells hcx (fun h => h) 0 _ rfl)⟩) (WD.takeG 11 rfl (by kernel_rfl) rfl rfl hD (.inl ⟨fun a ha => wanted_yes ha rfl rfl rfl n3, fun w1 hw1 => R.fieldAddr Tryz.runUnderlying125 rfl Tryz.sizeOf3 rfl⟩) ?_))))
    refine WD.takeG 12 rfl (by kernel_rfl) rfl rfl hD (.inl ⟨fun a ha => wanted_yes ha rfl rfl rfl n3, fun w1 hw1 => R.load Tryz.isAgg3 rfl ((hw1.blk hB_c (fun h => h)).cells 2 _ rfl)⟩) (WD.takeG 13 rfl (by kernel_rfl) rfl rfl hD (.inl ⟨fun a ha => wanted_yes ha rfl rfl rfl n3, fun w1 hw1 => R.lss rfl rfl⟩) (WD.takeW 14 rfl (by kernel_rfl) rfl rfl rfl (fun w1 => R.pickF rfl n3 rfl) (WD.takeW 15 rfl (by kernel_rfl) rfl rfl rfl (fun w1 => R.move rfl) (WD.splitP (d := 45) rfl (fun n4 => ?_) (fun n4 => ?_)))))
    · exact absurd n4 (by omega)
    ·
     refine WD.takeG 16 rfl (by kernel_rfl) rfl rfl hD (.inl ⟨fun a ha => wanted_yes ha rfl rfl rfl (dF n4), fun w1 hw1 => R.move rfl⟩) (WD.takeG 17 rfl (by kernel_rfl) rfl rfl hD (.inl ⟨fun a ha => wanted_yes ha rfl rfl rfl (dF n4), fun w1 hw1 => R.move rfl⟩) (WD.takeG 18 rfl (by kernel_rfl) rfl rfl hD (.inl ⟨fun a ha => wanted_yes ha rfl rfl rfl (dF n4), fun w1 hw1 => R.indexS Tryz.runUnderlying50 Tryz.sizeOf3 rfl rfl hax (by omega)⟩) (WD.takeG 19 rfl (by kernel_rfl) rfl rfl hD (.inl ⟨fun a ha => wanted_yes ha rfl rfl rfl (dF n4), fun w1 hw1 => R.load Tryz.isAgg3 rfl (hw1.cells hcx (fun h => h) 0 _ rfl)⟩) ?_)))
     refine WD.takeG 20 rfl (by kernel_rfl) rfl rfl hD (.inl ⟨fun a ha => wanted_yes ha rfl rfl rfl (dF n4), fun w1 hw1 => R.fieldAddr Tryz.runUnderlying125 rfl Tryz.sizeOf3 rfl⟩) (WD.takeG 21 rfl (by kernel_rfl) rfl rfl hD (.inl ⟨fun a ha => wanted_yes ha rfl rfl rfl (dF n4), fun w1 hw1 => R.load Tryz.isAgg3 rfl ((hw1.blk hB_c (fun h => h)).cells 3 _ rfl)⟩) (WD.takeG 22 rfl (by kernel_rfl) rfl rfl hD (.inl ⟨fun a ha => wanted_yes ha rfl rfl rfl (dF n4), fun w1 hw1 => R.gtr rfl rfl⟩) (WD.takeW 23 rfl (by kernel_rfl) rfl rfl rfl (fun w1 => R.pickF rfl (dF n4) rfl) (WD.done (by kernel_rfl) ?_ _))))
     replace hE := hE.ext hD
     replace hks := hks.ext stable_tm hD
     replace hvs := hvs.ext stable_vr hD
     replace hvv := hvv.ext stable_int hD
     replace hB_b := hD.blk hB_b (fun h => h)
     replace hL1 := hL1.ext hD
     replace hc_x := hD.cells hc_x (fun h => h)
     replace hcx := hD.cells hcx (fun h => h)
     replace hB_c := hD.blk hB_c (fun h => h)
     refine WX.next (WC.ite rfl (fun n5 => ?_) (fun n5 => ?_))
     · exact absurd n5 (by omega)
     · refine WC.skip (WX.blockN (WX.next (WC.region (WO.o rfl (R.add rfl rfl (wrap_i64_in (by omega))) (WO.mv rfl rfl (WO.nil (WX.back (i + 1) (Sub.of rfl) (⟨by omega, hL1⟩) (by first | omega | (dsimp only; omega)))))))))
  ·
   refine WC.exit (WX.thenE (WX.thenE (WX.hit (WX.next (WC.seq (WC.seq (WC.region (WO.mv rfl rfl (WO.o rfl (R.loadK Tryz.isAgg84 Tryz.sizeOf84 rfl (by rfl) hB_b.cells) (WO.call rfl rfl rfl (F.call (vs := [_, _]) Tryz.call197 rfl) (ranged_ok vs false _ Dv hg t _ D _ hvs (RTm.put hks) hf hsz) ?_))))))))))
   rintro _ wz5 ⟨⟨a, b', rfl, hab⟩, hz5⟩
   replace hE := hE.ext hz5
   replace hks := hks.ext stable_tm hz5
   replace hvs := hvs.ext stable_vr hz5
   replace hvv := hvv.ext stable_int hz5
   replace hB_b := hz5.blk hB_b (fun h => h)
   replace hL1 := hL1.ext hz5
   rw [hr]
   refine WO.mv rfl rfl (WO.o rfl (R.extract rfl rfl) (WO.o rfl (R.extract rfl rfl) (WO.mem rfl rfl rfl (M.alloc (cs := _) Tryz.zeroValue243 rfl) ?_)))
   rintro _ wa6 ⟨d, rfl, hg_d, hs_d, hB_d, hk_d⟩
   refine WO.mem0 rfl rfl (M.storeK Tryz.sizeOf243 rfl rfl rfl rfl (by simp [Value.oneCell']) hB_d (by simp)) ?_
   rintro w_d ⟨_, hB_d, hkk_d⟩
   replace hk_d := hk_d.trans hkk_d (fun q hq h => by have h : q = d := h; omega)
   have hn_b_d : b ≠ d := by have := hB_b.lt; omega
   have hge_d : _ ≤ d := Nat.le_trans hE.size (Nat.le_of_eq hg_d.symm)
   replace hE := hE.ext hk_d
   replace hks := hks.ext stable_tm hk_d
   replace hvs := hvs.ext stable_vr hk_d
   replace hvv := hvv.ext stable_int hk_d
   replace hB_b := hk_d.blk hB_b (fun h => h)
   replace hL1 := hL1.ext hk_d
   refine WO.a rfl rfl (WO.nr (WO.mv rfl rfl (WO.o rfl (R.notU rfl (by first | exact not_decide_eq | rfl)) (WO.nil (WX.next ?_)))))
   refine WC.ff rfl (rfl) (WC.ks (WO.mv rfl rfl (WO.o rfl (R.loadK Tryz.isAgg84 Tryz.sizeOf84 rfl (by rfl) hB_b.cells) (WO.call rfl rfl rfl (F.call (vs := [_, _]) Tryz.call207 rfl) (value_ok hg hV t hf hr _ D Dl _ _ hvv (RTm.put hks)) ?_))))
   rintro _ wz7 ⟨rfl, hz7⟩
   replace hE := hE.ext hz7
   replace hks := hks.ext stable_tm hz7
   replace hvs := hvs.ext stable_vr hz7
   replace hvv := hvv.ext stable_int hz7
   replace hB_b := hz7.blk hB_b (fun h => h)
   replace hL1 := hL1.ext hz7
   replace hB_d := hz7.blk hB_d (fun h => h)
   refine WO.a rfl rfl (WO.a rfl rfl (WO.nil (WX.next (WC.ret ?_))))
   refine WX.ret2 Tryz.results165 rfl rfl ⟨_, rfl, rfl, hE⟩
def settleStep (time : Int) (s : Int × Bool) (b : Int) : Int × Bool := if time ≤ b ∧ (s.2 = false ∨ b < s.1) then (b, true) else s
def settleN (bounds : List Int) (time : Int) : Int := (bounds.foldl (settleStep time) (time, false)).1
theorem foldl_take {α β : Type} (f : β → α → β) (b : β) {l : List α} {i : Nat} {x : α} (h : l[i]? = some x) : (l.take (i + 1)).foldl f b = f ((l.take i).foldl f b) x := by rw [take_get h, List.foldl_append]; rfl
theorem flatSettled_ok (l : List Int) (time : Int) (v : Value) (D : Nat → Prop) (w : World) (hl : SlR 1 RInt D w v l) : Calls Tryz.prog 209 #[v, .int .i64 time] w (Ret fun r w' => r = .int .i64 (settleN l time) ∧ Ext w w') := by
 have hmx := hl.max
 obtain ⟨al, cl, rfl⟩ := hl.form
 refine calls Tryz.func209 rfl [(0, .slice al l.length cl), (1, .int .i64 time)] 31 ⟨Nat.le_of_ble_eq_true rfl, Tryz.ntmps209⟩ (argsOk (Sub.of rfl)) ?_
 refine WC.sr (WO.a rfl rfl (WO.nr (WO.mv rfl rfl (WO.a rfl rfl (WO.a rfl rfl (WO.nil (WX.next (WC.seq (WC.seq (WC.region ?_))))))))))
 refine WO.mv rfl rfl (WO.o rfl (R.lenS rfl Tryz.runUnderlying50 rfl) (WO.mv rfl rfl (WO.nil (WX.next (WC.block ?_)))))
 refine WC.loop (σ := Nat × Int × Bool) (fun ⟨i, b, fd⟩ => [(1, .int .i64 time), (5, .int .i64 b), (6, .bool fd), (10, .slice al l.length cl), (11, .int .i64 l.length), (12, .int .i64 i)]) (fun ⟨i, b, fd⟩ => fun w' => i ≤ l.length ∧ (b, fd) = (l.take i).foldl (settleStep time) (time, false) ∧ Ext w w') (fun ⟨i, b, fd⟩ => l.length - i) ((0, time, false)) (Sub.of rfl) (⟨Nat.zero_le _, rfl, Keep.refl _ _⟩) ?_
 rintro ⟨i, b, fd⟩ w1 ⟨hi, hs, hL1⟩
 show WC _ _ _ _ [(1, .int .i64 time), (5, .int .i64 b), (6, .bool fd), (10, .slice al l.length cl), (11, .int .i64 l.length), (12, .int .i64 i)] _
 replace hl := hl.ext stable_int hL1
 refine WC.sr (WO.o rfl (R.lss rfl rfl) (WO.nil (WX.next (WC.seq ?_))))
 refine WC.ite rfl (fun hlt => ?_) (fun hge => ?_)
 ·
  obtain ⟨x, he_x⟩ : ∃ x, l[i]? = some x := ⟨_, List.getElem?_eq_getElem (by omega)⟩
  obtain ⟨bx, ox, cx, hax, _, hcx, rfl⟩ := hl.at he_x
  have hst := foldl_take (settleStep time) (time, false) he_x
  rw [← hs, show settleStep time (b, fd) x = if time ≤ x ∧ (fd = false ∨ x < b) then (x, true) else (b, fd) from rfl] at hst
  refine WC.skip (WX.next (WC.seq (WC.block (WC.seq (WC.region (WO.o rfl (R.indexS Tryz.runUnderlying50 Tryz.sizeOf3 rfl rfl hax (by omega)) (WO.o rfl (R.load Tryz.isAgg3 rfl (hcx 0 _ rfl)) (WO.a rfl rfl (WO.nr (WO.mv rfl rfl (WO.mv rfl rfl (WO.o rfl (R.geq rfl rfl) (WO.mv rfl rfl (WO.splitP (d := 19) rfl (fun h1 => ?_) (fun h1 => ?_)))))))))))))))
  ·
   refine WO.yes rfl rfl (dT h1) (WO.mv rfl rfl (WO.yes rfl rfl (dT h1) (WO.o rfl (R.notU rfl (by first | exact not_decide_eq | rfl)) (WO.yes rfl rfl (dT h1) (WO.mv rfl rfl (WO.splitB (d := 22) rfl (fun h2 => ?_) (fun h2 => ?_)))))))
   ·
    have h2' : fd = false := by simpa using h2
    refine WO.no rfl rfl h2 rfl (WO.no rfl rfl h2 rfl (WO.no rfl rfl h2 rfl (WO.yes rfl rfl (dT h1) (WO.o rfl (R.pickT rfl h2 rfl) (WO.o rfl (R.pickT rfl (dT h1) rfl) (WO.nil (WX.next ?_)))))))
    refine WC.tt rfl (rfl) (WC.region (WO.mv rfl rfl (WO.a rfl rfl (WO.a rfl rfl (WO.nil (WX.blockN (WX.next (WC.region ?_))))))))
    refine WO.o rfl (R.add rfl rfl (wrap_i64_in (by omega))) (WO.mv rfl rfl (WO.nil (WX.back ((i + 1, x, true)) (Sub.of rfl) (⟨by omega, by rw [hst, if_pos ⟨h1, .inl h2'⟩], hL1⟩) (by first | omega | (dsimp only; omega)))))
   ·
    have h2' : fd = true := by simpa using h2
    refine WO.yes rfl rfl h2 (WO.mv rfl rfl (WO.yes rfl rfl h2 (WO.mv rfl rfl (WO.yes rfl rfl h2 (WO.o rfl (R.lss rfl rfl) (WO.yes rfl rfl (dT h1) (WO.o rfl (R.pickF rfl h2 rfl) (WO.o rfl (R.pickT rfl (dT h1) rfl) (WO.nil (WX.next ?_))))))))))
    refine WC.ite rfl (fun h3 => ?_) (fun h3 => ?_)
    ·
     refine WC.region (WO.mv rfl rfl (WO.a rfl rfl (WO.a rfl rfl (WO.nil (WX.blockN (WX.next (WC.region ?_)))))))
     refine WO.o rfl (R.add rfl rfl (wrap_i64_in (by omega))) (WO.mv rfl rfl (WO.nil (WX.back ((i + 1, x, true)) (Sub.of rfl) (⟨by omega, by rw [hst, if_pos ⟨h1, .inr h3⟩], hL1⟩) (by first | omega | (dsimp only; omega)))))
    · refine WC.skip (WX.blockN (WX.next (WC.region (WO.o rfl (R.add rfl rfl (wrap_i64_in (by omega))) (WO.mv rfl rfl (WO.nil (WX.back ((i + 1, b, fd)) (Sub.of rfl) (⟨by omega, by rw [hst, if_neg (fun h => h.2.elim (fun h4 => by rw [h2'] at h4; cases h4) h3)], hL1⟩) (by first | omega | (dsimp only; omega)))))))))
  ·
   refine WO.no rfl rfl (dF h1) rfl (WO.no rfl rfl (dF h1) rfl (WO.no rfl rfl (dF h1) rfl (WO.noU rfl rfl rfl (WO.noU rfl rfl rfl (WO.noU rfl rfl rfl (WO.no rfl rfl (dF h1) rfl (WO.o rfl (R.pickF rfl (dF h1) rfl) (WO.nil (WX.next ?_)))))))))
   refine WC.ff rfl (rfl) (WC.skip (WX.blockN (WX.next (WC.region ?_))))
   refine WO.o rfl (R.add rfl rfl (wrap_i64_in (by omega))) (WO.mv rfl rfl (WO.nil (WX.back ((i + 1, b, fd)) (Sub.of rfl) (⟨by omega, by rw [hst, if_neg (fun h => h1 h.1)], hL1⟩) (by first | omega | (dsimp only; omega)))))
 ·
  have : i = l.length := by omega
  subst this
  rw [List.take_length] at hs
  refine WC.exit (WX.thenE (WX.thenE (WX.hit (WX.next (WC.seq (WC.region (WO.mv rfl rfl (WO.a rfl rfl (WO.nil (WX.next (WC.ret ?_)))))))))))
  refine WX.ret1 Tryz.results209 rfl ⟨_, rfl, by rw [settleN, ← hs], hL1⟩
end Go.Proofs.YtldhllpogdikdaaGreat
namespace Go.GL
section
variable {P : Program} {env : Env} {w : World} {dst : Option Tmp} {ty : TypeId} {pos : String} {aft : Array Edge} {g : Option (Nat × Bool)}
theorem M.make0 {t e : TypeId} {k by' : Nat} {z : Value} {x y : Operand} {m : Nat} {kl kc : IntKind} {zs : List Value} (hu : P.underlying t = some (.slice e)) (he : (P.info? e).map (fun i => (i.zero, i.size, i.bytes)) = some (some z, k, by')) (hx : ev env x = some (.int kl 0)) (hy : ev env y = some (.int kc (m : Int)))
  (hb : by' * m ≤ 281474976710656) (hm : m ≤ 9223372036854775807) (hz : madeCells z.cells (m * k) = zs.toArray) :
  Makes P ⟨dst, .makeSlice t x y, ty, pos, aft, g⟩ env w (fun u w' => ∃ b, u = .slice (some ⟨b, 0, none⟩) 0 m ∧ New w zs e b w') := by
 obtain ⟨i, hi, hz0, hz1, hz2⟩ := info_parts he
 refine ⟨.slice (some ⟨w.heap.size, 0, none⟩) 0 m, w.alloc (.cells zs.toArray e), ?_, _, rfl, New.mk w zs e⟩
 intro n a ha
 have := run_make (P := P) w t e i z hu hi hz0 kl kc 0 (m : Int) (by omega) (by omega) (by rw [hz2]; omega) (by omega)
 rw [hz1] at this
 simp only [Int.toNat_natCast, hz, Int.toNat_zero] at this
 simp [execOp, ha.eval hx, ha.eval hy, this]
end
def pickI (r : Ins) (k : Int) : List Int := if k = 1 then r.secret else if k = 2 then r.pub else r.random
structure StS where
 vals : List Int
 a : Nat
 b : Nat
 c : Nat
def cntK (s : StS) (k : Int) : Nat := if k = 1 then s.a else if k = 2 then s.b else s.c
def bumpK (s : StS) (k : Int) (n : Int) : StS := if k = 1 then ⟨s.vals ++ [n], s.a + 1, s.b, s.c⟩ else if k = 2 then ⟨s.vals ++ [n], s.a, s.b + 1, s.c⟩ else ⟨s.vals ++ [n], s.a, s.b, s.c + 1⟩
def startStep (r : Ins) (o : Option StS) (v : Vr) : Option StS := o.bind fun s => if v.kind = 0 then some { s with vals := s.vals ++ [v.init] } else ((pickI r v.kind)[cntK s v.kind]?).map fun n => bumpK s v.kind n
def startS (vs : List Vr) (r : Ins) : Option StS := vs.foldl (startStep r) (some ⟨[], 0, 0, 0⟩)
def inB (p : Vr × Int) : Bool := decide (p.1.low ≤ p.2) && decide (p.2 ≤ p.1.high)
def startFin (vs : List Vr) (r : Ins) (s : StS) : Int := if s.a ≠ r.secret.length ∨ s.b ≠ r.pub.length ∨ s.c ≠ r.random.length then 1 else if (vs.zip s.vals).all inB then 0 else 3
def startCode (vs : List Vr) (r : Ins) : Int := match startS vs r with
 | none => 1
 | some s => startFin vs r s
def startVals (vs : List Vr) (r : Ins) : List Int := match startS vs r with
 | none => []
 | some s => s.vals
theorem foldl_none (r : Ins) (vs : List Vr) : vs.foldl (startStep r) none = none := by
 induction vs with
 | nil => rfl
 | cons x t ih => rw [List.foldl_cons]; exact ih
theorem startS_none {vs : List Vr} {r : Ins} {i : Nat} (h : (vs.take i).foldl (startStep r) (some ⟨[], 0, 0, 0⟩) = none) : startS vs r = none := by
 have := List.take_append_drop i vs
 rw [startS, ← this, List.foldl_append, h, foldl_none]
theorem startS_take {vs : List Vr} {r : Ins} {i : Nat} {x : Vr} (h : vs[i]? = some x) {s : StS} (hs : (vs.take i).foldl (startStep r) (some ⟨[], 0, 0, 0⟩) = some s) : (vs.take (i + 1)).foldl (startStep r) (some ⟨[], 0, 0, 0⟩) = if x.kind = 0 then some { s with vals := s.vals ++ [x.init] } else ((pickI r x.kind)[cntK s x.kind]?).map fun n => bumpK s x.kind n := by
 rw [take_get h, List.foldl_append, hs]; rfl
theorem bumpK_vals (s : StS) (k n : Int) : (bumpK s k n).vals = s.vals ++ [n] := by
 unfold bumpK
 (repeat' split); all_goals rfl
theorem startS_len {vs : List Vr} {r : Ins} : ∀ (i : Nat) (s : StS), i ≤ vs.length → (vs.take i).foldl (startStep r) (some ⟨[], 0, 0, 0⟩) = some s → s.vals.length = i ∧ s.a ≤ i ∧ s.b ≤ i ∧ s.c ≤ i := by
 intro i
 induction i with
 | zero => intro s _ h; simp at h; subst h; simp
 | succ i ih =>
  intro s hi h
  obtain ⟨x, hx⟩ : ∃ x, vs[i]? = some x := ⟨_, List.getElem?_eq_getElem (by omega)⟩
  cases h1 : (vs.take i).foldl (startStep r) (some ⟨[], 0, 0, 0⟩) with
  | none => rw [take_get hx, List.foldl_append, h1] at h; cases h
  | some s0 =>
   obtain ⟨e1, e2, e3, e4⟩ := ih s0 (by omega) h1
   rw [startS_take hx h1] at h
   split at h
   · cases h; simp; omega
   ·
    obtain ⟨n, _, rfl⟩ := Option.map_eq_some_iff.1 h
    unfold bumpK
    (repeat' split); all_goals (simp; omega)
theorem cntK_bump (s : StS) {k k' : Int} (hk : 1 ≤ k ∧ k ≤ 3) (hk' : 1 ≤ k' ∧ k' ≤ 3) (n : Int) : cntK (bumpK s k n) k' = if k' = k then cntK s k' + 1 else cntK s k' := by
 have h1 : k = 1 ∨ k = 2 ∨ k = 3 := by omega
 have h2 : k' = 1 ∨ k' = 2 ∨ k' = 3 := by omega
 rcases h1 with rfl | rfl | rfl <;> rcases h2 with rfl | rfl | rfl <;> simp [bumpK, cntK]
theorem startS_le {vs : List Vr} {r : Ins} (hkd : ∀ v ∈ vs, 0 ≤ v.kind ∧ v.kind ≤ 3) : ∀ (i : Nat) (s : StS), i ≤ vs.length → (vs.take i).foldl (startStep r) (some ⟨[], 0, 0, 0⟩) = some s → ∀ k, 1 ≤ k → k ≤ 3 → cntK s k ≤ (pickI r k).length := by
 intro i
 induction i with
 | zero => intro s _ h k _ _; simp at h; subst h; unfold cntK; (repeat' split); all_goals simp
 | succ i ih =>
  intro s hi h k hk1 hk3
  obtain ⟨x, hx⟩ : ∃ x, vs[i]? = some x := ⟨_, List.getElem?_eq_getElem (by omega)⟩
  have hkx := hkd x (List.mem_of_getElem? hx)
  cases h1 : (vs.take i).foldl (startStep r) (some ⟨[], 0, 0, 0⟩) with
  | none => rw [take_get hx, List.foldl_append, h1] at h; cases h
  | some s0 =>
   have e1 := ih s0 (by omega) h1 k hk1 hk3
   rw [startS_take hx h1] at h
   split at h
   · cases h; exact e1
   ·
    obtain ⟨n, hn, rfl⟩ := Option.map_eq_some_iff.1 h
    have := (List.getElem?_eq_some_iff.1 hn).1
    rw [cntK_bump s0 (k := x.kind) (by omega) ⟨hk1, hk3⟩]
    split
    · rename_i h2; subst h2; omega
    · exact e1
theorem nodup_len : ∀ {l l' : List Int}, l.Nodup → (∀ x ∈ l, x ∈ l') → l.length ≤ l'.length
 | [], _, _, _ => Nat.zero_le _
 | x :: r, l', h, hs => by
  rw [List.nodup_cons] at h
  have h1 := hs x (List.mem_cons_self ..)
  have h2 := nodup_len (l := r) (l' := l'.erase x) h.2 (fun y hy => by
   refine (List.mem_erase_of_ne ?_).2 (hs y (List.mem_cons_of_mem _ hy))
   rintro rfl; exact h.1 hy)
  rw [List.length_erase_of_mem h1] at h2
  have := List.length_pos_of_mem h1
  simp only [List.length_cons]; omega
theorem RanI.len {w : World} {it m : Nat} {l : List (Int × Value)} {seen : List Int} {cur : Option (Int × Value)} (h : RanI w it m l seen cur) : seen.length ≤ l.length := by
 obtain ⟨es, c, since, sb, c0, h1, h2, h3, h4, h5, h6, h7, h8, h9, h10, h11, _⟩ := h
 have := nodup_len (l := seen) (l' := l.map (·.1)) h10 (fun k hk => by
  obtain ⟨v, hv⟩ := h11 k hk
  exact List.mem_map.2 ⟨(k, v), getM_mem hv, rfl⟩)
 simpa using this
theorem zip_take {vs : List Vr} {i : Nat} {x : Vr} (hx : vs[i]? = some x) (vals : List Int) (hv : vals.length = i) (n : Int) : ((vs.take (i + 1)).zip (vals ++ [n])).all inB = (((vs.take i).zip vals).all inB && inB (x, n)) := by
 have hi := (List.getElem?_eq_some_iff.1 hx).1
 rw [take_get hx, List.zip_append (by rw [List.length_take]; omega), List.all_append]; simp
end Go.GL
namespace Go.Proofs.YtldhllpogdikdaaGreat
open Go.GL
def RestI (D : Nat → Prop) (r : Ins) (s : StS) (w : World) (m : Nat) (l : List (Int × Value)) : Prop :=
 MapI w m l ∧ (∀ k, 1 ≤ k → k ≤ 3 → ∃ v, getM l k = some v ∧ SlR 1 RInt D w v ((pickI r k).drop (cntK s k))) ∧ ∀ p ∈ l, 1 ≤ p.1 ∧ p.1 ≤ 3
theorem RestI.ext {D : Nat → Prop} {r : Ins} {s : StS} {w w' : World} {m : Nat} {l : List (Int × Value)} (h : RestI D r s w m l) (hk : Ext w w') : RestI D r s w' m l :=
 ⟨h.1.ext hk, fun k h1 h3 => by obtain ⟨v, h4, h5⟩ := h.2.1 k h1 h3; exact ⟨v, h4, h5.ext stable_int hk⟩, h.2.2⟩
theorem RestI.keep {D : Nat → Prop} {r : Ins} {s : StS} {w w' : World} {S : Nat → Prop} {m : Nat} {l : List (Int × Value)} (h : RestI D r s w m l) (hk : Keep S w w') (hm : ¬ S m) (hD : ∀ q, D q → ¬ S q) : RestI D r s w' m l :=
 ⟨h.1.keep hk hm, fun k h1 h3 => by obtain ⟨v, h4, h5⟩ := h.2.1 k h1 h3; exact ⟨v, h4, h5.keep stable_int hk (fun q hq _ => hD q hq)⟩, h.2.2⟩
theorem start_ok (f : Fl) (r : Ins) (v1 v2 v3 s1 s2 s3 : Value) (D : Nat → Prop) (w : World) (hf : RFl D w f v1 v2 v3) (h1 : SlR 1 RInt D w s1 r.secret) (h2 : SlR 1 RInt D w s2 r.pub) (h3 : SlR 1 RInt D w s3 r.random) (hDw : ∀ q, D q → q < w.heap.size) (hkd : ∀ v ∈ f.vars, 0 ≤ v.kind ∧ v.kind ≤ 3) (hlen : f.vars.length ≤ 1000) :
  Calls Tryz.prog 121 #[.agg #[v1, v2, v3], .agg #[s1, s2, s3]] w (Ret fun rr w' => (∃ vv, rr = .tuple #[vv, .int .i64 (startCode f.vars r)] ∧ (startCode f.vars r = 0 → w'.ownsRow 0 3 1 vv f.vars.length ((startVals f.vars r).flatMap encI) ∧ ∀ g, vv.ownBlock = some g → w.heap.size ≤ g)) ∧ Ext w w') := by
 have hvs := hf.vars
 obtain ⟨av, cv, rfl⟩ := hvs.form
 refine calls Tryz.func121 rfl [(0, .agg #[.slice av f.vars.length cv, v2, v3]), (1, .agg #[s1, s2, s3])] 86 ⟨Nat.le_of_ble_eq_true rfl, Tryz.ntmps121⟩ (argsOk (Sub.of rfl)) ?_
 refine WC.sr (WO.mem rfl rfl rfl (M.box rfl rfl) ?_)
 rintro _ w1 ⟨b1, rfl, hb1, hs1, hB1, hk1⟩
 refine WO.mem rfl rfl rfl (M.box rfl rfl) ?_
 rintro _ w2 ⟨b2, rfl, hb2, hs2, hB2, hk2⟩
 replace hB1 := hk2.blk hB1 (fun h => h)
 refine WO.a rfl rfl (WO.a rfl rfl (WO.nr (WO.mem rfl rfl rfl (M.makeMap) ?_)))
 rintro _ w3 ⟨m, rfl, hm, hs3, hM, hk3⟩
 replace hB1 := hk3.blk hB1 (fun h => h)
 replace hB2 := hk3.blk hB2 (fun h => h)
 refine WO.o rfl (R.fieldAddr Tryz.runUnderlying52 rfl Tryz.sizeOf50 rfl) (WO.o rfl (R.load Tryz.isAgg50 rfl (hB2.cells 0 _ rfl)) (WO.mem0 rfl rfl (M.insert hM Tryz.underlying220 Tryz.underlying121 rfl rfl rfl) ?_))
 rintro w4 ⟨hM4, hk4, hs4⟩
 have hB14 := hk4.blk hB1 (fun h => hM.ne hB1 h)
 have hB24 := hk4.blk hB2 (fun h => hM.ne hB2 h)
 refine WO.o rfl (R.fieldAddr Tryz.runUnderlying52 rfl Tryz.sizeOf50 rfl) (WO.o rfl (R.load Tryz.isAgg50 rfl (hB24.cells 1 _ rfl)) (WO.mem0 rfl rfl (M.insert hM4 Tryz.underlying220 Tryz.underlying121 rfl rfl rfl) ?_))
 rintro w5 ⟨hM5, hk5, hs5⟩
 have hB15 := hk5.blk hB14 (fun h => hM4.ne hB14 h)
 have hB25 := hk5.blk hB24 (fun h => hM4.ne hB24 h)
 refine WO.o rfl (R.fieldAddr Tryz.runUnderlying52 rfl Tryz.sizeOf50 rfl) (WO.o rfl (R.load Tryz.isAgg50 rfl (hB25.cells 2 _ rfl)) (WO.mem0 rfl rfl (M.insert hM5 Tryz.underlying220 Tryz.underlying121 rfl rfl rfl) ?_))
 rintro w6 ⟨hM6, hk6, hs6⟩
 have hB16 := hk6.blk hB15 (fun h => hM5.ne hB15 h)
 have e6 : setM (setM (setM [] 1 s1) 2 s2) 3 s3 = [(1, s1), (2, s2), (3, s3)] := by simp [setM, lkm]
 rw [e6] at hM6
 have hE3 : Ext w w3 := (hk1.ext hk2).ext hk3
 have hE6 : Ext w w6 := ((hE3.trans hk4 (fun q hq h => by have h : q = m := h; omega)).trans hk5 (fun q hq h => by have h : q = m := h; omega)).trans hk6 (fun q hq h => by have h : q = m := h; omega)
 have hR6 : RestI D r ⟨[], 0, 0, 0⟩ w6 m [(1, s1), (2, s2), (3, s3)] := by
  refine ⟨hM6, fun k q1 q3 => ?_, by simp⟩
  have : k = 1 ∨ k = 2 ∨ k = 3 := by omega
  rcases this with rfl | rfl | rfl
  · exact ⟨s1, by simp [getM, lkm], h1.ext stable_int hE6⟩
  · exact ⟨s2, by simp [getM, lkm], h2.ext stable_int hE6⟩
  · exact ⟨s3, by simp [getM, lkm], h3.ext stable_int hE6⟩
 refine WO.mv rfl rfl (WO.a rfl rfl (WO.nr (WO.o rfl (R.fieldAddr Tryz.runUnderlying26 rfl Tryz.sizeOf22 rfl) (WO.o rfl (R.load Tryz.isAgg22 rfl (hB16.cells 0 _ rfl)) (WO.o rfl (R.lenS rfl Tryz.runUnderlying22 rfl) (WO.mem rfl rfl rfl (M.make0 Tryz.underlying50 Tryz.el3 rfl rfl (by omega) (by omega) (made1 _ _ rfl)) ?_))))))
 rintro _ w7 ⟨g7, rfl, hg7, hs7, hB7, hk7⟩
 have hE7 := hE6.ext hk7
 have hR7 := hR6.ext hk7
 have hB17 := hk7.blk hB16 (fun h => h)
 have ho7 : w7.ownsRow 0 3 1 (.slice (some ⟨g7, 0, none⟩) 0 f.vars.length) 0 (([] : List Int).flatMap encI) := by
  have := own_blk (k := 1) (n := 0) (cap := f.vars.length) hB7 (Nat.zero_le _) (by omega) (by simp)
  simpa using this
 refine WO.a rfl rfl (WO.nr (WO.a rfl rfl (WO.nil (WX.next (WC.seq (WC.seq (WC.region ?_)))))))
 refine WO.o rfl (R.fieldAddr Tryz.runUnderlying26 rfl Tryz.sizeOf22 rfl) (WO.o rfl (R.load Tryz.isAgg22 rfl (hB17.cells 0 _ rfl)) (WO.o rfl (R.lenS rfl Tryz.runUnderlying22 rfl) (WO.mv rfl rfl (WO.nil (WX.next (WC.block ?_))))))
 have hsz7 := hE6.size
 refine WC.loop (σ := Nat × Value × StS × List (Int × Value)) (fun ⟨i, vo, s, l⟩ => [(6, .map (some m)), (7, vo), (8, .int .i64 (if ((f.vars.take i).zip s.vals).all inB then 0 else 3)), (27, .slice av f.vars.length cv), (28, .int .i64 f.vars.length), (29, .int .i64 i)]) (fun ⟨i, vo, s, l⟩ => fun w' => i ≤ f.vars.length ∧ (f.vars.take i).foldl (startStep r) (some ⟨[], 0, 0, 0⟩) = some s ∧ RestI D r s w' m l ∧ w'.ownsRow 0 3 1 vo i (s.vals.flatMap encI) ∧ (∀ g, vo.ownBlock = some g → w.heap.size ≤ g) ∧ Ext w w') (fun ⟨i, vo, s, l⟩ => f.vars.length - i) ((0, .slice (some ⟨g7, 0, none⟩) 0 f.vars.length, ⟨[], 0, 0, 0⟩, [(1, s1), (2, s2), (3, s3)])) (Sub.of rfl) (⟨Nat.zero_le _, rfl, hR7, ho7, fun g hg => by obtain rfl : g7 = g := Option.some.inj hg; omega, hE7⟩) ?_
 rintro ⟨i, vo, s, l⟩ w8 ⟨hi, hfold, hR, ho, hfr, hE⟩
 show WC _ _ _ _ [(6, .map (some m)), (7, vo), (8, .int .i64 (if ((f.vars.take i).zip s.vals).all inB then 0 else 3)), (27, .slice av f.vars.length cv), (28, .int .i64 f.vars.length), (29, .int .i64 i)] _
 have hln := startS_len i s hi hfold
 refine WC.sr (WO.o rfl (R.lss rfl rfl) (WO.nil (WX.next (WC.seq ?_))))
 refine WC.ite rfl (fun hlt => ?_) (fun hge => ?_)
 ·
  have hvs8 := hvs.ext stable_vr hE
  obtain ⟨x, he_x⟩ : ∃ x, f.vars[i]? = some x := ⟨_, List.getElem?_eq_getElem (by omega)⟩
  have hm_x := List.mem_of_getElem? he_x
  obtain ⟨b_x, o_x, c_x, ha_x, _, hc_x, hR_x⟩ := hvs8.at he_x
  have h1_x := RVr.one hR_x
  obtain rfl := hR_x
  have hlt_x : b_x < _ := World.block_lt_of_cell? _ _ (hc_x 0 _ rfl)
  have hkx := hkd x hm_x
  have hst := startS_take he_x hfold
  refine WC.skip (WX.next (WC.seq (WC.block (WC.seq (WC.region (WO.o rfl (R.indexS Tryz.runUnderlying22 Tryz.sizeOf125 rfl rfl ha_x (by omega)) (WO.o rfl (R.loadK Tryz.isAgg125 Tryz.sizeOf125 rfl (by rfl) hc_x) (WO.mem rfl rfl rfl (M.alloc (cs := _) Tryz.zeroValue125 rfl) ?_))))))))
  rintro _ wa1 ⟨c, rfl, hg_c, hs_c, hB_c, hk_c⟩
  refine WO.mem0 rfl rfl (M.storeK Tryz.sizeOf125 rfl rfl rfl rfl h1_x hB_c (by simp)) ?_
  rintro w_c ⟨_, hB_c, hkk_c⟩
  replace hk_c := hk_c.trans hkk_c (fun q hq h => by have h : q = c := h; omega)
  replace hc_x := hk_c.cells hc_x (fun h => h)
  refine WO.nr (WO.o rfl (R.fieldAddr Tryz.runUnderlying125 rfl Tryz.sizeOf3 rfl) (WO.o rfl (R.load Tryz.isAgg3 rfl (hB_c.cells 4 _ rfl)) (WO.a rfl rfl (WO.nil (WX.next (WC.seq (WC.seq (WC.region ?_))))))))
  refine WO.o rfl (R.fieldAddr Tryz.runUnderlying125 rfl Tryz.sizeOf121 rfl) (WO.o rfl (R.load Tryz.isAgg121 rfl (hB_c.cells 1 _ rfl)) (WO.o rfl (R.neq rfl rfl) (WO.nil (WX.next ?_))))
  replace hE := hE.ext hk_c
  replace hR := hR.ext hk_c
  replace ho := own_keep ho hk_c (fun _ _ h => h)
  refine WC.cut (σ := Int × StS × List (Int × Value)) (fun ⟨n, s', l'⟩ => [(6, .map (some m)), (7, vo), (8, .int .i64 (if ((f.vars.take i).zip s.vals).all inB then 0 else 3)), (10, .pointer (some ⟨c, 0, none⟩)), (11, .int .i64 n), (27, .slice av f.vars.length cv), (28, .int .i64 f.vars.length), (29, .int .i64 i)]) (fun ⟨n, s', l'⟩ => fun w' => (f.vars.take (i + 1)).foldl (startStep r) (some ⟨[], 0, 0, 0⟩) = some s' ∧ s'.vals = s.vals ++ [n] ∧ RestI D r s' w' m l' ∧ w'.ownsRow 0 3 1 vo i (s.vals.flatMap encI) ∧ Blk w' c [.string x.name, .int .i64 x.kind, .int .i64 x.low, .int .i64 x.high, .int .i64 x.init] 125 ∧ Ext w w') ?_ ?_
  ·
   refine WC.ite rfl (fun k0 => ?_) (fun k0 => ?_)
   ·
    rw [if_neg k0] at hst
    obtain ⟨v, hgv, hsv⟩ := hR.2.1 x.kind (by omega) (by omega)
    have hle := startS_le (r := r) hkd i s hi hfold x.kind (by omega) (by omega)
    obtain ⟨pa, pc, rfl⟩ := hsv.form
    have hlk : (getM l x.kind).getD (.slice none 0 0) = .slice pa ((pickI r x.kind).drop (cntK s x.kind)).length pc := by rw [hgv]; rfl
    refine WC.seq (WC.seq (WC.region (WO.mv rfl rfl (WO.o rfl (R.fieldAddr Tryz.runUnderlying125 rfl Tryz.sizeOf121 rfl) (WO.o rfl (R.load Tryz.isAgg121 rfl (hB_c.cells 1 _ rfl)) (WO.o rfl (R.lookupI hR.1 Tryz.underlying220 Tryz.underlying121 Tryz.zeroValue50 rfl rfl) ?_))))))
    rw [hlk]
    refine WO.o rfl (R.lenS rfl Tryz.runUnderlying50 rfl) (WO.o rfl (R.eql rfl rfl) (WO.nil (WX.next ?_)))
    refine WC.ite rfl (fun z0 => ?_) (fun z0 => ?_)
    ·
     have hnone : (pickI r x.kind)[cntK s x.kind]? = none := by rw [List.getElem?_eq_none_iff]; rw [List.length_drop] at z0; omega
     rw [hnone] at hst
     have hS : startS f.vars r = none := startS_none (i := i + 1) hst
     have hC : startCode f.vars r = 1 := by unfold startCode; rw [hS]
     refine WC.sr (WO.a rfl rfl (WO.a rfl rfl (WO.nil (WX.next (WC.ret (WX.thenR (WX.thenR (WX.thenR (WX.blockR (WX.thenR (WX.thenR (WX.blockR (WX.thenR ?_)))))))))))))
     refine WX.ret2 Tryz.results121 rfl rfl ⟨_, rfl, ⟨_, by rw [hC], fun h => by rw [hC] at h; cases h⟩, hE⟩
    ·
     obtain ⟨n, hn⟩ : ∃ n, (pickI r x.kind)[cntK s x.kind]? = some n := ⟨_, List.getElem?_eq_getElem (by rw [List.length_drop] at z0; omega)⟩
     rw [hn] at hst
     have hn0 : ((pickI r x.kind).drop (cntK s x.kind))[0]? = some n := by rw [List.getElem?_drop]; exact hn
     have hlen0 := (List.getElem?_eq_some_iff.1 hn0).1
     obtain ⟨bx, ox, cx, hax, hDx, _, hcx, hrx⟩ : ∃ b o cs, pa = some ⟨b, o, none⟩ ∧ D b ∧ cs.length = 1 ∧ Cells w_c b (o + 0 * 1) cs ∧ RInt D w_c n cs := by
      obtain ⟨ao', cap', h1, h2, h3, h4⟩ := hsv
      cases h1
      exact h4 0 n hn0
     obtain rfl := hrx
     refine WC.skip (WX.next (WC.draw (fun q => RestI D r s q m l ∧ Blk q c [.string x.name, .int .i64 x.kind, .int .i64 x.low, .int .i64 x.high, .int .i64 x.init] 125 ∧ Cells q bx (ox + 0 * 1) [.int .i64 n]) [17] (by kernel_rfl) (fun y0 yk0 _ => ?_)))
     have yR0 := hR.ext yk0
     have yB0 := yk0.blk hB_c (fun h => h)
     have yC0 := yk0.cells hcx (fun h => h)
     have yE0 := hE.ext yk0
     have yo0 := own_keep ho yk0 (fun _ _ h => h)
     refine WD.takeW 0 rfl (by kernel_rfl) rfl rfl rfl (fun w1 => R.move rfl) (WD.takeW 1 rfl (by kernel_rfl) rfl rfl rfl (fun w1 => R.fieldAddr Tryz.runUnderlying125 rfl Tryz.sizeOf121 rfl) (WD.take 2 rfl (by kernel_rfl) rfl rfl rfl ⟨yR0, yB0, yC0⟩ (fun w1 hw1 => R.load Tryz.isAgg121 rfl (hw1.2.1.cells 1 _ rfl)) (WD.takeW 3 rfl (by kernel_rfl) rfl rfl rfl (fun w1 => R.move rfl) (WD.takeW 4 rfl (by kernel_rfl) rfl rfl rfl (fun w1 => R.fieldAddr Tryz.runUnderlying125 rfl Tryz.sizeOf121 rfl) (WD.take 5 rfl (by kernel_rfl) rfl rfl rfl ⟨yR0, yB0, yC0⟩ (fun w1 hw1 => R.load Tryz.isAgg121 rfl (hw1.2.1.cells 1 _ rfl)) ?_)))))
     refine WD.take 6 rfl (by kernel_rfl) rfl rfl rfl ⟨yR0, yB0, yC0⟩ (fun w1 hw1 => R.lookupI hw1.1.1 Tryz.underlying220 Tryz.underlying121 Tryz.zeroValue50 rfl rfl) ?_
     rw [hlk]
     refine WD.takeW 7 rfl (by kernel_rfl) rfl rfl rfl (fun w1 => R.indexS Tryz.runUnderlying50 Tryz.sizeOf3 rfl rfl hax (by omega)) (WD.take 8 rfl (by kernel_rfl) rfl rfl rfl ⟨yR0, yB0, yC0⟩ (fun w1 hw1 => R.load Tryz.isAgg3 rfl (hw1.2.2 0 _ rfl)) (WD.takeW 9 rfl (by kernel_rfl) rfl rfl rfl (fun w1 => R.move rfl) (WD.takeW 10 rfl (by kernel_rfl) rfl rfl rfl (fun w1 => R.fieldAddr Tryz.runUnderlying125 rfl Tryz.sizeOf121 rfl) (WD.take 11 rfl (by kernel_rfl) rfl rfl rfl ⟨yR0, yB0, yC0⟩ (fun w1 hw1 => R.load Tryz.isAgg121 rfl (hw1.2.1.cells 1 _ rfl)) (WD.take 12 rfl (by kernel_rfl) rfl rfl rfl ⟨yR0, yB0, yC0⟩ (fun w1 hw1 => R.lookupI hw1.1.1 Tryz.underlying220 Tryz.underlying121 Tryz.zeroValue50 rfl rfl) ?_)))))
     rw [hlk]
     refine WD.takeW 13 rfl (by kernel_rfl) rfl rfl rfl (fun w1 => R.sliceLo Tryz.runUnderlying50 Tryz.sizeOf3 rfl rfl (by omega)) (WD.takeW 14 rfl (by kernel_rfl) rfl rfl rfl (fun w1 => R.assign rfl) (WD.mem 15 rfl (by kernel_rfl) rfl rfl rfl (M.mapEntry yR0.1 hgv Tryz.underlying220 Tryz.underlying121 rfl rfl) ?_))
     rintro _ y1 ⟨st, rfl, hME, yk1, ys1⟩
     have yR1 : RestI D r s y1 m l := ⟨hME.map, fun k q1 q3 => by
      obtain ⟨v, h4, h5⟩ := yR0.2.1 k q1 q3
      exact ⟨v, h4, h5.keep stable_int yk1 (fun q hq _ (h : q = m) => by have := hDw q hq; omega)⟩, yR0.2.2⟩
     have yB1 := yk1.blk yB0 (fun h => yR0.1.ne yB0 h)
     have yC1 := yk1.cells yC0 (fun (h : bx = m) => by have := hDw bx hDx; omega)
     refine ⟨fun _ => ⟨yR1, yB1, yC1⟩, ?_⟩
     refine WD.takeW 16 rfl (by kernel_rfl) rfl rfl rfl (fun w1 => R.extract rfl rfl) (WD.mem0 17 rfl (by kernel_rfl) rfl rfl (M.entryStore hME rfl rfl rfl) ?_)
     rintro y2 ⟨hM2, yk2, ys2⟩
     refine ⟨fun h => absurd (by simp) h, ?_⟩
     refine WD.done (by kernel_rfl) ?_ _
     have yE2 : Ext w y2 := (yE0.trans yk1 (fun q hq (h : q = m) => by omega)).trans yk2 (fun q hq (h : q = m) => by omega)
     have hnm : vo.ownBlock ≠ some m := fun h => by obtain ⟨cs', hb'⟩ := own_blkty yo0 h; exact yR0.1.ne hb' rfl
     refine WX.meet ((n, bumpK s x.kind n, setM l x.kind (.slice (if pc = (1 : Int).toNat then pa else pa.map (·.add ((1 : Int).toNat * 1))) (((pickI r x.kind).drop (cntK s x.kind)).length - (1 : Int).toNat) (pc - (1 : Int).toNat)))) (Sub.of rfl) (⟨hst, bumpK_vals s x.kind n, ⟨hM2, ?_, ?_⟩, own_keep (own_keep yo0 yk1 (fun g hg (h : g = m) => hnm (by rw [← h]; exact hg))) yk2 (fun g hg (h : g = m) => hnm (by rw [← h]; exact hg)), yk2.blk yB1 (fun h => hME.map.ne yB1 h), yE2⟩)
     ·
      intro k q1 q3
      rw [getM_setM hME.map.nodup, cntK_bump s (k := x.kind) (by omega) ⟨q1, q3⟩]
      by_cases hkk : k = x.kind
      ·
       rw [if_pos hkk, if_pos hkk]
       refine ⟨_, rfl, ?_⟩
       have := hsv.drop 1 (by omega)
       rw [List.drop_drop] at this
       rw [hkk]
       exact (this.ext stable_int yk0).keep stable_int (yk1.trans yk2 (fun _ _ h => h)) (fun q hq _ (h : q = m) => by have := hDw q hq; omega)
      ·
       rw [if_neg hkk, if_neg hkk]
       obtain ⟨v, h4, h5⟩ := yR1.2.1 k q1 q3
       exact ⟨v, h4, h5.keep stable_int yk2 (fun q hq _ (h : q = m) => by have := hDw q hq; omega)⟩
     ·
      intro p hp
      have hk1 : p.1 ∈ (setM l x.kind (.slice (if pc = (1 : Int).toNat then pa else pa.map (·.add ((1 : Int).toNat * 1))) (((pickI r x.kind).drop (cntK s x.kind)).length - (1 : Int).toNat) (pc - (1 : Int).toNat))).map (·.1) := List.mem_map.2 ⟨p, hp, rfl⟩
      rw [keys_setM] at hk1
      have hkeys : ∀ k ∈ l.map (·.1), 1 ≤ k ∧ k ≤ 3 := fun k hk => by
       obtain ⟨p', hp', rfl⟩ := List.mem_map.1 hk
       exact yR1.2.2 p' hp'
      split at hk1
      · exact hkeys _ hk1
      ·
       rcases List.mem_append.1 hk1 with h | h
       · exact hkeys _ h
       · rw [List.mem_singleton] at h; omega
   ·
    have hk0 : x.kind = 0 := by omega
    rw [if_pos hk0] at hst
    refine WC.skip (WX.meet ((x.init, { s with vals := s.vals ++ [x.init] }, l)) (Sub.of rfl) (⟨hst, rfl, hR, ho, hB_c, hE⟩))
  ·
   rintro ⟨n, s', l'⟩ w9 ⟨xfold, xvals, xR, xo, hB_c, xE⟩
   show WX _ _ _ [(6, .map (some m)), (7, vo), (8, .int .i64 (if ((f.vars.take i).zip s.vals).all inB then 0 else 3)), (10, .pointer (some ⟨c, 0, none⟩)), (11, .int .i64 n), (27, .slice av f.vars.length cv), (28, .int .i64 f.vars.length), (29, .int .i64 i)] _
   refine WX.next (WC.seq (WC.seq (WC.region (WO.mv rfl rfl (WO.o rfl (R.fieldAddr Tryz.runUnderlying125 rfl Tryz.sizeOf3 rfl) (WO.o rfl (R.load Tryz.isAgg3 rfl (hB_c.cells 2 _ rfl)) (WO.o rfl (R.lss rfl rfl) (WO.mv rfl rfl (WO.splitP (d := 64) rfl (fun n1 => ?_) (fun n1 => ?_))))))))))
   ·
    have hinb : inB (x, n) = false := by unfold inB; rw [decide_eq_false (by dsimp only; omega)]; rfl
    refine WO.no rfl rfl (dT n1) rfl (WO.no rfl rfl (dT n1) rfl (WO.no rfl rfl (dT n1) rfl (WO.no rfl rfl (dT n1) rfl (WO.o rfl (R.pickT rfl (dT n1) rfl) (WO.nil (WX.next ?_))))))
    refine WC.tt rfl (rfl) (WC.region (WO.a rfl rfl (WO.nil (WX.next (WC.region ?_)))))
    refine WO.mv rfl rfl (WO.mv rfl rfl (WO.mem rfl rfl rfl (M.buildSlice (cs := [.int .i64 n]) [(0, _)] Tryz.runUnderlying50 Tryz.sizeOf3 Tryz.zeroValue3 (by decide) rfl (by kernel_rfl)) ?_))
    rintro _ z1 ⟨gb, rfl, hgb, hzs, hBb, zk1⟩
    have zo1 := own_keep xo zk1 (fun _ _ h => h)
    have zE1 := xE.ext zk1
    have zR1 := xR.ext zk1
    refine WO.mem rfl rfl rfl (M.append Tryz.underlying50 Tryz.el3 rfl (by decide) rfl rfl zo1 rfl (Cells.add hBb.cells) (by simp [Value.oneCell']) (by omega) (by omega)) ?_
    rintro vo' z2 ⟨zo2, zf2, zk2, _⟩
    have zE2 : Ext w z2 := Keep.trans zE1 zk2 (fun k hk h => by have := hfr k h; omega)
    have zf3 : ∀ g, vo'.ownBlock = some g → w.heap.size ≤ g := fun g hg => by
     rcases zf2 with h | ⟨g', h, h'⟩
     · exact hfr g (by rw [← h]; exact hg)
     · rw [h] at hg; cases hg; have := zE1.size; omega
    have zR2 : RestI D r s' z2 m l' := zR1.keep zk2 (fun h => by obtain ⟨cs', hb'⟩ := own_blkty zo1 h; exact zR1.1.ne hb' rfl) (fun q hq h => by have := hfr q h; have := hDw q hq; omega)
    refine WO.a rfl rfl (WO.nil (WX.blockN (WX.next (WC.region ?_))))
    refine WO.o rfl (R.add rfl rfl (wrap_i64_in (by omega))) (WO.mv rfl rfl (WO.nil (WX.back ((i + 1, vo', s', l')) (Sub.cons rfl (Sub.cons rfl (Sub.cons (slotI rfl (by rw [xvals, zip_take he_x s.vals hln.1 n]; rw [hinb, Bool.and_false]; rfl)) (Sub.of rfl)))) (⟨by omega, xfold, zR2, by rw [xvals, List.flatMap_append]; exact zo2, zf3, zE2⟩) (by first | omega | (dsimp only; omega)))))
   ·
    refine WO.yes rfl rfl (dF n1) (WO.mv rfl rfl (WO.yes rfl rfl (dF n1) (WO.o rfl (R.fieldAddr Tryz.runUnderlying125 rfl Tryz.sizeOf3 rfl) (WO.yes rfl rfl (dF n1) (WO.o rfl (R.load Tryz.isAgg3 rfl (hB_c.cells 3 _ rfl)) (WO.yes rfl rfl (dF n1) (WO.o rfl (R.gtr rfl rfl) (WO.o rfl (R.pickF rfl (dF n1) rfl) (WO.nil (WX.next ?_))))))))))
    refine WC.ite rfl (fun n2 => ?_) (fun n2 => ?_)
    ·
     have hinb : inB (x, n) = false := by unfold inB; rw [decide_eq_false (show ¬ (x, n).2 ≤ (x, n).1.high by dsimp only; omega), Bool.and_false]
     refine WC.region (WO.a rfl rfl (WO.nil (WX.next (WC.region ?_))))
     refine WO.mv rfl rfl (WO.mv rfl rfl (WO.mem rfl rfl rfl (M.buildSlice (cs := [.int .i64 n]) [(0, _)] Tryz.runUnderlying50 Tryz.sizeOf3 Tryz.zeroValue3 (by decide) rfl (by kernel_rfl)) ?_))
     rintro _ z1 ⟨gb, rfl, hgb, hzs, hBb, zk1⟩
     have zo1 := own_keep xo zk1 (fun _ _ h => h)
     have zE1 := xE.ext zk1
     have zR1 := xR.ext zk1
     refine WO.mem rfl rfl rfl (M.append Tryz.underlying50 Tryz.el3 rfl (by decide) rfl rfl zo1 rfl (Cells.add hBb.cells) (by simp [Value.oneCell']) (by omega) (by omega)) ?_
     rintro vo' z2 ⟨zo2, zf2, zk2, _⟩
     have zE2 : Ext w z2 := Keep.trans zE1 zk2 (fun k hk h => by have := hfr k h; omega)
     have zf3 : ∀ g, vo'.ownBlock = some g → w.heap.size ≤ g := fun g hg => by
      rcases zf2 with h | ⟨g', h, h'⟩
      · exact hfr g (by rw [← h]; exact hg)
      · rw [h] at hg; cases hg; have := zE1.size; omega
     have zR2 : RestI D r s' z2 m l' := zR1.keep zk2 (fun h => by obtain ⟨cs', hb'⟩ := own_blkty zo1 h; exact zR1.1.ne hb' rfl) (fun q hq h => by have := hfr q h; have := hDw q hq; omega)
     refine WO.a rfl rfl (WO.nil (WX.blockN (WX.next (WC.region ?_))))
     refine WO.o rfl (R.add rfl rfl (wrap_i64_in (by omega))) (WO.mv rfl rfl (WO.nil (WX.back ((i + 1, vo', s', l')) (Sub.cons rfl (Sub.cons rfl (Sub.cons (slotI rfl (by rw [xvals, zip_take he_x s.vals hln.1 n]; rw [hinb, Bool.and_false]; rfl)) (Sub.of rfl)))) (⟨by omega, xfold, zR2, by rw [xvals, List.flatMap_append]; exact zo2, zf3, zE2⟩) (by first | omega | (dsimp only; omega)))))
    ·
     have hinb : inB (x, n) = true := by unfold inB; rw [decide_eq_true (by dsimp only; omega), decide_eq_true (by dsimp only; omega)]; rfl
     refine WC.skip (WX.next (WC.region (WO.mv rfl rfl (WO.mv rfl rfl (WO.mem rfl rfl rfl (M.buildSlice (cs := [.int .i64 n]) [(0, _)] Tryz.runUnderlying50 Tryz.sizeOf3 Tryz.zeroValue3 (by decide) rfl (by kernel_rfl)) ?_)))))
     rintro _ z1 ⟨gb, rfl, hgb, hzs, hBb, zk1⟩
     have zo1 := own_keep xo zk1 (fun _ _ h => h)
     have zE1 := xE.ext zk1
     have zR1 := xR.ext zk1
     refine WO.mem rfl rfl rfl (M.append Tryz.underlying50 Tryz.el3 rfl (by decide) rfl rfl zo1 rfl (Cells.add hBb.cells) (by simp [Value.oneCell']) (by omega) (by omega)) ?_
     rintro vo' z2 ⟨zo2, zf2, zk2, _⟩
     have zE2 : Ext w z2 := Keep.trans zE1 zk2 (fun k hk h => by have := hfr k h; omega)
     have zf3 : ∀ g, vo'.ownBlock = some g → w.heap.size ≤ g := fun g hg => by
      rcases zf2 with h | ⟨g', h, h'⟩
      · exact hfr g (by rw [← h]; exact hg)
      · rw [h] at hg; cases hg; have := zE1.size; omega
     have zR2 : RestI D r s' z2 m l' := zR1.keep zk2 (fun h => by obtain ⟨cs', hb'⟩ := own_blkty zo1 h; exact zR1.1.ne hb' rfl) (fun q hq h => by have := hfr q h; have := hDw q hq; omega)
     refine WO.a rfl rfl (WO.nil (WX.blockN (WX.next (WC.region ?_))))
     refine WO.o rfl (R.add rfl rfl (wrap_i64_in (by omega))) (WO.mv rfl rfl (WO.nil (WX.back ((i + 1, vo', s', l')) (Sub.cons rfl (Sub.cons rfl (Sub.cons (slotI rfl (by rw [xvals, zip_take he_x s.vals hln.1 n]; rw [hinb, Bool.and_true])) (Sub.of rfl)))) (⟨by omega, xfold, zR2, by rw [xvals, List.flatMap_append]; exact zo2, zf3, zE2⟩) (by first | omega | (dsimp only; omega)))))
 ·
  have hii : i = f.vars.length := by omega
  subst hii
  rw [List.take_length] at hfold
  have hS : startS f.vars r = some s := hfold
  have hCC : startCode f.vars r = startFin f.vars r s := by unfold startCode; rw [hS]
  have hle := startS_le (r := r) hkd f.vars.length s (Nat.le_refl _) (by rw [List.take_length]; exact hfold)
  refine WC.exit (WX.thenE (WX.thenE (WX.hit (WX.next (WC.seq (WC.seq (WC.region (WO.mv rfl rfl (WO.mem rfl rfl rfl (M.range hR.1 Tryz.underlying220 rfl) ?_)))))))))
  rintro _ x1 ⟨it, rfl, hit, hRan, xk1, xs1⟩
  have xo1 := own_keep ho xk1 (fun _ _ h => h)
  have xE1 := hE.ext xk1
  have hkeys : ∀ k v, getM l k = some v → 1 ≤ k ∧ k ≤ 3 := fun k v h => hR.2.2 _ (getM_mem h)
  have hval : ∀ k v, getM l k = some v → ∀ w', Keep (fun q => q = it) x1 w' → SlR 1 RInt D w' v ((pickI r k).drop (cntK s k)) := fun k v h w' hk => by
   have h1 := hkeys k v h
   obtain ⟨v', h4, h5⟩ := hR.2.1 k h1.1 h1.2
   rw [h] at h4; cases h4
   exact (h5.ext stable_int xk1).keep stable_int hk (fun q hq _ (h : q = it) => by have := hDw q hq; have := hE.size; omega)
  refine WO.nil (WX.next (WC.block (WC.loop (σ := List Int × Option (Int × Value)) (fun ⟨seen, cur⟩ => [(7, vo), (8, .int .i64 (if ((f.vars.take f.vars.length).zip s.vals).all inB then 0 else 3)), (76, .pointer (some ⟨it, 0, none⟩))]) (fun ⟨seen, cur⟩ => fun w' => RanI w' it m l seen cur ∧ (∀ k ∈ seen, (pickI r k).drop (cntK s k) = []) ∧ Keep (fun q => q = it) x1 w') (fun ⟨seen, cur⟩ => l.length - seen.length) (([], none)) (Sub.of rfl) (⟨hRan, by simp, Keep.refl _ _⟩) ?_)))
  rintro ⟨seen, cur⟩ x2 ⟨hR2, hem, xk2⟩
  show WC _ _ _ _ [(7, vo), (8, .int .i64 (if ((f.vars.take f.vars.length).zip s.vals).all inB then 0 else 3)), (76, .pointer (some ⟨it, 0, none⟩))] _
  have hsl := hR2.len
  refine WC.sr (WO.mem rfl rfl rfl (M.next hR2 rfl) ?_)
  rintro u x3 (⟨rfl, rfl, hall⟩ | ⟨k, v, rfl, hgk, hns, hR3, xk3, xs3⟩)
  ·
   refine WO.o rfl (R.extract rfl rfl) (WO.nil (WX.next (WC.seq ?_)))
   refine WC.ff rfl (rfl) (WC.exit (WX.thenE (WX.thenE (WX.hit (WX.next (WC.seq (WC.region ?_)))))))
   refine WO.mv rfl rfl (WO.mv rfl rfl (WO.a rfl rfl (WO.a rfl rfl (WO.nil (WX.next (WC.ret ?_))))))
   have hemp : ∀ k, 1 ≤ k → k ≤ 3 → cntK s k = (pickI r k).length := fun k q1 q3 => by
    obtain ⟨v, h4, h5⟩ := hR.2.1 k q1 q3
    have h6 := hem k (hall _ (getM_mem h4))
    rw [List.drop_eq_nil_iff] at h6
    have := hle k q1 q3
    omega
   have e1 := hemp 1 (by omega) (by omega)
   have e2 := hemp 2 (by omega) (by omega)
   have e3 := hemp 3 (by omega) (by omega)
   simp only [cntK, pickI] at e1 e2 e3
   simp at e1 e2 e3
   have hfin : startFin f.vars r s = if (f.vars.zip s.vals).all inB then 0 else 3 := by unfold startFin; rw [if_neg (by omega)]
   have hEf : Ext w x3 := xE1.trans xk2 (fun q hq (h : q = it) => by have := hE.size; omega)
   refine WX.ret2 Tryz.results121 rfl rfl ⟨_, rfl, ⟨_, by rw [hCC, hfin, List.take_length], fun h => ⟨?_, hfr⟩⟩, hEf⟩
   have hv : startVals f.vars r = s.vals := by unfold startVals; rw [hS]
   rw [hv]
   exact own_keep xo1 xk2 (fun g hg (h : g = it) => by obtain ⟨cs', hb'⟩ := own_blkty xo1 hg; exact hRan.neB hb' h)
  ·
   have hk13 := hkeys k v hgk
   have hsv := hval k v hgk x3 (xk2.trans xk3 (fun _ _ h => h))
   obtain ⟨pa, pc, rfl⟩ := hsv.form
   have hR3len := hR3.len
   rw [List.length_append, List.length_singleton] at hR3len
   refine WO.o rfl (R.extract rfl rfl) (WO.nil (WX.next (WC.seq ?_)))
   refine WC.tt rfl (rfl) (WC.skip (WX.next (WC.block (WC.seq (WC.region ?_)))))
   refine WO.o rfl (R.entry hR3 rfl) (WO.o rfl (R.extract rfl rfl) (WO.a rfl rfl (WO.nr (WO.mv rfl rfl (WO.o rfl (R.lenS rfl Tryz.runUnderlying50 rfl) (WO.o rfl (R.gtr rfl rfl) (WO.nil (WX.next ?_))))))))
   refine WC.ite rfl (fun q1 => ?_) (fun q1 => ?_)
   ·
    have hne : startFin f.vars r s = 1 := by
     unfold startFin
     have hlt : cntK s k < (pickI r k).length := by rw [List.length_drop] at q1; omega
     have : k = 1 ∨ k = 2 ∨ k = 3 := by omega
     rcases this with rfl | rfl | rfl <;> simp [cntK, pickI] at hlt <;> rw [if_pos (by omega)]
    refine WC.sr (WO.a rfl rfl (WO.a rfl rfl (WO.nil (WX.next (WC.ret (WX.blockR (WX.thenR (WX.blockR (WX.thenR ?_)))))))))
    refine WX.ret2 Tryz.results121 rfl rfl ⟨_, rfl, ⟨_, by rw [hCC, hne], fun h => by rw [hCC, hne] at h; cases h⟩, xE1.trans (xk2.trans xk3 (fun _ _ h => h)) (fun q hq (h : q = it) => by have := hE.size; omega)⟩
   ·
    refine WC.skip (WX.blockN (WX.back ((seen ++ [k], some (k, .slice pa ((pickI r k).drop (cntK s k)).length pc))) (Sub.of rfl) (⟨hR3, fun k' hk' => ?_, xk2.trans xk3 (fun _ _ h => h)⟩) (by dsimp only; rw [List.length_append, List.length_singleton]; omega)))
    rcases List.mem_append.1 hk' with h | h
    · exact hem k' h
    ·
     rw [List.mem_singleton] at h
     rw [h]
     exact List.eq_nil_of_length_eq_zero (by omega)
end Go.Proofs.YtldhllpogdikdaaGreat
namespace Go.GL
structure Sg where
 vals : List Int
 outs : List Int
 time : Int
end Go.GL
namespace Go.Proofs.YtldhllpogdikdaaGreat
open Go.GL
abbrev encI1 : Int → Value := .int .i64
structure WkV where
 (W m : Nat) (v1 v2 v3 sv vv hv ov : Value) (rm : List (Int × Value))
structure WkS (D : Nat → Prop) (f : Fl) (hs : List Int) (w : World) (σ : Sg) (z : WkV) : Prop where
 blk : Blk w z.W [z.v1, z.v2, z.v3, z.sv, z.vv, z.hv, .map (some z.m), z.ov, .int .i64 σ.time] 182
 fl : RFl D w f z.v1 z.v2 z.v3
 steps : SlR 10 RSt D w z.sv (preL f.body)
 vals : w.ownsRow 0 3 1 z.vv σ.vals.length (σ.vals.map encI1)
 hats : w.ownsRow 0 3 1 z.hv hs.length (hs.map encI1)
 outs : w.ownsRow 0 3 1 z.ov σ.outs.length (σ.outs.map encI1)
 map : MapI w z.m z.rm
 low : ∀ q, D q → q < w.heap.size
 nW : ¬ D z.W
 nm : ¬ D z.m
 nv : ∀ g, z.vv.ownBlock = some g → ¬ D g ∧ z.hv.ownBlock ≠ some g ∧ z.ov.ownBlock ≠ some g
 no : ∀ g, z.ov.ownBlock = some g → ¬ D g ∧ z.hv.ownBlock ≠ some g
def KW (z : WkV) (k : Nat) : Prop := k = z.W ∨ k = z.m ∨ z.vv.ownBlock = some k ∨ z.ov.ownBlock = some k
section
variable {D : Nat → Prop} {f : Fl} {hs : List Int} {w w' : World} {σ : Sg} {z : WkV}
theorem WkS.ext (h : WkS D f hs w σ z) (hk : Ext w w') : WkS D f hs w' σ z :=
 ⟨hk.blk h.blk (fun h => h), h.fl.ext hk, h.steps.ext stable_st hk, own_keep h.vals hk (fun _ _ h => h), own_keep h.hats hk (fun _ _ h => h), own_keep h.outs hk (fun _ _ h => h), h.map.ext hk, fun q hq => by have := h.low q hq; have := hk.size; omega, h.nW, h.nm, h.nv, h.no⟩
theorem rflKeepD {v1 v2 v3 : Value} {S : Nat → Prop} (h : RFl D w f v1 v2 v3) (hk : Keep S w w') (hS : ∀ q, D q → ¬ S q) : RFl D w' f v1 v2 v3 :=
 ⟨h.vars.keep stable_vr hk (fun q hq _ => hS q hq), h.hatches.keep stable_ht hk (fun q hq _ => hS q hq), h.body.keep stable_st hk (fun q hq _ => hS q hq)⟩
theorem WkS.vne (h : WkS D f hs w σ z) {g : Nat} (hg : z.vv.ownBlock = some g) : g ≠ z.W := by obtain ⟨cs, hb⟩ := own_blkty h.vals hg; exact hb.ne h.blk (by decide)
theorem WkS.one (h : WkS D f hs w σ z) {g : Nat} (hg : z.ov.ownBlock = some g) : g ≠ z.W := by obtain ⟨cs, hb⟩ := own_blkty h.outs hg; exact hb.ne h.blk (by decide)
theorem WkS.hne (h : WkS D f hs w σ z) {g : Nat} (hg : z.hv.ownBlock = some g) : g ≠ z.W := by obtain ⟨cs, hb⟩ := own_blkty h.hats hg; exact hb.ne h.blk (by decide)
theorem WkS.vnm (h : WkS D f hs w σ z) {g : Nat} (hg : z.vv.ownBlock = some g) : g ≠ z.m := by obtain ⟨cs, hb⟩ := own_blkty h.vals hg; exact h.map.ne hb
theorem WkS.onm (h : WkS D f hs w σ z) {g : Nat} (hg : z.ov.ownBlock = some g) : g ≠ z.m := by obtain ⟨cs, hb⟩ := own_blkty h.outs hg; exact h.map.ne hb
theorem WkS.hnm (h : WkS D f hs w σ z) {g : Nat} (hg : z.hv.ownBlock = some g) : g ≠ z.m := by obtain ⟨cs, hb⟩ := own_blkty h.hats hg; exact h.map.ne hb
theorem WkS.wm (h : WkS D f hs w σ z) : z.W ≠ z.m := h.map.ne h.blk
theorem WkS.time (h : WkS D f hs w σ z) {t : Int} (hw : Wrote w z.W [z.v1, z.v2, z.v3, z.sv, z.vv, z.hv, .map (some z.m), z.ov, .int .i64 t] 182 w') : WkS D f hs w' { σ with time := t } z ∧ Keep (KW z) w w' := by
 obtain ⟨hsz, hB, hk⟩ := hw
 refine ⟨⟨hB, rflKeepD h.fl hk (fun q hq (e : q = z.W) => h.nW (e ▸ hq)), h.steps.keep stable_st hk (fun q hq _ (e : q = z.W) => h.nW (e ▸ hq)), own_keep h.vals hk (fun g hg (e : g = z.W) => h.vne hg e), own_keep h.hats hk (fun g hg (e : g = z.W) => h.hne hg e), own_keep h.outs hk (fun g hg (e : g = z.W) => h.one hg e), h.map.keep hk (fun e => h.wm e.symm), fun q hq => by have := h.low q hq; omega, h.nW, h.nm, h.nv, h.no⟩, Keep.mono hk (fun _ _ e => .inl e)⟩
theorem WkS.valsR (h : WkS D f hs w σ z) : SlR 1 RInt (fun _ => True) w z.vv σ.vals := SlR.ofRow1 encI1 (fun x _ => rfl) h.vals (fun _ _ => trivial)
theorem WkS.hatsR (h : WkS D f hs w σ z) : SlR 1 RInt (fun _ => True) w z.hv hs := SlR.ofRow1 encI1 (fun x _ => rfl) h.hats (fun _ _ => trivial)
end
theorem wValue_ok {D : Nat → Prop} {f : Fl} {hs : List Int} {w : World} {σ : Sg} {z : WkV} (h : WkS D f hs w σ z) (hg : ∀ v ∈ f.vars, Good (v.low, v.high)) (hV : InV f.vars σ.vals) (t : Tm) (hf : formedT f.vars false t = true) (hr : (rng f.vars t).isSome = true) (hsz : t.nodes ≤ 1000000) (cs : List Value) (Dt : Nat → Prop) (ht : RTm Dt w t cs) :
  Calls Tryz.prog 122 #[.pointer (some ⟨z.W, 0, none⟩), .agg cs.toArray] w (Ret fun r w' => r = .int .i64 (valT σ.vals t) ∧ Ext w w') := by
 have hE := Keep.refl (fun _ => False) w
 obtain ⟨kv, rfl, hks⟩ := ht.get
 refine calls Tryz.func122 rfl [(0, .pointer (some ⟨z.W, 0, none⟩)), (1, .agg #[.int .i64 t.op, .int .i64 t.n, kv])] 22 ⟨Nat.le_of_ble_eq_true rfl, Tryz.ntmps122⟩ (argsOk (Sub.of rfl)) ?_
 refine WC.sr (WO.mem rfl rfl rfl (M.box rfl rfl) ?_)
 rintro _ w_b ⟨b, rfl, hg_b, hs_b, hB_b, hk_b⟩
 have hge_b : _ ≤ b := Nat.le_trans hE.size (Nat.le_of_eq hg_b.symm)
 replace hE := hE.ext hk_b
 replace h := WkS.ext h hk_b
 replace hks := hks.ext stable_tm hk_b
 refine WO.a rfl rfl (WO.nil (WX.next (WC.seq ?_)))
 refine WC.draw (fun q => Ext w_b q) [] (by kernel_rfl) (fun wd1 hD _ => (WD.takeW 0 rfl (by kernel_rfl) rfl rfl rfl (fun w1 => R.move rfl) (WD.takeW 1 rfl (by kernel_rfl) rfl rfl rfl (fun w1 => R.nilCheck rfl) (WD.takeW 2 rfl (by kernel_rfl) rfl rfl rfl (fun w1 => R.fieldAddr Tryz.runUnderlying182 rfl Tryz.sizeOf26 rfl) (WD.takeW 3 rfl (by kernel_rfl) rfl rfl rfl (fun w1 => R.fieldAddr Tryz.runUnderlying26 rfl Tryz.sizeOf22 rfl) (WD.take 4 rfl (by kernel_rfl) rfl rfl rfl hD (fun w1 hw1 => R.load Tryz.isAgg22 rfl ((hw1.blk h.blk (fun h => h)).cells 0 _ rfl)) (WD.takeW 5 rfl (by kernel_rfl) rfl rfl rfl (fun w1 => R.move rfl) ?_)))))))
 refine WD.takeW 6 rfl (by kernel_rfl) rfl rfl rfl (fun w1 => R.nilCheck rfl) (WD.takeW 7 rfl (by kernel_rfl) rfl rfl rfl (fun w1 => R.fieldAddr Tryz.runUnderlying182 rfl Tryz.sizeOf50 rfl) (WD.take 8 rfl (by kernel_rfl) rfl rfl rfl hD (fun w1 hw1 => R.load Tryz.isAgg50 rfl ((hw1.blk h.blk (fun h => h)).cells 4 _ rfl)) (WD.take 9 rfl (by kernel_rfl) rfl rfl rfl hD (fun w1 hw1 => R.loadK Tryz.isAgg84 Tryz.sizeOf84 rfl (by rfl) (hw1.blk hB_b (fun h => h)).cells) (WD.call 10 rfl (by kernel_rfl) rfl rfl rfl (F.call (vs := [_, _, _]) Tryz.call165 rfl) (flatEval_ok hg hV t hf hr hsz _ Dt D _ _ _ _ (h.fl.vars.ext stable_vr hD) (h.valsR.ext stable_int hD) (RTm.put (hks.ext stable_tm hD))) ?_))))
 rintro _ wz2 ⟨rfl, hz2⟩
 replace hD := hD.ext hz2
 refine ⟨fun _ => hD, ?_⟩
 refine WD.takeW 11 rfl (by kernel_rfl) rfl rfl rfl (fun w1 => R.move rfl) (WD.takeW 12 rfl (by kernel_rfl) rfl rfl rfl (fun w1 => R.extract rfl rfl) (WD.takeW 13 rfl (by kernel_rfl) rfl rfl rfl (fun w1 => R.extract rfl rfl) (WD.takeW 14 rfl (by kernel_rfl) rfl rfl rfl (fun w1 => R.assign rfl) (WD.takeW 15 rfl (by kernel_rfl) rfl rfl rfl (fun w1 => R.assign rfl) (WD.done (by kernel_rfl) ?_ _)))))
 replace hE := hE.ext hD
 replace h := WkS.ext h hD
 replace hks := hks.ext stable_tm hD
 replace hB_b := hD.blk hB_b (fun h => h)
 refine WX.next (WC.seq (WC.region (WO.mv rfl rfl (WO.a rfl rfl (WO.nil (WX.next (WC.ret ?_)))))))
 refine WX.ret1 Tryz.results122 rfl ⟨_, rfl, rfl, hE⟩
def setV (vs : List Vr) (vals : List Int) (v n : Int) : List Int := match vs[v.toNat]? with
 | some x => vals.set v.toNat (clampI n x.low x.high)
 | none => vals
theorem InV.set {vs : List Vr} {vals : List Int} (hg : ∀ v ∈ vs, Good (v.low, v.high)) (h : InV vs vals) (v n : Int) : InV vs (setV vs vals v n) := by
 unfold setV
 cases hx : vs[v.toNat]? with
 | none => exact h
 | some x =>
  have hgx := hg x (List.mem_of_getElem? hx)
  unfold Good at hgx
  have hc := clampI_range n (show x.low ≤ x.high from hgx.2.1)
  refine ⟨by simp [h.len], fun i y hy => ?_⟩
  simp only [lki, List.getElem?_set]
  by_cases hi : v.toNat = i
  ·
   subst hi
   rw [hx] at hy; cases hy
   have := (List.getElem?_eq_some_iff.1 hx).1
   rw [if_pos rfl, if_pos (by rw [h.len]; exact this)]
   exact hc
  ·
   rw [if_neg hi]
   exact h.at_ i y hy
theorem wPut_ok {D : Nat → Prop} {f : Fl} {hs : List Int} {w : World} {σ : Sg} {z : WkV} (h : WkS D f hs w σ z) (hg : ∀ v ∈ f.vars, Good (v.low, v.high)) (hV : InV f.vars σ.vals) (v n : Int) (hv : 0 ≤ v ∧ v < f.vars.length) :
  Calls Tryz.prog 208 #[.pointer (some ⟨z.W, 0, none⟩), .int .i64 v, .int .i64 n] w (Ret fun _ w' => WkS D f hs w' { σ with vals := setV f.vars σ.vals v n } z ∧ Keep (KW z) w w') := by
 have hln := hV.len
 obtain ⟨x, hx⟩ : ∃ x, f.vars[v.toNat]? = some x := ⟨_, List.getElem?_eq_getElem (by omega)⟩
 have hgx := hg x (List.mem_of_getElem? hx)
 unfold Good at hgx
 have hvs := h.fl.vars
 obtain ⟨av, cv, hav⟩ := hvs.form
 rw [hav] at hvs
 obtain ⟨bq, oq, cq, haq, _, hcq, rfl⟩ := hvs.at hx
 obtain ⟨g, cap, sp, hvv, _, hnc, hcm, hBg, hlen⟩ := own_open1 h.vals (by intro e; rw [e] at hln; simp at hln; omega)
 have hgW := h.vne (g := g) (by rw [hvv]; rfl)
 have hgm := h.vnm (g := g) (by rw [hvv]; rfl)
 have hgn := h.nv g (by rw [hvv]; rfl)
 have hblk := h.blk
 rw [hav, hvv] at hblk
 have hE := Keep.refl (fun _ => False) w
 refine calls Tryz.func208 rfl [(0, .pointer (some ⟨z.W, 0, none⟩)), (1, .int .i64 v), (2, .int .i64 n)] 28 ⟨Nat.le_of_ble_eq_true rfl, Tryz.ntmps208⟩ (argsOk (Sub.of rfl)) ?_
 refine WC.sr (WO.mv rfl rfl (WO.o rfl (R.nilCheck rfl) (WO.o rfl (R.fieldAddr Tryz.runUnderlying182 rfl Tryz.sizeOf26 rfl) (WO.o rfl (R.fieldAddr Tryz.runUnderlying26 rfl Tryz.sizeOf22 rfl) (WO.o rfl (R.load Tryz.isAgg22 rfl (hblk.cells 0 _ rfl)) (WO.mv rfl rfl (WO.o rfl (R.indexS Tryz.runUnderlying22 Tryz.sizeOf125 rfl rfl haq (by omega)) (WO.o rfl (R.loadK Tryz.isAgg125 Tryz.sizeOf125 rfl (by rfl) hcq) (WO.mem rfl rfl rfl (M.alloc (cs := _) Tryz.zeroValue125 rfl) ?_)))))))))
 rintro _ wa1 ⟨c, rfl, hg_c, hs_c, hB_c, hk_c⟩
 refine WO.mem0 rfl rfl (M.storeK Tryz.sizeOf125 rfl rfl rfl rfl (by simp [Value.oneCell']) hB_c (by simp)) ?_
 rintro w_c ⟨_, hB_c, hkk_c⟩
 replace hk_c := hk_c.trans hkk_c (fun q hq h => by have h : q = c := h; omega)
 have hge_c : _ ≤ c := Nat.le_trans hE.size (Nat.le_of_eq hg_c.symm)
 replace hE := hE.ext hk_c
 replace hcq := hk_c.cells hcq (fun h => h)
 have hblk2 := hk_c.blk hblk (fun h => h)
 have hBg2 := hk_c.blk hBg (fun h => h)
 refine WO.nil (WX.next (WC.draw (fun q => Ext w_c q) [13] (by kernel_rfl) (fun wd2 hD _ => ?_)))
 refine WD.takeW 0 rfl (by kernel_rfl) rfl rfl rfl (fun w1 => R.move rfl) (WD.takeW 1 rfl (by kernel_rfl) rfl rfl rfl (fun w1 => R.nilCheck rfl) (WD.takeW 2 rfl (by kernel_rfl) rfl rfl rfl (fun w1 => R.fieldAddr Tryz.runUnderlying182 rfl Tryz.sizeOf50 rfl) (WD.take 3 rfl (by kernel_rfl) rfl rfl rfl hD (fun w1 hw1 => R.load Tryz.isAgg50 rfl ((hw1.blk hblk2 (fun h => h)).cells 4 _ rfl)) (WD.takeW 4 rfl (by kernel_rfl) rfl rfl rfl (fun w1 => R.move rfl) (WD.takeW 5 rfl (by kernel_rfl) rfl rfl rfl (fun w1 => R.move rfl) (WD.takeW 6 rfl (by kernel_rfl) rfl rfl rfl (fun w1 => R.fieldAddr Tryz.runUnderlying125 rfl Tryz.sizeOf3 rfl) ?_))))))
 refine WD.take 7 rfl (by kernel_rfl) rfl rfl rfl hD (fun w1 hw1 => R.load Tryz.isAgg3 rfl ((hw1.blk hB_c (fun h => h)).cells 2 _ rfl)) (WD.takeW 8 rfl (by kernel_rfl) rfl rfl rfl (fun w1 => R.maxI rfl rfl) (WD.takeW 9 rfl (by kernel_rfl) rfl rfl rfl (fun w1 => R.fieldAddr Tryz.runUnderlying125 rfl Tryz.sizeOf3 rfl) (WD.take 10 rfl (by kernel_rfl) rfl rfl rfl hD (fun w1 hw1 => R.load Tryz.isAgg3 rfl ((hw1.blk hB_c (fun h => h)).cells 3 _ rfl)) (WD.takeW 11 rfl (by kernel_rfl) rfl rfl rfl (fun w1 => R.minI rfl rfl) (WD.takeW 12 rfl (by kernel_rfl) rfl rfl rfl (fun w1 => R.indexS Tryz.runUnderlying50 Tryz.sizeOf3 rfl rfl rfl (by omega)) ?_)))))
 refine WD.mem0 13 rfl (by kernel_rfl) rfl rfl (M.store Tryz.sizeOf3 rfl rfl rfl rfl (hD.blk hBg2 (fun h => h)) (by simp; omega)) ?_
 rintro wf ⟨hsf, hBf, hkf⟩
 refine ⟨fun h => absurd (by simp) h, ?_⟩
 have hEf := hk_c.ext hD
 have h2 := h.ext hEf
 refine WD.done (by kernel_rfl) ?_ _
 have hcl : min (max n x.low) x.high = clampI n x.low x.high := by unfold clampI; (repeat' split); all_goals omega
 have hset : setV f.vars σ.vals v n = σ.vals.set v.toNat (clampI n x.low x.high) := by unfold setV; rw [hx]
 have hBf2 : Blk wf g ((setV f.vars σ.vals v n).map encI1 ++ sp) 3 := by
  rw [hset, ← hcl, List.map_set]
  have e : 0 + v.toNat * 1 = v.toNat := by omega
  rw [e, List.set_append_left _ _ (by rw [List.length_map]; omega)] at hBf
  exact hBf
 have hsl : (setV f.vars σ.vals v n).length = σ.vals.length := by rw [hset, List.length_set]
 have hkD : ∀ q, D q → ¬ (q = g) := fun q hq e => hgn.1 (e ▸ hq)
 refine WX.end0 Tryz.results208 ⟨_, rfl, ⟨hkf.blk h2.blk (fun e => hgW e.symm), rflKeepD h2.fl hkf hkD, h2.steps.keep stable_st hkf (fun q hq _ => hkD q hq), ?_, own_keep h2.hats hkf (fun g' hg' (e : g' = g) => hgn.2.1 (e ▸ hg')), own_keep h2.outs hkf (fun g' hg' (e : g' = g) => hgn.2.2 (e ▸ hg')), h2.map.keep hkf (fun e => hgm e.symm), fun q hq => by have := h2.low q hq; omega, h2.nW, h2.nm, h2.nv, h2.no⟩, ?_⟩
 ·
  have h3 := own_shut1 (f := encI1) hBf2 (by rw [List.length_append, List.length_map, hsl, ← hlen, List.length_append, List.length_map]) hcm
  rw [hsl] at h3
  dsimp only
  rw [hsl, hvv]
  exact h3
 · exact Keep.trans (Keep.mono hEf (fun _ _ e => e.elim)) hkf (fun q _ (e : q = g) => .inr (.inr (.inl (by rw [hvv, e]; rfl))))
open Go.GL
def exec1 (f : Fl) (hs : List Int) (s : St) (σ : Sg) : Sg :=
 if s.act = 0 then { σ with vals := setV f.vars σ.vals s.var (valT σ.vals s.term), time := σ.time + s.cost }
 else if s.act = 1 then { σ with outs := σ.outs ++ [valT σ.vals s.term], time := σ.time + s.cost }
 else if s.act = 5 then { σ with vals := setV f.vars σ.vals s.var (lki hs s.n.toNat), time := σ.time + s.cost }
 else if s.act = 6 then { σ with time := settleN s.bounds (σ.time + s.cost) }
 else { σ with time := σ.time + s.cost }
structure StepOk (f : Fl) (s : St) : Prop where
 formed : formedT f.vars false s.term = true
 ranged : (rng f.vars s.term).isSome = true
 small : s.term.nodes ≤ 1000000
 cost : 0 ≤ s.cost ∧ s.cost ≤ 67108864
 var : s.act = 0 ∨ s.act = 5 → 0 ≤ s.var ∧ s.var < f.vars.length
 num : s.act = 5 → 0 ≤ s.n ∧ s.n < f.hatches.length
structure WkM (w : World) (z z' : WkV) : Prop where
 W : z'.W = z.W
 m : z'.m = z.m
 vv : z'.vv = z.vv
 v1 : z'.v1 = z.v1
 sv : z'.sv = z.sv
 hv : z'.hv = z.hv
 ov : z'.ov.ownBlock = z.ov.ownBlock ∨ ∃ g, z'.ov.ownBlock = some g ∧ w.heap.size ≤ g
theorem WkM.refl (w : World) (z : WkV) : WkM w z z := ⟨rfl, rfl, rfl, rfl, rfl, rfl, .inl rfl⟩
theorem KW.ne86 {D : Nat → Prop} {f : Fl} {hs : List Int} {w : World} {σ : Sg} {z : WkV} (h : WkS D f hs w σ z) {c : Nat} {cs : List Value} {e : TypeId} (hb : Blk w c cs e) (he : e ≠ 182) (he2 : e ≠ 3) : ¬ KW z c := by
 rintro (rfl | rfl | e1 | e1)
 · exact he (hb.ty h.blk).1
 · exact h.map.ne hb rfl
 · obtain ⟨cs', hb'⟩ := own_blkty h.vals e1; exact he2 (hb.ty hb').1
 · obtain ⟨cs', hb'⟩ := own_blkty h.outs e1; exact he2 (hb.ty hb').1
theorem wExec_ok {D : Nat → Prop} {f : Fl} {hs : List Int} {w : World} {σ : Sg} {z : WkV} (h : WkS D f hs w σ z) (hg : ∀ v ∈ f.vars, Good (v.low, v.high)) (hV : InV f.vars σ.vals) (s : St) (hso : StepOk f s) (hhs : hs.length = f.hatches.length) (ht : -1152921504606846976 ≤ σ.time ∧ σ.time ≤ 1152921504606846976) (hol : σ.outs.length ≤ 1000000000) (cs : List Value) (hst : RSt D w s cs) :
  Calls Tryz.prog 166 #[.pointer (some ⟨z.W, 0, none⟩), .agg cs.toArray] w (Ret fun _ w' => ∃ z', WkS D f hs w' (exec1 f hs s σ) z' ∧ WkM w z z' ∧ z'.rm = z.rm ∧ Keep (KW z) w w') := by
 have hone := hst.one
 obtain ⟨p1, p2, p3, p4, rfl, q1, q2, q3, q4⟩ := hst.get
 have hcost := hso.cost
 have hblk := h.blk
 refine calls Tryz.func166 rfl [(0, .pointer (some ⟨z.W, 0, none⟩)), (1, .agg #[.int .i64 s.act, .int .i64 s.cost, .int .i64 s.var, .int .i64 s.n, .int .i64 s.term.op, .int .i64 s.term.n, p1, p2, p3, p4])] 72 ⟨Nat.le_of_ble_eq_true rfl, Tryz.ntmps166⟩ (argsOk (Sub.of rfl)) ?_
 refine WC.sr (WO.mem rfl rfl rfl (M.box rfl rfl) ?_)
 rintro _ w1 ⟨c, rfl, hc, hs1, hBc, hk1⟩
 have h1 := h.ext hk1
 refine WO.nil (WX.next (WC.seq (WC.draw (fun q => Ext w1 q) [11] (by kernel_rfl) (fun wd1 hD _ => ?_))))
 refine WD.takeW 0 rfl (by kernel_rfl) rfl rfl rfl (fun w1 => R.move rfl) (WD.takeW 1 rfl (by kernel_rfl) rfl rfl rfl (fun w1 => R.nilCheck rfl) (WD.takeW 2 rfl (by kernel_rfl) rfl rfl rfl (fun w1 => R.fieldAddr Tryz.runUnderlying182 rfl Tryz.sizeOf64 rfl) (WD.takeW 3 rfl (by kernel_rfl) rfl rfl rfl (fun w1 => R.fieldAddr Tryz.runUnderlying64 rfl Tryz.sizeOf3 rfl) (WD.take 4 rfl (by kernel_rfl) rfl rfl rfl hD (fun w1 hw1 => R.load Tryz.isAgg3 rfl ((hw1.blk h1.blk (fun h => h)).cells 8 (.int .i64 σ.time) rfl)) (WD.takeW 5 rfl (by kernel_rfl) rfl rfl rfl (fun w1 => R.fieldAddr Tryz.runUnderlying86 rfl Tryz.sizeOf3 rfl) ?_)))))
 refine WD.take 6 rfl (by kernel_rfl) rfl rfl rfl hD (fun w1 hw1 => R.load Tryz.isAgg3 rfl ((hw1.blk hBc (fun h => h)).cells 1 (.int .i64 s.cost) rfl)) (WD.takeW 7 rfl (by kernel_rfl) rfl rfl rfl (fun w1 => R.add rfl rfl (wrap_i64_in (by omega))) (WD.takeW 8 rfl (by kernel_rfl) rfl rfl rfl (fun w1 => R.nilCheck rfl) (WD.takeW 9 rfl (by kernel_rfl) rfl rfl rfl (fun w1 => R.fieldAddr Tryz.runUnderlying182 rfl Tryz.sizeOf64 rfl) (WD.takeW 10 rfl (by kernel_rfl) rfl rfl rfl (fun w1 => R.fieldAddr Tryz.runUnderlying64 rfl Tryz.sizeOf3 rfl) ?_))))
 have h2 := h1.ext hD
 refine WD.mem0 11 rfl (by kernel_rfl) rfl rfl (M.store Tryz.sizeOf3 rfl rfl rfl rfl h2.blk (by simp)) ?_
 rintro w3 hw3
 refine ⟨fun h => absurd (by simp) h, ?_⟩
 obtain ⟨h3, hK3⟩ := h2.time hw3
 have hBc3 := hK3.blk (hD.blk hBc (fun h => h)) (KW.ne86 h2 (hD.blk hBc (fun h => h)) (by decide) (by decide))
 have hE2 := hk1.ext hD
 have hK03 : Keep (KW z) w w3 := Keep.trans (Keep.mono hE2 (fun _ _ e => e.elim)) hK3 (fun _ _ e => e)
 have hnD : ∀ q, D q → ¬ KW z q := by
  rintro q hq (rfl | rfl | e | e)
  · exact h.nW hq
  · exact h.nm hq
  · exact (h.nv q e).1 hq
  · exact (h.no q e).1 hq
 refine WD.done (by kernel_rfl) ?_ _
 refine WX.next (WC.seq (WC.region (WO.o rfl (R.fieldAddr Tryz.runUnderlying86 rfl Tryz.sizeOf80 rfl) (WO.o rfl (R.load Tryz.isAgg80 rfl (hBc3.cells 0 _ rfl)) (WO.nil (WX.next (WC.block (WC.seq (WC.region ?_)))))))))
 refine WO.o rfl (R.eql rfl rfl) (WO.a rfl rfl (WO.nil (WX.next ?_)))
 refine WC.ite rfl (fun a0 => ?_) (fun a0 => ?_)
 ·
  have ee : exec1 f hs s σ = { σ with vals := setV f.vars σ.vals s.var (valT σ.vals s.term), time := σ.time + s.cost } := by unfold exec1; rw [if_pos a0]
  refine WC.draw (fun q => Blk q c [.int .i64 s.act, .int .i64 s.cost, .int .i64 s.var, .int .i64 s.n, .int .i64 s.term.op, .int .i64 s.term.n, p1, p2, p3, p4] 86) [] (by kernel_rfl) (fun w4 hk4 _ => ?_)
  have hB4 := hk4.blk hBc3 (fun h => h)
  have h4 := h3.ext hk4
  refine WD.takeW 0 rfl (by kernel_rfl) rfl rfl rfl (fun w1 => R.move rfl) (WD.takeW 1 rfl (by kernel_rfl) rfl rfl rfl (fun w1 => R.fieldAddr Tryz.runUnderlying86 rfl Tryz.sizeOf3 rfl) (WD.take 2 rfl (by kernel_rfl) rfl rfl rfl hB4 (fun w1 hw1 => R.load Tryz.isAgg3 rfl (hw1.cells 2 _ rfl)) (WD.takeW 3 rfl (by kernel_rfl) rfl rfl rfl (fun w1 => R.move rfl) (WD.takeW 4 rfl (by kernel_rfl) rfl rfl rfl (fun w1 => R.fieldAddr Tryz.runUnderlying86 rfl Tryz.sizeOf84 rfl) (WD.take 5 rfl (by kernel_rfl) rfl rfl rfl hB4 (fun w1 hw1 => R.loadK Tryz.isAgg84 Tryz.sizeOf84 rfl (by rfl) (hw1.cells.sub 4 3)) ?_)))))
  refine WD.call 6 rfl (by kernel_rfl) rfl rfl rfl (F.call (vs := [_, _]) Tryz.call122 rfl) (wValue_ok h4 hg hV s.term hso.formed hso.ranged hso.small _ D (RTm.put ((q1.keep stable_tm hK03 (fun q hq _ => hnD q hq)).ext stable_tm hk4))) ?_
  rintro _ w5 ⟨rfl, hk5⟩
  have hB5 := hk5.blk hB4 (fun h => h)
  have h5 := h4.ext hk5
  refine ⟨fun _ => hB5, ?_⟩
  refine WD.call 7 rfl (by kernel_rfl) rfl rfl rfl (F.call (vs := [_, _, _]) Tryz.call208 rfl) (wPut_ok h5 hg hV s.var (valT σ.vals s.term) (hso.var (.inl a0))) ?_
  rintro _ w6 ⟨h6, hK6⟩
  refine ⟨fun _ => hK6.blk hB5 (KW.ne86 h5 hB5 (by decide) (by decide)), ?_⟩
  refine WD.done (by kernel_rfl) ?_ _
  refine WX.blockN (WX.end0 Tryz.results166 ⟨_, rfl, z, by rw [ee]; exact h6, WkM.refl _ _, rfl, ((hK03.ext hk4).ext hk5).trans hK6 (fun _ _ e => e)⟩)
 ·
  refine WC.sr (WO.o rfl (R.eql rfl rfl) (WO.a rfl rfl (WO.nil (WX.next ?_))))
  refine WC.ite rfl (fun a1 => ?_) (fun a1 => ?_)
  ·
   have ee : exec1 f hs s σ = { σ with outs := σ.outs ++ [valT σ.vals s.term], time := σ.time + s.cost } := by unfold exec1; rw [if_neg a0, if_pos a1]
   refine WC.draw (fun q => Blk q c [.int .i64 s.act, .int .i64 s.cost, .int .i64 s.var, .int .i64 s.n, .int .i64 s.term.op, .int .i64 s.term.n, p1, p2, p3, p4] 86 ∧ Blk q z.W [z.v1, z.v2, z.v3, z.sv, z.vv, z.hv, .map (some z.m), z.ov, .int .i64 (σ.time + s.cost)] 182) [15] (by kernel_rfl) (fun w4 hk4 _ => ?_)
   have hB4 := hk4.blk hBc3 (fun h => h)
   have h4 := h3.ext hk4
   refine WD.takeW 0 rfl (by kernel_rfl) rfl rfl rfl (fun w1 => R.move rfl) (WD.takeW 1 rfl (by kernel_rfl) rfl rfl rfl (fun w1 => R.move rfl) (WD.takeW 2 rfl (by kernel_rfl) rfl rfl rfl (fun w1 => R.nilCheck rfl) (WD.takeW 3 rfl (by kernel_rfl) rfl rfl rfl (fun w1 => R.fieldAddr Tryz.runUnderlying182 rfl Tryz.sizeOf64 rfl) (WD.takeW 4 rfl (by kernel_rfl) rfl rfl rfl (fun w1 => R.fieldAddr Tryz.runUnderlying64 rfl Tryz.sizeOf50 rfl) (WD.take 5 rfl (by kernel_rfl) rfl rfl rfl ⟨hB4, h4.blk⟩ (fun w1 hw1 => R.load Tryz.isAgg50 rfl (hw1.2.cells 7 _ rfl)) (WD.takeW 6 rfl (by kernel_rfl) rfl rfl rfl (fun w1 => R.move rfl) ?_))))))
   refine WD.takeW 7 rfl (by kernel_rfl) rfl rfl rfl (fun w1 => R.fieldAddr Tryz.runUnderlying86 rfl Tryz.sizeOf84 rfl) (WD.take 8 rfl (by kernel_rfl) rfl rfl rfl ⟨hB4, h4.blk⟩ (fun w1 hw1 => R.loadK Tryz.isAgg84 Tryz.sizeOf84 rfl (by rfl) (hw1.1.cells.sub 4 3)) (WD.call 9 rfl (by kernel_rfl) rfl rfl rfl (F.call (vs := [_, _]) Tryz.call122 rfl) (wValue_ok h4 hg hV s.term hso.formed hso.ranged hso.small _ D (RTm.put ((q1.keep stable_tm hK03 (fun q hq _ => hnD q hq)).ext stable_tm hk4))) ?_))
   rintro _ w5 ⟨rfl, hk5⟩
   have hB5 := hk5.blk hB4 (fun h => h)
   have h5 := h4.ext hk5
   refine ⟨fun _ => ⟨hB5, h5.blk⟩, ?_⟩
   refine WD.mem 10 rfl (by kernel_rfl) rfl rfl rfl (M.buildSlice (cs := [.int .i64 (valT σ.vals s.term)]) [(0, _)] Tryz.runUnderlying50 Tryz.sizeOf3 Tryz.zeroValue3 (by decide) rfl (by kernel_rfl)) ?_
   rintro _ w6 ⟨g6, rfl, hg6, hs6, hB6', hk6⟩
   have hB6 := hk6.blk hB5 (fun h => h)
   have h6 := h5.ext hk6
   refine ⟨fun _ => ⟨hB6, h6.blk⟩, ?_⟩
   have ho6 : w6.ownsRow 0 3 1 z.ov σ.outs.length (σ.outs.map encI1) := h6.outs
   refine WD.mem 11 rfl (by kernel_rfl) rfl rfl rfl (M.append Tryz.underlying50 Tryz.el3 rfl (by decide) rfl rfl ho6 rfl (Cells.add hB6'.cells) (by simp [Value.oneCell']) (by omega) (by omega)) ?_
   rintro ov' w7 ⟨ho7, hf7, hk7, _⟩
   have hB7 := hk7.blk hB6 (fun e => by obtain ⟨cs', hb'⟩ := own_blkty h6.outs e; exact absurd (hB6.ty hb').1 (by decide))
   have hW7 := hk7.blk h6.blk (fun e => h6.one e rfl)
   refine ⟨fun _ => ⟨hB7, hW7⟩, ?_⟩
   refine WD.takeW 12 rfl (by kernel_rfl) rfl rfl rfl (fun w1 => R.nilCheck rfl) (WD.takeW 13 rfl (by kernel_rfl) rfl rfl rfl (fun w1 => R.fieldAddr Tryz.runUnderlying182 rfl Tryz.sizeOf64 rfl) (WD.takeW 14 rfl (by kernel_rfl) rfl rfl rfl (fun w1 => R.fieldAddr Tryz.runUnderlying64 rfl Tryz.sizeOf50 rfl) ?_))
   obtain ⟨oa, oc, rfl⟩ := own_form ho7
   refine WD.mem0 15 rfl (by kernel_rfl) rfl rfl (M.store Tryz.sizeOf50 rfl rfl rfl rfl hW7 (by simp)) ?_
   rintro w8 ⟨hs8, hB8, hk8⟩
   refine ⟨fun h => absurd (by simp) h, ?_⟩
   have hov : ∀ g, Value.ownBlock (.slice oa (σ.outs.length + 1) oc) = some g → z.ov.ownBlock = some g ∨ w6.heap.size ≤ g := by
    intro g hg
    rcases hf7 with e | ⟨g', e, e'⟩
    · exact .inl (by rw [← e]; exact hg)
    · rw [e] at hg; cases hg; exact .inr e'
   have hzo := h6.no
   have hzv := h6.nv
   have hlow := h6.low
   have k78 : Keep (fun q => z.ov.ownBlock = some q ∨ q = z.W) w6 w8 := (Keep.mono hk7 (fun _ _ e => .inl e)).trans hk8 (fun _ _ e => .inr e)
   refine WD.done (by kernel_rfl) ?_ _
   refine WX.blockN ?_
   have hD8 : ∀ q, D q → ¬ (z.ov.ownBlock = some q ∨ q = z.W) := fun q hq e => e.elim (fun e => (hzo q e).1 hq) (fun e => h6.nW (e ▸ hq))
   refine WX.end0 Tryz.results166 ⟨_, rfl, { z with ov := .slice oa (σ.outs.length + 1) oc }, ?_, ⟨rfl, rfl, rfl, rfl, rfl, rfl, ?_⟩, rfl, ?_⟩
   ·
    rw [ee]
    refine ⟨hB8, rflKeepD h6.fl k78 hD8, h6.steps.keep stable_st k78 (fun q hq _ => hD8 q hq), own_keep h6.vals k78 (fun g hg e => e.elim (fun e => (hzv g hg).2.2 e) (fun e => h6.vne hg e)), own_keep h6.hats k78 (fun g hg e => e.elim (fun e => (hzo g e).2 hg) (fun e => h6.hne hg e)), ?_, h6.map.keep k78 (fun e => e.elim (fun e => h6.onm e rfl) (fun e => h6.wm e.symm)), fun q hq => by have := hlow q hq; have := k78.size; omega, h6.nW, h6.nm, ?_, ?_⟩
    ·
     have := own_keep ho7 hk8 (fun g hg (e : g = z.W) => by obtain ⟨cs', hb'⟩ := own_blkty ho7 hg; exact (hb'.ne hW7 (by decide)) e)
     dsimp only
     rw [List.length_append, List.map_append]
     exact this
    ·
     intro g hg
     refine ⟨(hzv g hg).1, (hzv g hg).2.1, fun e => ?_⟩
     rcases hov g e with e2 | e2
     · exact (hzv g hg).2.2 e2
     · have := own_lt h6.vals hg; omega
    ·
     intro g hg
     rcases hov g hg with e2 | e2
     · exact hzo g e2
     ·
      refine ⟨fun hq => by have := hlow g hq; omega, fun e => ?_⟩
      have := own_lt h6.hats e; omega
   ·
    rcases hf7 with e | ⟨g', e, e'⟩
    · exact .inl e
    ·
     have := (((hK03.ext hk4).ext hk5).ext hk6).size
     exact .inr ⟨g', e, by omega⟩
   · exact (((hK03.ext hk4).ext hk5).ext hk6).trans k78 (fun q _ e => e.elim (fun e => .inr (.inr (.inr e))) (fun e => .inl e))
  ·
   refine WC.sr (WO.o rfl (R.eql rfl rfl) (WO.a rfl rfl (WO.nil (WX.next ?_))))
   refine WC.ite rfl (fun a5 => ?_) (fun a5 => ?_)
   ·
    have ee : exec1 f hs s σ = { σ with vals := setV f.vars σ.vals s.var (lki hs s.n.toNat), time := σ.time + s.cost } := by unfold exec1; rw [if_neg a0, if_neg a1, if_pos a5]
    have hnn := hso.num a5
    obtain ⟨ha, hcp, hform⟩ := h3.hatsR.form
    have hh3 := h3.hatsR
    rw [hform] at hh3
    obtain ⟨bx, ox, cx, hax, _, hcx, hrx⟩ := hh3.at (lki_at (l := hs) (i := s.n.toNat) (by omega))
    obtain rfl := hrx
    have hbW := h3.blk
    rw [hform] at hbW
    refine WC.draw (fun q => Blk q c [.int .i64 s.act, .int .i64 s.cost, .int .i64 s.var, .int .i64 s.n, .int .i64 s.term.op, .int .i64 s.term.n, p1, p2, p3, p4] 86 ∧ Blk q z.W [z.v1, z.v2, z.v3, z.sv, z.vv, .slice ha hs.length hcp, .map (some z.m), z.ov, .int .i64 (σ.time + s.cost)] 182 ∧ Cells q bx (ox + s.n.toNat * 1) [.int .i64 (lki hs s.n.toNat)]) [] (by kernel_rfl) (fun w4 hk4 _ => ?_)
    have hB4 := hk4.blk hBc3 (fun h => h)
    have h4 := h3.ext hk4
    refine WD.takeW 0 rfl (by kernel_rfl) rfl rfl rfl (fun w1 => R.move rfl) (WD.takeW 1 rfl (by kernel_rfl) rfl rfl rfl (fun w1 => R.fieldAddr Tryz.runUnderlying86 rfl Tryz.sizeOf3 rfl) (WD.take 2 rfl (by kernel_rfl) rfl rfl rfl ⟨hB4, hk4.blk hbW (fun h => h), hk4.cells hcx (fun h => h)⟩ (fun w1 hw1 => R.load Tryz.isAgg3 rfl (hw1.1.cells 2 _ rfl)) (WD.takeW 3 rfl (by kernel_rfl) rfl rfl rfl (fun w1 => R.move rfl) (WD.takeW 4 rfl (by kernel_rfl) rfl rfl rfl (fun w1 => R.nilCheck rfl) (WD.takeW 5 rfl (by kernel_rfl) rfl rfl rfl (fun w1 => R.fieldAddr Tryz.runUnderlying182 rfl Tryz.sizeOf50 rfl) ?_)))))
    refine WD.take 6 rfl (by kernel_rfl) rfl rfl rfl ⟨hB4, hk4.blk hbW (fun h => h), hk4.cells hcx (fun h => h)⟩ (fun w1 hw1 => R.load Tryz.isAgg50 rfl (hw1.2.1.cells 5 _ rfl)) (WD.takeW 7 rfl (by kernel_rfl) rfl rfl rfl (fun w1 => R.fieldAddr Tryz.runUnderlying86 rfl Tryz.sizeOf3 rfl) (WD.take 8 rfl (by kernel_rfl) rfl rfl rfl ⟨hB4, hk4.blk hbW (fun h => h), hk4.cells hcx (fun h => h)⟩ (fun w1 hw1 => R.load Tryz.isAgg3 rfl (hw1.1.cells 3 _ rfl)) (WD.takeW 9 rfl (by kernel_rfl) rfl rfl rfl (fun w1 => R.indexS Tryz.runUnderlying50 Tryz.sizeOf3 rfl rfl hax (by omega)) (WD.take 10 rfl (by kernel_rfl) rfl rfl rfl ⟨hB4, hk4.blk hbW (fun h => h), hk4.cells hcx (fun h => h)⟩ (fun w1 hw1 => R.load Tryz.isAgg3 rfl (hw1.2.2 0 _ rfl)) ?_))))
    refine WD.call 11 rfl (by kernel_rfl) rfl rfl rfl (F.call (vs := [_, _, _]) Tryz.call208 rfl) (wPut_ok h4 hg hV s.var (lki hs s.n.toNat) (hso.var (.inr a5))) ?_
    rintro _ w6 ⟨h6, hK6⟩
    have hb6 := h6.blk
    rw [hform] at hb6
    have hh6 := h6.hatsR
    rw [hform] at hh6
    obtain ⟨bx', ox', cx', hax', _, hcx', hrx'⟩ := hh6.at (lki_at (l := hs) (i := s.n.toNat) (by omega))
    rw [hax] at hax'
    cases hax'
    obtain rfl := hrx'
    refine ⟨fun _ => ⟨hK6.blk hB4 (KW.ne86 h4 hB4 (by decide) (by decide)), hb6, hcx'⟩, ?_⟩
    refine WD.done (by kernel_rfl) ?_ _
    refine WX.blockN (WX.end0 Tryz.results166 ⟨_, rfl, z, by rw [ee]; exact h6, WkM.refl _ _, rfl, (hK03.ext hk4).trans hK6 (fun _ _ e => e)⟩)
   ·
    refine WC.sr (WO.o rfl (R.eql rfl rfl) (WO.a rfl rfl (WO.nil (WX.next ?_))))
    refine WC.ite rfl (fun a6 => ?_) (fun a6 => ?_)
    ·
     have ee : exec1 f hs s σ = { σ with time := settleN s.bounds (σ.time + s.cost) } := by unfold exec1; rw [if_neg a0, if_neg a1, if_neg a5, if_pos a6]
     refine WC.draw (fun q => Blk q c [.int .i64 s.act, .int .i64 s.cost, .int .i64 s.var, .int .i64 s.n, .int .i64 s.term.op, .int .i64 s.term.n, p1, p2, p3, p4] 86 ∧ Blk q z.W [z.v1, z.v2, z.v3, z.sv, z.vv, z.hv, .map (some z.m), z.ov, .int .i64 (σ.time + s.cost)] 182) [12] (by kernel_rfl) (fun w4 hk4 _ => ?_)
     have hB4 := hk4.blk hBc3 (fun h => h)
     have h4 := h3.ext hk4
     refine WD.takeW 0 rfl (by kernel_rfl) rfl rfl rfl (fun w1 => R.move rfl) (WD.takeW 1 rfl (by kernel_rfl) rfl rfl rfl (fun w1 => R.fieldAddr Tryz.runUnderlying86 rfl Tryz.sizeOf50 rfl) (WD.take 2 rfl (by kernel_rfl) rfl rfl rfl ⟨hB4, h4.blk⟩ (fun w1 hw1 => R.load Tryz.isAgg50 rfl (hw1.1.cells 9 _ rfl)) (WD.takeW 3 rfl (by kernel_rfl) rfl rfl rfl (fun w1 => R.move rfl) (WD.takeW 4 rfl (by kernel_rfl) rfl rfl rfl (fun w1 => R.nilCheck rfl) (WD.takeW 5 rfl (by kernel_rfl) rfl rfl rfl (fun w1 => R.fieldAddr Tryz.runUnderlying182 rfl Tryz.sizeOf64 rfl) (WD.takeW 6 rfl (by kernel_rfl) rfl rfl rfl (fun w1 => R.fieldAddr Tryz.runUnderlying64 rfl Tryz.sizeOf3 rfl) ?_))))))
     refine WD.take 7 rfl (by kernel_rfl) rfl rfl rfl ⟨hB4, h4.blk⟩ (fun w1 hw1 => R.load Tryz.isAgg3 rfl (hw1.2.cells 8 _ rfl)) (WD.call 8 rfl (by kernel_rfl) rfl rfl rfl (F.call (vs := [_, _]) Tryz.call209 rfl) (flatSettled_ok s.bounds (σ.time + s.cost) _ D w4 ((q4.keep stable_int hK03 (fun q hq _ => hnD q hq)).ext stable_int hk4)) ?_)
     rintro _ w5 ⟨rfl, hk5⟩
     have hB5 := hk5.blk hB4 (fun h => h)
     have h5 := h4.ext hk5
     refine ⟨fun _ => ⟨hB5, h5.blk⟩, ?_⟩
     refine WD.takeW 9 rfl (by kernel_rfl) rfl rfl rfl (fun w1 => R.nilCheck rfl) (WD.takeW 10 rfl (by kernel_rfl) rfl rfl rfl (fun w1 => R.fieldAddr Tryz.runUnderlying182 rfl Tryz.sizeOf64 rfl) (WD.takeW 11 rfl (by kernel_rfl) rfl rfl rfl (fun w1 => R.fieldAddr Tryz.runUnderlying64 rfl Tryz.sizeOf3 rfl) (WD.mem0 12 rfl (by kernel_rfl) rfl rfl (M.store Tryz.sizeOf3 rfl rfl rfl rfl h5.blk (by simp)) ?_)))
     rintro w6 hw6
     refine ⟨fun h => absurd (by simp) h, ?_⟩
     obtain ⟨h6, hK6⟩ := h5.time hw6
     refine WD.done (by kernel_rfl) ?_ _
     refine WX.blockN (WX.end0 Tryz.results166 ⟨_, rfl, z, by rw [ee]; exact h6, WkM.refl _ _, rfl, ((hK03.ext hk4).ext hk5).trans hK6 (fun _ _ e => e)⟩)
    ·
     have ee : exec1 f hs s σ = { σ with time := σ.time + s.cost } := by unfold exec1; rw [if_neg a0, if_neg a1, if_neg a5, if_neg a6]
     refine WC.skip (WX.blockN (WX.end0 Tryz.results166 ⟨_, rfl, z, by rw [ee]; exact h3, WkM.refl _ _, rfl, hK03⟩))
def updR (rd : Int → Int) (k n : Int) : Int → Int := fun j => if j = k then n else rd j
def passN (f : Fl) (hs : List Int) (x : Nd) (s : St) (σ : Sg) (rd : Int → Int) : Int × Sg × (Int → Int) :=
 if x.kind = 0 then (x.next, σ, rd)
 else if x.kind = 2 then (x.next, exec1 f hs s σ, rd)
 else if x.kind = 4 then (x.next, σ, updR rd x.at_ 0)
 else if x.kind = 5 ∧ rd x.at_ = s.n then (x.other, σ, rd)
 else (if valT σ.vals s.term ≠ 0 then x.next else x.other, { σ with time := σ.time + s.cost }, if x.kind = 5 then updR rd x.at_ (rd x.at_ + 1) else rd)
def RdM (rm : List (Int × Value)) (rd : Int → Int) : Prop := ∀ k, (getM rm k).getD (.int .i64 0) = .int .i64 (rd k)
theorem RdM.upd {rm : List (Int × Value)} {rd : Int → Int} (h : RdM rm rd) (hn : (rm.map (·.1)).Nodup) (k n : Int) : RdM (setM rm k (.int .i64 n)) (updR rd k n) := by
 intro j
 rw [getM_setM hn]
 unfold updR
 by_cases e : j = k
 · rw [if_pos e, if_pos e]; rfl
 · rw [if_neg e, if_neg e]; exact h j
theorem WkS.mapw {D : Nat → Prop} {f : Fl} {hs : List Int} {w w' : World} {σ : Sg} {z : WkV} (h : WkS D f hs w σ z) {rm' : List (Int × Value)} (hM : MapI w' z.m rm') (hk : Keep (fun q => q = z.m) w w') : WkS D f hs w' σ { z with rm := rm' } ∧ Keep (KW z) w w' := by
 refine ⟨⟨hk.blk h.blk (fun e => h.wm e), rflKeepD h.fl hk (fun q hq (e : q = z.m) => h.nm (e ▸ hq)), h.steps.keep stable_st hk (fun q hq _ (e : q = z.m) => h.nm (e ▸ hq)), own_keep h.vals hk (fun g hg (e : g = z.m) => h.vnm hg e), own_keep h.hats hk (fun g hg (e : g = z.m) => h.hnm hg e), own_keep h.outs hk (fun g hg (e : g = z.m) => h.onm hg e), hM, fun q hq => by have := h.low q hq; have := hk.size; omega, h.nW, h.nm, h.nv, h.no⟩, Keep.mono hk (fun _ _ e => .inr (.inl e))⟩
theorem wPass_ok {D : Nat → Prop} {f : Fl} {hs : List Int} {w : World} {σ : Sg} {z : WkV} (h : WkS D f hs w σ z) (hg : ∀ v ∈ f.vars, Good (v.low, v.high)) (hV : InV f.vars σ.vals) (x : Nd) (s : St) (hkd : x.kind = 0 ∨ x.kind = 2 ∨ x.kind = 3 ∨ x.kind = 4 ∨ x.kind = 5)
  (hx : x.kind ≠ 0 → 0 ≤ x.at_ ∧ (preL f.body)[x.at_.toNat]? = some s ∧ StepOk f s) (hhs : hs.length = f.hatches.length) (ht : -1152921504606846976 ≤ σ.time ∧ σ.time ≤ 1152921504606846976) (hol : σ.outs.length ≤ 1000000000)
  (rd : Int → Int) (hrd : RdM z.rm rd) (hrb : x.kind = 5 → 0 ≤ rd x.at_ ∧ rd x.at_ ≤ 1000000000) :
  Calls Tryz.prog 123 #[.pointer (some ⟨z.W, 0, none⟩), .agg (encN x).toArray] w (Ret fun r w' => r = .int .i64 (passN f hs x s σ rd).1 ∧ ∃ z', WkS D f hs w' (passN f hs x s σ rd).2.1 z' ∧ WkM w z z' ∧ RdM z'.rm (passN f hs x s σ rd).2.2 ∧ Keep (KW z) w w') := by
 have hnD : ∀ q, D q → ¬ KW z q := by
  rintro q hq (rfl | rfl | e | e)
  · exact h.nW hq
  · exact h.nm hq
  · exact (h.nv q e).1 hq
  · exact (h.no q e).1 hq
 refine calls Tryz.func123 rfl [(0, .pointer (some ⟨z.W, 0, none⟩)), (1, .agg (encN x).toArray)] 80 ⟨Nat.le_of_ble_eq_true rfl, Tryz.ntmps123⟩ (argsOk (Sub.of rfl)) ?_
 refine WC.sr (WO.mem rfl rfl rfl (M.box rfl rfl) ?_)
 rintro _ w1 ⟨b, rfl, hb, hs1, hBb0, hk1⟩
 have hBb : Blk w1 b [.int .i64 x.kind, .int .i64 x.at_, .int .i64 x.next, .int .i64 x.other] 40 := hBb0
 have h1 := h.ext hk1
 refine WO.a rfl rfl (WO.nil (WX.next (WC.seq (WC.seq (WC.region ?_)))))
 refine WO.o rfl (R.fieldAddr Tryz.runUnderlying40 rfl Tryz.sizeOf38 rfl) (WO.o rfl (R.load Tryz.isAgg38 rfl (hBb.cells 0 _ rfl)) (WO.o rfl (R.eql rfl rfl) (WO.nil (WX.next ?_))))
 refine WC.ite rfl (fun k0 => ?_) (fun k0 => ?_)
 ·
  have ee : passN f hs x s σ rd = (x.next, σ, rd) := by unfold passN; rw [if_pos k0]
  refine WC.sr (WO.o rfl (R.fieldAddr Tryz.runUnderlying40 rfl Tryz.sizeOf3 rfl) (WO.o rfl (R.load Tryz.isAgg3 rfl (hBb.cells 2 _ rfl)) (WO.a rfl rfl (WO.nil (WX.next (WC.ret (WX.thenR ?_)))))))
  refine WX.ret1 Tryz.results123 rfl ⟨_, rfl, by rw [ee], z, by rw [ee]; exact h1, WkM.refl _ _, by rw [ee]; exact hrd, Keep.mono hk1 (fun _ _ e => e.elim)⟩
 ·
  obtain ⟨hat, hpre, hso⟩ := hx k0
  have hcost := hso.cost
  obtain ⟨sa, sc, hsv⟩ := h1.steps.form
  have hst1 := h1.steps
  rw [hsv] at hst1
  have hW1 := h1.blk
  rw [hsv] at hW1
  have hpl := (List.getElem?_eq_some_iff.1 hpre).1
  obtain ⟨bq, oq, cq, haq, hDq, _, hcq, hRq⟩ : ∃ b o cs, sa = some ⟨b, o, none⟩ ∧ D b ∧ cs.length = 10 ∧ Cells w1 b (o + x.at_.toNat * 10) cs ∧ RSt D w1 s cs := by
   obtain ⟨ao', cap', h1, h2, h3, h4⟩ := hst1
   cases h1
   exact h4 _ s hpre
  have hone := hRq.one
  have hRq0 := hRq
  obtain ⟨p1, p2, p3, p4, rfl, q1, q2, q3, q4⟩ := hRq.get
  have hsz1 := hk1.size
  refine WC.skip (WX.next (WC.seq (WC.draw (fun q => Ext w1 q) [9] (by kernel_rfl) (fun w2 hk2 _ => ?_))))
  have h2 := h1.ext hk2
  have hBb2 := hk2.blk hBb (fun h => h)
  refine WD.takeW 0 rfl (by kernel_rfl) rfl rfl rfl (fun w1 => R.move rfl) (WD.takeW 1 rfl (by kernel_rfl) rfl rfl rfl (fun w1 => R.nilCheck rfl) (WD.takeW 2 rfl (by kernel_rfl) rfl rfl rfl (fun w1 => R.fieldAddr Tryz.runUnderlying182 rfl Tryz.sizeOf24 rfl) (WD.take 3 rfl (by kernel_rfl) rfl rfl rfl hk2 (fun w1 hw1 => R.load Tryz.isAgg24 rfl ((hw1.blk hW1 (fun h => h)).cells 3 _ rfl)) (WD.takeW 4 rfl (by kernel_rfl) rfl rfl rfl (fun w1 => R.fieldAddr Tryz.runUnderlying40 rfl Tryz.sizeOf3 rfl) (WD.take 5 rfl (by kernel_rfl) rfl rfl rfl hk2 (fun w1 hw1 => R.load Tryz.isAgg3 rfl ((hw1.blk hBb (fun h => h)).cells 1 _ rfl)) ?_)))))
  refine WD.takeW 6 rfl (by kernel_rfl) rfl rfl rfl (fun w1 => R.indexS Tryz.runUnderlying24 Tryz.sizeOf86 rfl rfl haq (by omega)) (WD.take 7 rfl (by kernel_rfl) rfl rfl rfl hk2 (fun w1 hw1 => R.loadK Tryz.isAgg86 Tryz.sizeOf86 rfl (by rfl) (hw1.cells hcq (fun h => h))) (WD.mem 8 rfl (by kernel_rfl) rfl rfl rfl (M.alloc (cs := _) Tryz.zeroValue86 rfl) ?_))
  rintro _ w3 ⟨c, rfl, hc, hsc, hBc0, hk3⟩
  refine ⟨fun _ => hk2.ext hk3, ?_⟩
  refine WD.mem0 9 rfl (by kernel_rfl) rfl rfl (M.storeK Tryz.sizeOf86 rfl rfl rfl rfl hone hBc0 (by simp)) ?_
  rintro w4 ⟨_, hBc1, hk4⟩
  refine ⟨fun h => absurd (by simp) h, ?_⟩
  have hk34 : Ext w2 w4 := hk3.trans hk4 (fun q hq (e : q = c) => by omega)
  have hBc : Blk w4 c [.int .i64 s.act, .int .i64 s.cost, .int .i64 s.var, .int .i64 s.n, .int .i64 s.term.op, .int .i64 s.term.n, p1, p2, p3, p4] 86 := hBc1
  have h4 := h2.ext hk34
  have hBb4 := hk34.blk hBb2 (fun h => h)
  have hE4 : Ext w w4 := (hk1.ext hk2).ext hk34
  have hR4 : RSt D w4 s [.int .i64 s.act, .int .i64 s.cost, .int .i64 s.var, .int .i64 s.n, .int .i64 s.term.op, .int .i64 s.term.n, p1, p2, p3, p4] := RSt.put (q1.ext stable_tm (hk2.ext hk34)) (q2.ext stable_st (hk2.ext hk34)) (q3.ext stable_st (hk2.ext hk34)) (q4.ext stable_int (hk2.ext hk34))
  refine WD.done (by kernel_rfl) ?_ _
  refine WX.next (WC.seq (WC.seq (WC.region (WO.o rfl (R.fieldAddr Tryz.runUnderlying40 rfl Tryz.sizeOf38 rfl) (WO.o rfl (R.load Tryz.isAgg38 rfl (hBb4.cells 0 _ rfl)) (WO.nil (WX.next (WC.block (WC.seq (WC.region ?_))))))))))
  refine WO.o rfl (R.eql rfl rfl) (WO.a rfl rfl (WO.nil (WX.next ?_)))
  refine WC.ite rfl (fun k2 => ?_) (fun k2 => ?_)
  ·
   have ee : passN f hs x s σ rd = (x.next, exec1 f hs s σ, rd) := by unfold passN; rw [if_neg k0, if_pos k2]
   refine WC.sr (WO.mv rfl rfl (WO.o rfl (R.loadK Tryz.isAgg86 Tryz.sizeOf86 rfl (by rfl) hBc.cells) (WO.call rfl rfl rfl (F.call (vs := [_, _]) Tryz.call166 rfl) (wExec_ok h4 hg hV s hso hhs ht hol _ hR4) ?_)))
   rintro _ w5 ⟨z', h5, hm5, hrm, hK5⟩
   have hBb5 := hK5.blk hBb4 (KW.ne86 h4 hBb4 (by decide) (by decide))
   refine WO.nr (WO.o rfl (R.fieldAddr Tryz.runUnderlying40 rfl Tryz.sizeOf3 rfl) (WO.o rfl (R.load Tryz.isAgg3 rfl (hBb5.cells 2 _ rfl)) (WO.a rfl rfl (WO.nil (WX.next (WC.ret (WX.blockR (WX.thenR ?_))))))))
   refine WX.ret1 Tryz.results123 rfl ⟨_, rfl, by rw [ee], z', by rw [ee]; exact h5, ⟨hm5.W, hm5.m, hm5.vv, hm5.v1, hm5.sv, hm5.hv, hm5.ov.imp id (fun ⟨g, e1, e2⟩ => ⟨g, e1, by have := hE4.size; omega⟩)⟩, by rw [ee, hrm]; exact hrd, Keep.trans (Keep.mono hE4 (fun _ _ e => e.elim)) hK5 (fun _ _ e => e)⟩
  ·
   refine WC.sr (WO.o rfl (R.eql rfl rfl) (WO.a rfl rfl (WO.nil (WX.next ?_))))
   refine WC.ite rfl (fun k4 => ?_) (fun k4 => ?_)
   ·
    have ee : passN f hs x s σ rd = (x.next, σ, updR rd x.at_ 0) := by unfold passN; rw [if_neg k0, if_neg k2, if_pos k4]
    refine WC.seq (WC.draw (fun q => Ext w4 q) [6] (by kernel_rfl) (fun w5 hk5 _ => ?_))
    have h5 := h4.ext hk5
    have hBb5 := hk5.blk hBb4 (fun h => h)
    refine WD.takeW 0 rfl (by kernel_rfl) rfl rfl rfl (fun w1 => R.move rfl) (WD.takeW 1 rfl (by kernel_rfl) rfl rfl rfl (fun w1 => R.nilCheck rfl) (WD.takeW 2 rfl (by kernel_rfl) rfl rfl rfl (fun w1 => R.fieldAddr Tryz.runUnderlying182 rfl Tryz.sizeOf180 rfl) (WD.take 3 rfl (by kernel_rfl) rfl rfl rfl hk5 (fun w1 hw1 => R.load Tryz.isAgg180 rfl ((hw1.blk h4.blk (fun h => h)).cells 6 _ rfl)) (WD.takeW 4 rfl (by kernel_rfl) rfl rfl rfl (fun w1 => R.fieldAddr Tryz.runUnderlying40 rfl Tryz.sizeOf3 rfl) (WD.take 5 rfl (by kernel_rfl) rfl rfl rfl hk5 (fun w1 hw1 => R.load Tryz.isAgg3 rfl ((hw1.blk hBb4 (fun h => h)).cells 1 _ rfl)) ?_)))))
    refine WD.mem0 6 rfl (by kernel_rfl) rfl rfl (M.update h5.map Tryz.underlying180 Tryz.underlying3 rfl rfl rfl) ?_
    rintro w6 ⟨hM6, hk6, hs6⟩
    refine ⟨fun h => absurd (by simp) h, ?_⟩
    obtain ⟨h6, hK6⟩ := h5.mapw hM6 hk6
    have hBb6 := hK6.blk hBb5 (KW.ne86 h5 hBb5 (by decide) (by decide))
    refine WD.done (by kernel_rfl) ?_ _
    refine WX.next (WC.seq (WC.region (WO.o rfl (R.fieldAddr Tryz.runUnderlying40 rfl Tryz.sizeOf3 rfl) (WO.o rfl (R.load Tryz.isAgg3 rfl (hBb6.cells 2 _ rfl)) (WO.a rfl rfl (WO.nil (WX.next (WC.ret (WX.blockR (WX.thenR ?_))))))))))
    refine WX.ret1 Tryz.results123 rfl ⟨_, rfl, by rw [ee], { z with rm := setM z.rm x.at_ (.int .i64 0) }, by rw [ee]; exact h6, ⟨rfl, rfl, rfl, rfl, rfl, rfl, .inl rfl⟩, by rw [ee]; exact hrd.upd h5.map.nodup _ _, Keep.trans (Keep.mono (hE4.ext hk5) (fun _ _ e => e.elim)) hK6 (fun _ _ e => e)⟩
   ·
    refine WC.sr (WO.o rfl (R.eql rfl rfl) (WO.a rfl rfl (WO.nil (WX.next ?_))))
    refine WC.cut (σ := WkV × (Int → Int)) (fun ⟨z', rd'⟩ => [(0, .pointer (some ⟨z.W, 0, none⟩)), (3, .pointer (some ⟨b, 0, none⟩)), (5, .pointer (some ⟨c, 0, none⟩))]) (fun ⟨z', rd'⟩ => fun w' => (¬ (x.kind = 5 ∧ rd x.at_ = s.n)) ∧ rd' = (if x.kind = 5 then updR rd x.at_ (rd x.at_ + 1) else rd) ∧ WkS D f hs w' σ z' ∧ WkM w z z' ∧ RdM z'.rm rd' ∧ Keep (KW z) w w' ∧ KW z' = KW z ∧ Keep (KW z) w4 w') ?_ ?_
    ·
     refine WC.ite rfl (fun k5 => ?_) (fun k5 => ?_)
     ·
      have hrb5 := hrb k5
      have hlk := hrd x.at_
      refine WC.seq (WC.seq (WC.quiet (by kernel_rfl) (by kernel_rfl) (WQ.op rfl rfl rfl (fun w1 hw1 => R.move rfl) (WQ.op rfl rfl rfl (fun w1 hw1 => R.nilCheck rfl) (WQ.op rfl rfl rfl (fun w1 hw1 => R.fieldAddr Tryz.runUnderlying182 rfl Tryz.sizeOf180 rfl) (WQ.op rfl rfl rfl (fun w1 hw1 => R.load Tryz.isAgg180 rfl ((hw1.blk h4.blk (fun h => h)).cells 6 _ rfl)) (WQ.op rfl rfl rfl (fun w1 hw1 => R.fieldAddr Tryz.runUnderlying40 rfl Tryz.sizeOf3 rfl) (WQ.op rfl rfl rfl (fun w1 hw1 => R.load Tryz.isAgg3 rfl ((hw1.blk hBb4 (fun h => h)).cells 1 _ rfl)) (WQ.op rfl rfl rfl (fun w1 hw1 => R.lookupI (h4.map.ext hw1) Tryz.underlying180 Tryz.underlying3 Tryz.zeroValue3 rfl rfl) ?_)))))))))
      rw [hlk]
      refine WQ.op rfl rfl rfl (fun w1 hw1 => R.fieldAddr Tryz.runUnderlying86 rfl Tryz.sizeOf3 rfl) (WQ.op rfl rfl rfl (fun w1 hw1 => R.load Tryz.isAgg3 rfl ((hw1.blk hBc (fun h => h)).cells 3 _ rfl)) (WQ.op rfl rfl rfl (fun w1 hw1 => R.eql rfl rfl) (WQ.nil (fun w5 hk5 => ?_))))
      have h5 := h4.ext hk5
      have hBb5 := hk5.blk hBb4 (fun h => h)
      have hBc5 := hk5.blk hBc (fun h => h)
      refine WX.next (WC.ite rfl (fun hn => ?_) (fun hn => ?_))
      ·
       have ee : passN f hs x s σ rd = (x.other, σ, rd) := by unfold passN; rw [if_neg k0, if_neg k2, if_neg k4, if_pos ⟨k5, hn⟩]
       refine WC.sr (WO.o rfl (R.fieldAddr Tryz.runUnderlying40 rfl Tryz.sizeOf3 rfl) (WO.o rfl (R.load Tryz.isAgg3 rfl (hBb5.cells 3 _ rfl)) (WO.a rfl rfl (WO.nil (WX.next (WC.ret (WX.thenR (WX.thenR (WX.blockR (WX.thenR ?_))))))))))
       refine WX.ret1 Tryz.results123 rfl ⟨_, rfl, by rw [ee], z, by rw [ee]; exact h5, WkM.refl _ _, by rw [ee]; exact hrd, Keep.mono (hE4.ext hk5) (fun _ _ e => e.elim)⟩
      ·
       refine WC.skip (WX.next (WC.draw (fun q => Ext w5 q) [8] (by kernel_rfl) (fun w6 hk6 _ => ?_)))
       have h6 := h5.ext hk6
       have hBb6 := hk6.blk hBb5 (fun h => h)
       have hBc6 := hk6.blk hBc5 (fun h => h)
       refine WD.takeW 0 rfl (by kernel_rfl) rfl rfl rfl (fun w1 => R.move rfl) (WD.takeW 1 rfl (by kernel_rfl) rfl rfl rfl (fun w1 => R.nilCheck rfl) (WD.takeW 2 rfl (by kernel_rfl) rfl rfl rfl (fun w1 => R.fieldAddr Tryz.runUnderlying182 rfl Tryz.sizeOf180 rfl) (WD.take 3 rfl (by kernel_rfl) rfl rfl rfl hk6 (fun w1 hw1 => R.load Tryz.isAgg180 rfl ((hw1.blk h5.blk (fun h => h)).cells 6 _ rfl)) (WD.takeW 4 rfl (by kernel_rfl) rfl rfl rfl (fun w1 => R.fieldAddr Tryz.runUnderlying40 rfl Tryz.sizeOf3 rfl) (WD.take 5 rfl (by kernel_rfl) rfl rfl rfl hk6 (fun w1 hw1 => R.load Tryz.isAgg3 rfl ((hw1.blk hBb5 (fun h => h)).cells 1 _ rfl)) ?_)))))
       refine WD.take 6 rfl (by kernel_rfl) rfl rfl rfl hk6 (fun w1 hw1 => R.lookupI (h5.map.ext hw1) Tryz.underlying180 Tryz.underlying3 Tryz.zeroValue3 rfl rfl) ?_
       rw [hlk]
       refine WD.takeW 7 rfl (by kernel_rfl) rfl rfl rfl (fun w1 => R.add rfl rfl (wrap_i64_in (by omega))) (WD.mem0 8 rfl (by kernel_rfl) rfl rfl (M.update h6.map Tryz.underlying180 Tryz.underlying3 rfl rfl rfl) ?_)
       rintro w7 ⟨hM7, hk7, hs7⟩
       refine ⟨fun h => absurd (by simp) h, ?_⟩
       obtain ⟨h7, hK7⟩ := h6.mapw hM7 hk7
       refine WD.done (by kernel_rfl) ?_ _
       refine WX.meet (({ z with rm := setM z.rm x.at_ (.int .i64 (rd x.at_ + 1)) }, updR rd x.at_ (rd x.at_ + 1))) (Sub.of rfl) (⟨fun e => hn e.2, by rw [if_pos k5], h7, ⟨rfl, rfl, rfl, rfl, rfl, rfl, .inl rfl⟩, hrd.upd h6.map.nodup _ _, Keep.trans (Keep.mono ((hE4.ext hk5).ext hk6) (fun _ _ e => e.elim)) hK7 (fun _ _ e => e), rfl, Keep.trans (Keep.mono (hk5.ext hk6) (fun _ _ e => e.elim)) hK7 (fun _ _ e => e)⟩)
     ·
      have hK4 : Keep (KW z) w w4 := Keep.mono hE4 (fun _ _ e => e.elim)
      refine WC.skip (WX.meet ((z, rd)) (Sub.of rfl) (⟨fun e => k5 e.1, by rw [if_neg k5], h4, WkM.refl _ _, hrd, hK4, rfl, Keep.refl _ _⟩))
    ·
     rintro ⟨z', rd'⟩ w5 ⟨hno, hrd', h5, hm5, hrd5, hK5, hKW, hK45⟩
     show WX _ _ _ [(0, .pointer (some ⟨z.W, 0, none⟩)), (3, .pointer (some ⟨b, 0, none⟩)), (5, .pointer (some ⟨c, 0, none⟩))] _
     have ee : passN f hs x s σ rd = (if valT σ.vals s.term ≠ 0 then x.next else x.other, { σ with time := σ.time + s.cost }, rd') := by unfold passN; rw [if_neg k0, if_neg k2, if_neg k4, if_neg hno, hrd']
     have hBb5 := hK45.blk hBb4 (KW.ne86 h4 hBb4 (by decide) (by decide))
     have hBc5 := hK45.blk hBc (KW.ne86 h4 hBc (by decide) (by decide))
     have hW5 := h5.blk
     rw [hm5.W] at hW5
     refine WX.blockN (WX.next (WC.seq (WC.draw (fun q => Ext w5 q) [11] (by kernel_rfl) (fun w6 hk6 _ => ?_))))
     have h6 := h5.ext hk6
     have hBb6 := hk6.blk hBb5 (fun h => h)
     have hBc6 := hk6.blk hBc5 (fun h => h)
     refine WD.takeW 0 rfl (by kernel_rfl) rfl rfl rfl (fun w1 => R.move rfl) (WD.takeW 1 rfl (by kernel_rfl) rfl rfl rfl (fun w1 => R.nilCheck rfl) (WD.takeW 2 rfl (by kernel_rfl) rfl rfl rfl (fun w1 => R.fieldAddr Tryz.runUnderlying182 rfl Tryz.sizeOf64 rfl) (WD.takeW 3 rfl (by kernel_rfl) rfl rfl rfl (fun w1 => R.fieldAddr Tryz.runUnderlying64 rfl Tryz.sizeOf3 rfl) (WD.take 4 rfl (by kernel_rfl) rfl rfl rfl hk6 (fun w1 hw1 => R.load Tryz.isAgg3 rfl ((hw1.blk hW5 (fun h => h)).cells 8 (.int .i64 σ.time) rfl)) (WD.takeW 5 rfl (by kernel_rfl) rfl rfl rfl (fun w1 => R.fieldAddr Tryz.runUnderlying86 rfl Tryz.sizeOf3 rfl) ?_)))))
     refine WD.take 6 rfl (by kernel_rfl) rfl rfl rfl hk6 (fun w1 hw1 => R.load Tryz.isAgg3 rfl ((hw1.blk hBc5 (fun h => h)).cells 1 (.int .i64 s.cost) rfl)) (WD.takeW 7 rfl (by kernel_rfl) rfl rfl rfl (fun w1 => R.add rfl rfl (wrap_i64_in (by omega))) (WD.takeW 8 rfl (by kernel_rfl) rfl rfl rfl (fun w1 => R.nilCheck rfl) (WD.takeW 9 rfl (by kernel_rfl) rfl rfl rfl (fun w1 => R.fieldAddr Tryz.runUnderlying182 rfl Tryz.sizeOf64 rfl) (WD.takeW 10 rfl (by kernel_rfl) rfl rfl rfl (fun w1 => R.fieldAddr Tryz.runUnderlying64 rfl Tryz.sizeOf3 rfl) (WD.mem0 11 rfl (by kernel_rfl) rfl rfl (M.store Tryz.sizeOf3 rfl rfl rfl rfl (hk6.blk hW5 (fun h => h)) (by simp)) ?_)))))
     rintro w7 hw7
     refine ⟨fun h => absurd (by simp) h, ?_⟩
     have hw7' := hw7
     rw [← hm5.W] at hw7'
     obtain ⟨h7, hK7⟩ := h6.time hw7'
     rw [hKW] at hK7
     have hnk : ¬ KW z c := KW.ne86 h4 hBc (by decide) (by decide)
     have hnb : ¬ KW z b := KW.ne86 h4 hBb4 (by decide) (by decide)
     have hBb7 := hK7.blk hBb6 hnb
     have hBc7 := hK7.blk hBc6 hnk
     have hK07 : Keep (KW z) w w7 := (hK5.ext hk6).trans hK7 (fun _ _ e => e)
     have hK47 : Keep (KW z) w4 w7 := (hK45.ext hk6).trans hK7 (fun _ _ e => e)
     have q17 : SlR 3 RTm D w7 p1 s.term.kids := (q1.ext stable_tm (hk2.ext hk34)).keep stable_tm hK47 (fun q hq _ => hnD q hq)
     refine WD.done (by kernel_rfl) ?_ _
     refine WX.next (WC.seq (WC.seq (WC.region (WO.mv rfl rfl (WO.o rfl (R.fieldAddr Tryz.runUnderlying86 rfl Tryz.sizeOf84 rfl) (WO.o rfl (R.loadK Tryz.isAgg84 Tryz.sizeOf84 rfl (by rfl) (hBc7.cells.sub 4 3)) ?_))))))
     have hv7 := wValue_ok h7 hg hV s.term hso.formed hso.ranged hso.small _ D (RTm.put q17)
     rw [hm5.W] at hv7
     refine WO.call rfl rfl rfl (F.call (vs := [_, _]) Tryz.call122 rfl) hv7 ?_
     rintro _ w8 ⟨rfl, hk8⟩
     have h8 := h7.ext hk8
     have hBb8 := hk8.blk hBb7 (fun h => h)
     refine WO.o rfl (R.neq rfl rfl) (WO.nil (WX.next ?_))
     refine WC.ite rfl (fun hz => ?_) (fun hz => ?_)
     ·
      refine WC.sr (WO.o rfl (R.fieldAddr Tryz.runUnderlying40 rfl Tryz.sizeOf3 rfl) (WO.o rfl (R.load Tryz.isAgg3 rfl (hBb8.cells 2 _ rfl)) (WO.a rfl rfl (WO.nil (WX.next (WC.ret (WX.thenR ?_)))))))
      refine WX.ret1 Tryz.results123 rfl ⟨_, rfl, by rw [ee, if_pos hz], z', by rw [ee]; exact h8, hm5, by rw [ee]; exact hrd5, hK07.ext hk8⟩
     ·
      refine WC.ks (WO.o rfl (R.fieldAddr Tryz.runUnderlying40 rfl Tryz.sizeOf3 rfl) (WO.o rfl (R.load Tryz.isAgg3 rfl (hBb8.cells 3 _ rfl)) (WO.a rfl rfl (WO.nil (WX.next (WC.ret ?_))))))
      refine WX.ret1 Tryz.results123 rfl ⟨_, rfl, by rw [ee, if_neg hz], z', by rw [ee]; exact h8, hm5, by rw [ee]; exact hrd5, hK07.ext hk8⟩
def loopX (body : Sg → Sg) (cost : Int) (t : Tm) : Nat → Sg → Sg
 | 0, σ => σ
 | k + 1, σ => if valT σ.vals t = 0 then { σ with time := σ.time + cost } else loopX body cost t k (body { σ with time := σ.time + cost })
section
variable (f : Fl) (hs : List Int)
mutual
def exS : St → Sg → Sg
 | .mk a c v n t th el b, σ =>
  if a = 3 then (if valT σ.vals t ≠ 0 then exL th { σ with time := σ.time + c } else exL el { σ with time := σ.time + c })
  else if a = 4 then loopX (fun σ => exL th σ) c t n.toNat σ
  else exec1 f hs (.mk a c v n t th el b) σ
def exL : List St → Sg → Sg
 | [], σ => σ
 | s :: r, σ => exL r (exS s σ)
end
theorem exS_eq (s : St) (σ : Sg) : exS f hs s σ = if s.act = 3 then (if valT σ.vals s.term ≠ 0 then exL f hs s.thn { σ with time := σ.time + s.cost } else exL f hs s.els { σ with time := σ.time + s.cost })
  else if s.act = 4 then loopX (exL f hs s.thn) s.cost s.term s.n.toNat σ else exec1 f hs s σ := by cases s; rw [exS]; rfl
structure Mc where
 at_ : Int
 σ : Sg
 rd : Int → Int
def noSt : St := .mk 0 0 0 0 (.mk 0 0 []) [] [] []
def ndAt (g : List Nd) (k : Int) : Nd := g[k.toNat]?.getD ⟨1, -1, -1, -1⟩
def stAt (f : Fl) (k : Int) : St := (preL f.body)[k.toNat]?.getD noSt
def stepM (g : List Nd) (m : Mc) : Mc :=
 ⟨(passN f hs (ndAt g m.at_) (stAt f (ndAt g m.at_).at_) m.σ m.rd).1, (passN f hs (ndAt g m.at_) (stAt f (ndAt g m.at_).at_) m.σ m.rd).2.1, (passN f hs (ndAt g m.at_) (stAt f (ndAt g m.at_).at_) m.σ m.rd).2.2⟩
def iterM (g : List Nd) : Nat → Mc → Mc
 | 0, m => m
 | k + 1, m => iterM g k (stepM f hs g m)
theorem iterM_add (g : List Nd) : ∀ (a b : Nat) (m : Mc), iterM f hs g (a + b) m = iterM f hs g b (iterM f hs g a m)
 | 0, b, m => by rw [Nat.zero_add]; rfl
 | a + 1, b, m => by rw [show a + 1 + b = (a + b) + 1 by omega]; exact iterM_add g a b (stepM f hs g m)
theorem iterM_succ (g : List Nd) (k : Nat) (m : Mc) : iterM f hs g (k + 1) m = stepM f hs g (iterM f hs g k m) := by rw [iterM_add]; rfl
def Goes (g : List Nd) (lo hi : Int) (k : Nat) (m m' : Mc) : Prop := iterM f hs g k m = m' ∧ ∀ j, j < k → lo ≤ (iterM f hs g j m).at_ ∧ (iterM f hs g j m).at_ < hi
end
section
variable {f : Fl} {hs : List Int} {g : List Nd} {lo hi : Int} {k k' : Nat} {m m' m'' : Mc}
theorem Goes.refl (m : Mc) : Goes f hs g lo hi 0 m m := ⟨rfl, fun j h => absurd h (Nat.not_lt_zero _)⟩
theorem Goes.trans (h : Goes f hs g lo hi k m m') (h' : Goes f hs g lo hi k' m' m'') : Goes f hs g lo hi (k + k') m m'' := by
 refine ⟨by rw [iterM_add, h.1, h'.1], fun j hj => ?_⟩
 by_cases hjk : j < k
 · exact h.2 j hjk
 ·
  obtain ⟨i, rfl⟩ : ∃ i, j = k + i := ⟨j - k, by omega⟩
  rw [iterM_add, h.1]
  exact h'.2 i (by omega)
theorem Goes.widen {lo' hi' : Int} (h : Goes f hs g lo hi k m m') (h1 : lo' ≤ lo) (h2 : hi ≤ hi') : Goes f hs g lo' hi' k m m' := ⟨h.1, fun j hj => by have := h.2 j hj; omega⟩
theorem Goes.one (h : stepM f hs g m = m') (h1 : lo ≤ m.at_ ∧ m.at_ < hi) : Goes f hs g lo hi 1 m m' := by
 refine ⟨h, fun j hj => ?_⟩
 obtain rfl : j = 0 := by omega
 exact h1
end
mutual
def nbS : St → Nat
 | .mk a _ _ n _ th el _ => if a = 3 then 1 + max (nbL th) (nbL el) else if a = 4 then 2 + n.toNat * (1 + nbL th) else 1
def nbL : List St → Nat
 | [] => 0
 | s :: r => nbS s + nbL r
end
theorem nbS_eq (s : St) : nbS s = if s.act = 3 then 1 + max (nbL s.thn) (nbL s.els) else if s.act = 4 then 2 + s.n.toNat * (1 + nbL s.thn) else 1 := by cases s; rw [nbS]; rfl
theorem nb_bds {vs : List Vr} {nh : Nat} (l : List St) : ∀ top, stepsCodeN vs nh l top = 0 → (nbL l : Int) ≤ 2 * (bds l).1 := by
 induction l using Sts.ind with
 | h l ih =>
 intro top h
 have hm := steps_mem l top h
 have key : ∀ r : List St, (∀ x ∈ r, x ∈ l) → (nbL r : Int) ≤ 2 * (bds r).1 := by
  intro r
  induction r with
  | nil => intro _; simp [nbL, bds]
  | cons x r ihr =>
   intro hx
   have h1 := ihr (fun y hy => hx y (List.mem_cons_of_mem _ hy))
   obtain ⟨last, h2⟩ := hm x (hx x (List.mem_cons_self ..))
   obtain ⟨h3, _, _, h4, h5⟩ := step_ok h2
   have h6 := (ih x (hx x (List.mem_cons_self ..))).1 _ h4
   have h7 := (ih x (hx x (List.mem_cons_self ..))).2 _ h5
   have b4 := bds_nonneg x.thn _ h4
   have b5 := bds_nonneg x.els _ h5
   rw [nbL, bds]
   have : (nbS x : Int) ≤ 2 * (stepB x).1 := by
    rw [nbS_eq, stepB_eq]
    by_cases a4 : x.act = 4
    ·
     rw [if_neg (show ¬ x.act = 3 by omega), if_pos a4, if_pos a4]
     obtain ⟨n, hn⟩ := Int.eq_ofNat_of_zero_le (h3.rep a4).1
     rw [hn, Int.toNat_natCast]
     have : ((n * (1 + nbL x.thn) : Nat) : Int) ≤ (n : Int) * (2 * (1 + (bds x.thn).1)) := by
      rw [Int.natCast_mul]
      exact Int.mul_le_mul_of_nonneg_left (by omega) (by omega)
     have e : (n : Int) * (2 * (1 + (bds x.thn).1)) = 2 * ((n : Int) * (1 + (bds x.thn).1)) := by rw [Int.mul_left_comm]
     simp only
     omega
    ·
     rw [if_neg a4, if_neg a4]
     by_cases a3 : x.act = 3
     · rw [if_pos a3]; simp only; omega
     · rw [if_neg a3]; simp only; omega
   simp only
   omega
 exact key l (fun x h => h)
def CtxG (g : List Nd) (n : Nat) (ns : List Nd) : Prop := ∀ (i : Nat) x, ns[i]? = some x → g[n + i]? = some x
def CtxP (P : List St) (a : Nat) (ps : List St) : Prop := ∀ (i : Nat) x, ps[i]? = some x → P[a + i]? = some x
theorem CtxG.left {g : List Nd} {n : Nat} {a b : List Nd} (h : CtxG g n (a ++ b)) : CtxG g n a := fun i x hx => h i x (by rw [List.getElem?_append_left (List.getElem?_eq_some_iff.1 hx).1]; exact hx)
theorem CtxG.right {g : List Nd} {n m : Nat} {a b : List Nd} (h : CtxG g n (a ++ b)) (hm : m = n + a.length) : CtxG g m b := fun i x hx => by
 rw [hm, Nat.add_assoc]; exact h _ x (by rw [List.getElem?_append_right (by omega)]; simpa using hx)
theorem CtxG.head {g : List Nd} {n : Nat} {x : Nd} {b : List Nd} (h : CtxG g n (x :: b)) : g[n]? = some x := h 0 x rfl
theorem CtxG.tail {g : List Nd} {n : Nat} {x : Nd} {b : List Nd} (h : CtxG g n (x :: b)) : CtxG g (n + 1) b := fun i y hy => by
 rw [Nat.add_assoc, Nat.add_comm 1]; exact h (i + 1) y (by simpa using hy)
theorem CtxP.left {P : List St} {n : Nat} {a b : List St} (h : CtxP P n (a ++ b)) : CtxP P n a := fun i x hx => h i x (by rw [List.getElem?_append_left (List.getElem?_eq_some_iff.1 hx).1]; exact hx)
theorem CtxP.right {P : List St} {n m : Nat} {a b : List St} (h : CtxP P n (a ++ b)) (hm : m = n + a.length) : CtxP P m b := fun i x hx => by
 rw [hm, Nat.add_assoc]; exact h _ x (by rw [List.getElem?_append_right (by omega)]; simpa using hx)
theorem CtxP.head {P : List St} {n : Nat} {x : St} {b : List St} (h : CtxP P n (x :: b)) : P[n]? = some x := h 0 x rfl
theorem CtxP.tail {P : List St} {n : Nat} {x : St} {b : List St} (h : CtxP P n (x :: b)) : CtxP P (n + 1) b := fun i y hy => by
 rw [Nat.add_assoc, Nat.add_comm 1]; exact h (i + 1) y (by simpa using hy)
theorem ndAt_eq {g : List Nd} {n : Nat} {x : Nd} (h : g[n]? = some x) : ndAt g n = x := by unfold ndAt; rw [Int.toNat_natCast, h]; rfl
theorem stAt_eq {f : Fl} {a : Nat} {s : St} (h : (preL f.body)[a]? = some s) : stAt f a = s := by unfold stAt; rw [Int.toNat_natCast, h]; rfl
def SameR (a n : Nat) (rd rd' : Int → Int) : Prop := ∀ k : Int, ¬ ((a : Int) ≤ k ∧ k < (a + n : Nat)) → rd' k = rd k
theorem SameR.refl (a n : Nat) (rd : Int → Int) : SameR a n rd rd := fun _ _ => rfl
theorem SameR.trans {a n : Nat} {r1 r2 r3 : Int → Int} (h : SameR a n r1 r2) (h' : SameR a n r2 r3) : SameR a n r1 r3 := fun k hk => (h' k hk).trans (h k hk)
theorem SameR.widen {a n b m : Nat} {r1 r2 : Int → Int} (h : SameR a n r1 r2) (h1 : b ≤ a) (h2 : a + n ≤ b + m) : SameR b m r1 r2 := fun k hk => h k (fun h3 => hk ⟨by omega, by omega⟩)
theorem SameR.upd {a n : Nat} {rd : Int → Int} {k v : Int} (h : (a : Int) ≤ k ∧ k < (a + n : Nat)) : SameR a n rd (updR rd k v) := fun j hj => by
 unfold updR; rw [if_neg (fun e => hj (by rw [e]; exact h))]
section
variable {f : Fl} {hs : List Int} {g : List Nd}
def Sim (f : Fl) (hs : List Int) (g : List Nd) (l : List St) : Prop := ∀ (a n e : Nat), CtxG g n (layL l a n e) → CtxP (preL f.body) a (preL l) → ∀ (σ : Sg) (rd : Int → Int), ∃ k rd', Goes f hs g n (n + widL l : Nat) k ⟨((if l.isEmpty then e else n : Nat) : Int), σ, rd⟩ ⟨(e : Int), exL f hs l σ, rd'⟩ ∧ k ≤ nbL l ∧ SameR a (ssize l) rd rd'
theorem sim_one (s : St) (hp : s.plainB = true) (hn : s.act = 4 → 0 ≤ s.n) (h1 : Sim f hs g s.thn) (h2 : Sim f hs g s.els) : ∀ (a n e : Nat), CtxG g n (s.lay a n e) → CtxP (preL f.body) a s.pre → ∀ (σ : Sg) (rd : Int → Int), ∃ k rd', Goes f hs g n (n + s.wid : Nat) k ⟨(n : Int), σ, rd⟩ ⟨(e : Int), exS f hs s σ, rd'⟩ ∧ k ≤ nbS s ∧ SameR a s.size rd rd' := by
 intro a n e hG hP σ rd
 have hw := s.wid_eq
 have hz := s.size_eq
 have hp' := hp
 rw [s.plainB_eq, Bool.and_eq_true, Bool.and_eq_true] at hp'
 rw [s.lay_eq] at hG
 rw [s.pre_eq] at hP
 have hst : stAt f a = s := stAt_eq hP.head
 rw [nbS_eq, exS_eq]
 by_cases a3 : s.act = 3
 ·
  rw [if_pos a3] at hG
  rw [if_neg (show ¬ s.act = 4 by omega)] at hw
  rw [if_pos a3, if_pos a3]
  have hnd := ndAt_eq hG.head
  have hl1 := layL_len s.thn hp'.1.2 (a + 1) (n + 1) e
  have hpl := preL_len s.thn
  obtain ⟨k1, r1, g1, b1, s1⟩ := h1 (a + 1) (n + 1) e hG.tail.left hP.tail.left { σ with time := σ.time + s.cost } rd
  obtain ⟨k2, r2, g2, b2, s2⟩ := h2 (a + 1 + ssize s.thn) (n + 1 + widL s.thn) e (hG.tail.right (by omega)) (hP.tail.right (by omega)) { σ with time := σ.time + s.cost } rd
  by_cases hv : valT σ.vals s.term ≠ 0
  ·
   rw [if_pos hv]
   refine ⟨1 + k1, r1, (Goes.one (m' := ⟨((if s.thn.isEmpty then e else n + 1 : Nat) : Int), { σ with time := σ.time + s.cost }, rd⟩) ?_ (by dsimp only; omega)).trans (g1.widen (by omega) (by omega)), by omega, s1.widen (by omega) (by omega)⟩
   unfold stepM
   rw [hnd, hst]
   simp [passN, hv, apply_ite (Nat.cast (R := Int))]
  ·
   rw [if_neg hv]
   refine ⟨1 + k2, r2, (Goes.one (m' := ⟨((if s.els.isEmpty then e else n + 1 + widL s.thn : Nat) : Int), { σ with time := σ.time + s.cost }, rd⟩) ?_ (by dsimp only; omega)).trans (g2.widen (by omega) (by omega)), by omega, s2.widen (by omega) (by omega)⟩
   unfold stepM
   rw [hnd, hst]
   simp [passN, hv, apply_ite (Nat.cast (R := Int))]
 ·
  by_cases a4 : s.act = 4
  ·
   rw [if_neg a3, if_pos a4] at hG
   rw [if_pos a4] at hw
   rw [if_neg a3, if_neg a3, if_pos a4, if_pos a4]
   have hnd := ndAt_eq hG.head
   have hnh := ndAt_eq hG.tail.head
   have hG2 : CtxG g (n + 2) (layL s.thn (a + 1) (n + 2) (n + 1)) := hG.tail.tail
   obtain ⟨N, hN⟩ := Int.eq_ofNat_of_zero_le (hn a4)
   have key : ∀ (q : Nat), q ≤ N → ∀ (σ : Sg) (rd : Int → Int), rd a = ((N - q : Nat) : Int) → ∃ k rd', Goes f hs g n (n + s.wid : Nat) k ⟨((n + 1 : Nat) : Int), σ, rd⟩ ⟨(e : Int), loopX (exL f hs s.thn) s.cost s.term q σ, rd'⟩ ∧ k ≤ 1 + q * (1 + nbL s.thn) ∧ SameR a s.size rd rd' := by
    intro q
    induction q with
    | zero =>
     intro _ σ rd hrd
     refine ⟨1, rd, Goes.one ?_ (by dsimp only; omega), by omega, SameR.refl _ _ _⟩
     unfold stepM
     rw [hnh, hst]
     simp [passN, hN, hrd, loopX]
    | succ q ih =>
     intro hq σ rd hrd
     have hne : ¬ (rd a = s.n) := by rw [hrd, hN]; omega
     rw [loopX]
     by_cases hv : valT σ.vals s.term = 0
     ·
      rw [if_pos hv]
      refine ⟨1, updR rd a (rd a + 1), Goes.one ?_ (by dsimp only; omega), by omega, SameR.upd (by omega)⟩
      unfold stepM
      rw [hnh, hst]
      simp [passN, hne, hv]
     ·
      rw [if_neg hv]
      obtain ⟨k1, r1, g1, b1, s1⟩ := h1 (a + 1) (n + 2) (n + 1) hG2 hP.tail.left { σ with time := σ.time + s.cost } (updR rd a (rd a + 1))
      have hr1 : r1 a = ((N - q : Nat) : Int) := by
       rw [s1 a (by omega)]; unfold updR; rw [if_pos rfl, hrd]; omega
      obtain ⟨k2, r2, g2, b2, s2⟩ := ih (by omega) _ r1 hr1
      refine ⟨1 + (k1 + k2), r2, (Goes.one (m' := ⟨((if s.thn.isEmpty then n + 1 else n + 2 : Nat) : Int), { σ with time := σ.time + s.cost }, updR rd a (rd a + 1)⟩) ?_ (by dsimp only; omega)).trans ((g1.widen (by omega) (by omega)).trans g2), ?_, (SameR.upd (by omega)).trans ((s1.widen (by omega) (by omega)).trans s2)⟩
      ·
       unfold stepM
       rw [hnh, hst]
       simp [passN, hne, hv, apply_ite (Nat.cast (R := Int))]
      · rw [Nat.succ_mul]; omega
   rw [hN, Int.toNat_natCast]
   obtain ⟨k, r', hg, hb, hr⟩ := key N (Nat.le_refl _) σ (updR rd a 0) (by unfold updR; rw [if_pos rfl, Nat.sub_self]; rfl)
   refine ⟨1 + k, r', (Goes.one (m' := ⟨((n + 1 : Nat) : Int), σ, updR rd a 0⟩) ?_ (by dsimp only; omega)).trans hg, by omega, (SameR.upd (by omega)).trans hr⟩
   unfold stepM
   rw [hnd, hst]
   simp [passN]
  ·
   rw [if_neg a3, if_neg a4] at hG
   rw [if_neg a4] at hw
   rw [if_neg a3, if_neg a4, if_neg a3, if_neg a4]
   have hnd := ndAt_eq hG.head
   refine ⟨1, rd, Goes.one ?_ (by dsimp only; omega), by omega, SameR.refl _ _ _⟩
   unfold stepM
   rw [hnd, hst]
   simp [passN]
theorem sim_list (l : List St) : plainL l = true → (∀ s ∈ preL l, s.act = 4 → 0 ≤ s.n) → Sim f hs g l := by
 induction l using Sts.ind with
 | h l ih =>
 intro hp hn
 have key : ∀ r : List St, (∀ x ∈ r, x ∈ l) → plainL r = true → (∀ s ∈ preL r, s.act = 4 → 0 ≤ s.n) → Sim f hs g r := by
  intro r
  induction r with
  | nil =>
   intro _ _ _ a n e _ _ σ rd
   exact ⟨0, rd, by rw [exL]; exact Goes.refl _, Nat.zero_le _, SameR.refl _ _ _⟩
  | cons s r ihr =>
   intro hm hpr hnr a n e hG hP σ rd
   have hms := hm s (List.mem_cons_self ..)
   have hw2 : widL (s :: r) = s.wid + widL r := rfl
   rw [plainL, Bool.and_eq_true] at hpr
   have hps := hpr.1
   have hps' := hps
   rw [s.plainB_eq, Bool.and_eq_true, Bool.and_eq_true] at hps'
   rw [layL] at hG
   rw [preL] at hP
   have hnr' : ∀ x ∈ s.pre ++ preL r, x.act = 4 → 0 ≤ x.n := hnr
   rw [s.pre_eq] at hnr'
   have H1 := sim_one (g := g) (f := f) (hs := hs) s hps (fun h => hnr' s (by simp) h) ((ih s hms).1 hps'.1.2 (fun x hx => hnr' x (by simp [hx]))) ((ih s hms).2 hps'.2 (fun x hx => hnr' x (by simp [hx])))
   have hlen : (s.lay a n (if r.isEmpty then e else n + s.wid)).length = s.wid := by
    have h1 := layL_len [s] (by rw [plainL, hps]; rfl) a n (if r.isEmpty then e else n + s.wid)
    simpa [layL, widL] using h1
   have hpl : s.pre.length = s.size := by
    have := preL_len [s]
    simpa [preL, ssize] using this
   obtain ⟨k1, r1, g1, b1, s1⟩ := H1 a n (if r.isEmpty then e else n + s.wid) hG.left hP.left σ rd
   obtain ⟨k2, r2, g2, b2, s2⟩ := ihr (fun y hy => hm y (List.mem_cons_of_mem _ hy)) hpr.2 (fun x hx => hnr x (by rw [preL]; exact List.mem_append_right _ hx)) (a + s.size) (n + s.wid) e (hG.right (by omega)) (hP.right (by omega)) (exS f hs s σ) r1
   refine ⟨k1 + k2, r2, ?_, by rw [nbL]; omega, (s1.widen (Nat.le_refl _) (by rw [ssize]; omega)).trans (s2.widen (by omega) (by rw [ssize]; omega))⟩
   rw [List.isEmpty_cons, if_neg (by decide), exL]
   exact Goes.trans (Goes.widen g1 (by omega) (by omega)) (Goes.widen g2 (by omega) (by omega))
 exact key l (fun x h => h) hp hn
end
open Go.GL
theorem steps_pre {vs : List Vr} {nh : Nat} (l : List St) : ∀ top, stepsCodeN vs nh l top = 0 → ∀ s ∈ preL l, ∃ last, stepCodeN vs nh s last = 0 := by
 induction l using Sts.ind with
 | h l ih =>
 intro top h
 have hm := steps_mem l top h
 have key : ∀ r : List St, (∀ x ∈ r, x ∈ l) → ∀ s ∈ preL r, ∃ last, stepCodeN vs nh s last = 0 := by
  intro r
  induction r with
  | nil => intro _ s hs; simp [preL] at hs
  | cons x r ihr =>
   intro hx s hs
   obtain ⟨last, h2⟩ := hm x (hx x (List.mem_cons_self ..))
   obtain ⟨_, _, _, h4, h5⟩ := step_ok h2
   rw [preL, x.pre_eq, List.mem_append, List.mem_cons, List.mem_append] at hs
   rcases hs with (rfl | hs | hs) | hs
   · exact ⟨last, h2⟩
   · exact (ih x (hx x (List.mem_cons_self ..))).1 _ h4 s hs
   · exact (ih x (hx x (List.mem_cons_self ..))).2 _ h5 s hs
   · exact ihr (fun y hy => hx y (List.mem_cons_of_mem _ hy)) s hs
 exact key l (fun x h => h)
theorem nodes_pre (l : List St) : ∀ s ∈ preL l, s.nodes ≤ snodes l := by
 induction l using Sts.ind with
 | h l ih =>
 have key : ∀ r : List St, (∀ x ∈ r, x ∈ l) → ∀ s ∈ preL r, s.nodes ≤ snodes r := by
  intro r
  induction r with
  | nil => intro _ s hs; simp [preL] at hs
  | cons x r ihr =>
   intro hx s hs
   have h1 := (ih x (hx x (List.mem_cons_self ..))).1
   have h2 := (ih x (hx x (List.mem_cons_self ..))).2
   have h3 := x.nodes_eq
   rw [preL, x.pre_eq, List.mem_append, List.mem_cons, List.mem_append] at hs
   rw [snodes]
   rcases hs with (rfl | hs | hs) | hs
   · omega
   · have := h1 s hs; omega
   · have := h2 s hs; omega
   · have := ihr (fun y hy => hx y (List.mem_cons_of_mem _ hy)) s hs; omega
 exact key l (fun x h => h)
theorem stepOk_of {f : Fl} {s : St} {last : Bool} (h : stepCodeN f.vars f.hatches.length s last = 0) (hn : s.nodes ≤ 100000) : StepOk f s := by
 obtain ⟨h1, h2, h3, _, _⟩ := step_ok h
 have hse := s.nodes_eq
 unfold termCodeN at h2
 split at h2
 ·
  rename_i hf
  split at h2
  ·
   rename_i hr
   refine ⟨hf, hr, by omega, h1.cost, fun ha => ?_, fun ha => ?_⟩
   ·
    unfold shapedB at h3
    rcases ha with ha | ha
    ·
     simp [ha, localB] at h3
     omega
    ·
     simp [ha, localB] at h3
     omega
   ·
    unfold shapedB at h3
    simp [ha, localB] at h3
    omega
  · cases h2
 · cases h2
def SettleOk (s : St) : Prop := s.act = 6 → ∀ b ∈ s.bounds, b ≤ 67108864
theorem rising_le {l : List Int} (h : risingB l = true) : ∀ (d i : Nat) x y, l[i]? = some x → l[i + d]? = some y → x ≤ y := by
 intro d
 induction d with
 | zero => intro i x y hx hy; rw [Nat.add_zero, hx] at hy; cases hy; exact Int.le_refl _
 | succ d ih =>
  intro i x y hx hy
  have hlt := (List.getElem?_eq_some_iff.1 hy).1
  obtain ⟨z, hz⟩ : ∃ z, l[i + d]? = some z := ⟨_, List.getElem?_eq_getElem (by omega)⟩
  have h1 := ih i x z hx hz
  have h2 := (risingB_iff l).1 h (i + d) z y hz hy
  omega
theorem settleOk_of {vs : List Vr} {nh : Nat} {s : St} {last : Bool} (h : stepCodeN vs nh s last = 0) : SettleOk s := by
 intro a6 b hb
 obtain ⟨h1, h2, h3, _, _⟩ := step_ok h
 have h4 : numberB s = true := by
  rw [stepCode_eq] at h
  split at h
  · cases h
  split at h
  · cases h
  · rename_i h5; simpa using h5
 unfold shapedB at h3
 simp [a6, groupsB] at h3
 unfold numberB at h4
 simp [a6] at h4
 have hr := h3.2.2
 obtain ⟨i, hi⟩ := List.mem_iff_getElem?.1 hb
 have hlt := (List.getElem?_eq_some_iff.1 hi).1
 obtain ⟨y, hy⟩ : ∃ y, s.bounds[s.bounds.length - 1]? = some y := ⟨_, List.getElem?_eq_getElem (by omega)⟩
 have h5 := rising_le hr (s.bounds.length - 1 - i) i b y hi (by rw [show i + (s.bounds.length - 1 - i) = s.bounds.length - 1 by omega]; exact hy)
 rw [hy] at h4
 simp at h4
 omega
theorem settle_cases (l : List Int) (t : Int) : settleN l t = t ∨ (settleN l t ∈ l ∧ t ≤ settleN l t) := by
 have key : ∀ (l : List Int) (s : Int × Bool), (l.foldl (settleStep t) s).1 = s.1 ∨ ((l.foldl (settleStep t) s).1 ∈ l ∧ t ≤ (l.foldl (settleStep t) s).1) := by
  intro l
  induction l with
  | nil => intro s; exact .inl rfl
  | cons b r ih =>
   intro s
   rw [List.foldl_cons]
   rcases ih (settleStep t s b) with h | h
   ·
    rw [h]
    unfold settleStep
    split
    · rename_i h1; exact .inr ⟨List.mem_cons_self .., h1.1⟩
    · exact .inl rfl
   · exact .inr ⟨List.mem_cons_of_mem _ h.1, h.2⟩
 exact key l (t, false)
structure Valid (f : Fl) : Prop where
 ok : checkN f = 0
 size : snodes f.body + hnodes f.hatches ≤ 1024
 bulk : sbulk f.body ≤ 1000000
section
variable {f : Fl} (V : Valid f)
include V
theorem Valid.plain : plainL f.body = true := check_plain V.ok
theorem Valid.good : ∀ v ∈ f.vars, Good (v.low, v.high) := vars_good (check_parts V.ok).2.1
theorem Valid.kinds : ∀ v ∈ f.vars, 0 ≤ v.kind ∧ v.kind ≤ 3 := by
 have h := (check_parts V.ok).2.1
 have h1 : ∀ j, j < f.vars.length → varAt f.vars j = 0 := by
  unfold varsCodeN at h
  split at h
  · rename_i h2; exact absurd h h2
  ·
   rename_i h2
   intro j hj
   exact firstBad_inv f.vars.length 0 (by simpa using h2) j (Nat.zero_le _) (by omega)
 exact fun v hv => (varsAll_good h1 v hv).2
theorem Valid.lens : f.vars.length ≤ 64 ∧ f.hatches.length ≤ 8 := by
 have h := (check_parts V.ok).1
 unfold sizesB at h
 simp at h
 omega
theorem Valid.ssize : ssize f.body ≤ 1024 := ssize_le_of V.size
theorem Valid.step : ∀ s ∈ preL f.body, StepOk f s ∧ SettleOk s ∧ (s.act = 4 → 0 ≤ s.n ∧ s.n ≤ 4096) := by
 intro s hs
 obtain ⟨last, h⟩ := steps_pre f.body true (check_parts V.ok).2.2.2.1 s hs
 have hn := nodes_pre f.body s hs
 have := V.size
 exact ⟨stepOk_of h (by omega), settleOk_of h, fun a4 => ⟨((step_ok h).1.rep a4).1, ((step_ok h).1.rep a4).2.1⟩⟩
theorem Valid.nb : nbL f.body ≤ 8192 := by
 have h1 := nb_bds f.body true (check_parts V.ok).2.2.2.1
 have h2 := (check_parts V.ok).2.2.2.2
 unfold overB at h2
 simp at h2
 omega
end
theorem lay_kinds (l : List St) : ∀ a n e, ∀ x ∈ layL l a n e, x.kind = 2 ∨ x.kind = 3 ∨ x.kind = 4 ∨ x.kind = 5 := by
 induction l using Sts.ind with
 | h l ih =>
 have key : ∀ r : List St, (∀ x ∈ r, x ∈ l) → ∀ a n e, ∀ x ∈ layL r a n e, x.kind = 2 ∨ x.kind = 3 ∨ x.kind = 4 ∨ x.kind = 5 := by
  intro r
  induction r with
  | nil => intro _ a n e x hx; simp [layL] at hx
  | cons s r ihr =>
   intro hm a n e x hx
   have h1 := (ih s (hm s (List.mem_cons_self ..))).1
   have h2 := (ih s (hm s (List.mem_cons_self ..))).2
   rw [layL, List.mem_append, s.lay_eq] at hx
   rcases hx with hx | hx
   ·
    split at hx
    ·
     rw [List.mem_cons, List.mem_append] at hx
     rcases hx with rfl | hx | hx
     · exact .inr (.inl rfl)
     · exact h1 _ _ _ x hx
     · exact h2 _ _ _ x hx
    ·
     split at hx
     ·
      rw [List.mem_cons, List.mem_cons] at hx
      rcases hx with rfl | rfl | hx
      · exact .inr (.inr (.inl rfl))
      · exact .inr (.inr (.inr rfl))
      · exact h1 _ _ _ x hx
     ·
      rw [List.mem_singleton] at hx
      subst hx; exact .inl rfl
   · exact ihr (fun y hy => hm y (List.mem_cons_of_mem _ hy)) _ _ _ x hx
 exact key l (fun x h => h)
structure NodeOk' (f : Fl) (x : Nd) : Prop where
 kind : x.kind = 0 ∨ x.kind = 2 ∨ x.kind = 3 ∨ x.kind = 4 ∨ x.kind = 5
 step : x.kind ≠ 0 → 0 ≤ x.at_ ∧ (preL f.body)[x.at_.toNat]? = some (stAt f x.at_) ∧ StepOk f (stAt f x.at_) ∧ SettleOk (stAt f x.at_)
theorem Valid.node {f : Fl} (V : Valid f) {k : Int} (h0 : 0 ≤ k) (h1 : k < (cfgN f).length - 1) : (cfgN f)[k.toNat]? = some (ndAt (cfgN f) k) ∧ NodeOk' f (ndAt (cfgN f) k) := by
 obtain ⟨n, rfl⟩ := Int.eq_ofNat_of_zero_le h0
 have hlen := cfgN_len f V.plain
 have hget : (cfgN f)[n]? = some (ndAt (cfgN f) n) := by
  unfold ndAt; rw [Int.toNat_natCast, List.getElem?_eq_getElem (show n < (cfgN f).length by omega)]; rfl
 refine ⟨hget, ?_⟩
 generalize ndAt (cfgN f) n = x at hget
 unfold cfgN at hget
 cases n with
 | zero => simp at hget; subst hget; exact ⟨.inl rfl, fun h => absurd rfl h⟩
 | succ n =>
  rw [List.getElem?_cons_succ, List.getElem?_append_left (by rw [layL_len _ V.plain]; omega)] at hget
  have hx := List.mem_of_getElem? hget
  have hk := lay_kinds f.body _ _ _ x hx
  have hr := (lay_nums f.body V.plain 0 1 (1 + widL f.body)).range x hx
  refine ⟨.inr hk, fun _ => ⟨by omega, ?_⟩⟩
  obtain ⟨s, hs⟩ : ∃ s, (preL f.body)[x.at_.toNat]? = some s := ⟨_, List.getElem?_eq_getElem (by rw [preL_len]; omega)⟩
  have e : stAt f x.at_ = s := by unfold stAt; rw [hs]; rfl
  have hst := V.step s (List.mem_of_getElem? hs)
  rw [e]
  exact ⟨hs, hst.1, hst.2.1⟩
structure MInv (f : Fl) (j : Nat) (m : Mc) : Prop where
 inv : InV f.vars m.σ.vals
 time : 0 ≤ m.σ.time ∧ m.σ.time ≤ (j : Int) * 67108864
 outs : m.σ.outs.length ≤ j
 rd : ∀ k, 0 ≤ m.rd k ∧ m.rd k ≤ j
theorem exec1_inv {f : Fl} {hs : List Int} {s : St} {σ : Sg} {j : Nat} (hg : ∀ v ∈ f.vars, Good (v.low, v.high)) (ho : StepOk f s) (hset : SettleOk s) (hV : InV f.vars σ.vals) (ht : 0 ≤ σ.time ∧ σ.time ≤ (j : Int) * 67108864) (hol : σ.outs.length ≤ j) :
  InV f.vars (exec1 f hs s σ).vals ∧ (0 ≤ (exec1 f hs s σ).time ∧ (exec1 f hs s σ).time ≤ ((j + 1 : Nat) : Int) * 67108864) ∧ (exec1 f hs s σ).outs.length ≤ j + 1 := by
 have hc := ho.cost
 unfold exec1
 split
 · exact ⟨hV.set hg _ _, by dsimp only; omega, by dsimp only; omega⟩
 split
 · exact ⟨hV, by dsimp only; omega, by simp; omega⟩
 split
 · exact ⟨hV.set hg _ _, by dsimp only; omega, by dsimp only; omega⟩
 split
 ·
  rename_i a6
  refine ⟨hV, ?_, by dsimp only; omega⟩
  dsimp only
  rcases settle_cases s.bounds (σ.time + s.cost) with h | h
  · rw [h]; omega
  ·
   have := hset a6 _ h.1
   omega
 · exact ⟨hV, by dsimp only; omega, by dsimp only; omega⟩
theorem stepM_inv {f : Fl} {hs : List Int} {g : List Nd} {j : Nat} {m : Mc} (hg : ∀ v ∈ f.vars, Good (v.low, v.high)) (hn : NodeOk' f (ndAt g m.at_)) (h : MInv f j m) : MInv f (j + 1) (stepM f hs g m) := by
 obtain ⟨h1, h2, h3, h4⟩ := h
 have hup : ∀ k n, 0 ≤ n ∧ n ≤ (j : Int) + 1 → ∀ i, 0 ≤ updR m.rd k n i ∧ updR m.rd k n i ≤ ((j + 1 : Nat) : Int) := fun k n hn i => by
  have := h4 i
  unfold updR; split <;> omega
 have hrd : ∀ k, 0 ≤ m.rd k ∧ m.rd k ≤ ((j + 1 : Nat) : Int) := fun k => by have := h4 k; omega
 unfold stepM passN
 generalize hx : ndAt g m.at_ = x at hn ⊢
 split
 · exact ⟨h1, by dsimp only; omega, by dsimp only; omega, hrd⟩
 rename_i k0
 obtain ⟨_, _, ho, hset⟩ := hn.step k0
 have hc := ho.cost
 split
 ·
  obtain ⟨e1, e2, e3⟩ := exec1_inv (hs := hs) hg ho hset h1 h2 h3
  exact ⟨e1, e2, e3, hrd⟩
 split
 · exact ⟨h1, by dsimp only; omega, by dsimp only; omega, hup _ _ (by omega)⟩
 split
 · exact ⟨h1, by dsimp only; omega, by dsimp only; omega, hrd⟩
 ·
  refine ⟨h1, by dsimp only; omega, by dsimp only; omega, ?_⟩
  dsimp only
  split
  · exact hup _ _ (by have := h4 x.at_; omega)
  · exact hrd
theorem Valid.walk {f : Fl} (V : Valid f) (hs : List Int) (σ : Sg) : ∃ (K : Nat) (rd' : Int → Int), K ≤ 8193 ∧ Goes f hs (cfgN f) 0 ((cfgN f).length - 1) K ⟨0, σ, fun _ => 0⟩ ⟨((cfgN f).length : Int) - 1, exL f hs f.body σ, rd'⟩ := by
 have hlen := cfgN_len f V.plain
 have hG : CtxG (cfgN f) 1 (layL f.body 0 1 (1 + widL f.body)) := by
  intro i x hx
  have hi := (List.getElem?_eq_some_iff.1 hx).1
  unfold cfgN
  rw [show 1 + i = i + 1 by omega, List.getElem?_cons_succ, List.getElem?_append_left hi]; exact hx
 obtain ⟨k, rd', hgo, hk, _⟩ := sim_list (hs := hs) (g := cfgN f) f.body V.plain (fun s hs' a4 => ((V.step s hs').2.2 a4).1) 0 1 (1 + widL f.body) hG (fun i x hx => by rw [Nat.zero_add]; exact hx) σ (fun _ => 0)
 have := V.nb
 refine ⟨1 + k, rd', by omega, (Goes.one (m' := ⟨((if f.body.isEmpty then 1 + widL f.body else 1 : Nat) : Int), σ, fun _ => 0⟩) ?_ (by dsimp only; omega)).trans ?_⟩
 ·
  have h2 : ((if f.body.isEmpty then 1 + widL f.body else 1 : Nat) : Int) = 1 := by
   split
   ·
    rename_i h
    have : f.body = [] := by simpa using h
    rw [this]; rfl
   · rfl
  rw [h2]
  unfold stepM
  have : ndAt (cfgN f) 0 = ⟨0, -1, 1, -1⟩ := rfl
  rw [this]
  simp [passN]
 ·
  have e : ((1 + widL f.body : Nat) : Int) = ((cfgN f).length : Int) - 1 := by omega
  rw [← e]
  exact hgo.widen (by omega) (by omega)
open Go.GL
def asgB (f : Fl) (x : Nd) : Bool := decide (x.kind = 2) && (decide ((stAt f x.at_).act = 0) || decide ((stAt f x.at_).act = 5))
def varD (f : Fl) (d : Int) : Int := if ((preL f.body).length : Int) ≤ d then d - (preL f.body).length else (stAt f d).var
def GenD (f : Fl) (x : Nd) (d : Int) : Prop := (x.kind = 0 ∧ ((preL f.body).length : Int) ≤ d ∧ d < (preL f.body).length + f.vars.length) ∨ (x.kind ≠ 0 ∧ asgB f x = true ∧ d = x.at_)
def ThruD (f : Fl) (x : Nd) (d : Int) : Prop := x.kind ≠ 0 ∧ (asgB f x = true → varD f d ≠ (stAt f x.at_).var)
inductive Rch (f : Fl) (g : List Nd) : Int → Int → Prop
 | gen {i : Nat} {x : Nd} {to d : Int} : g[i]? = some x → (to = x.next ∨ to = x.other) → 0 ≤ to → GenD f x d → Rch f g to d
 | thru {i : Nat} {x : Nd} {to d : Int} : g[i]? = some x → (to = x.next ∨ to = x.other) → 0 ≤ to → Rch f g i d → ThruD f x d → Rch f g to d
theorem Rch.step {f : Fl} {g : List Nd} {i : Nat} {x : Nd} {to d : Int} (hx : g[i]? = some x) (ht : to = x.next ∨ to = x.other) (h0 : 0 ≤ to) (h : GenD f x d ∨ (Rch f g i d ∧ ThruD f x d)) : Rch f g to d :=
 h.elim (Rch.gen hx ht h0) (fun h => Rch.thru hx ht h0 h.1 h.2)
abbrev Sets := List (List (Int × Value))
def HasK (Ls : Sets) (i d : Int) : Prop := ∃ l, Ls[i.toNat]? = some l ∧ d ∈ l.map (·.1)
def totL (Ls : Sets) : Nat := (Ls.map List.length).sum
def KeysOk (M : Nat) (Ls : Sets) : Prop := ∀ l ∈ Ls, (l.map (·.1)).Nodup ∧ ∀ p ∈ l, p.2 = .bool true ∧ 0 ≤ p.1 ∧ p.1 < M
def SoundK (f : Fl) (g : List Nd) (Ls : Sets) : Prop := ∀ (i : Nat) l, Ls[i]? = some l → ∀ d ∈ l.map (·.1), Rch f g i d
def ClosedAt (f : Fl) (g : List Nd) (Ls : Sets) (i : Nat) : Prop := ∀ x, g[i]? = some x → ∀ to, (to = x.next ∨ to = x.other) → 0 ≤ to → ∀ d, GenD f x d ∨ (HasK Ls i d ∧ ThruD f x d) → HasK Ls to d
theorem closed_all {f : Fl} {g : List Nd} {Ls : Sets} (h : ∀ i, i < g.length → ClosedAt f g Ls i) {to d : Int} (hr : Rch f g to d) : HasK Ls to d := by
 induction hr with
 | gen hx ht h0 hg => exact h _ (List.getElem?_eq_some_iff.1 hx).1 _ hx _ ht h0 _ (.inl hg)
 | thru hx ht h0 _ hk ih => exact h _ (List.getElem?_eq_some_iff.1 hx).1 _ hx _ ht h0 _ (.inr ⟨ih, hk⟩)
theorem totL_set : ∀ {Ls : Sets} {i : Nat} {l l' : List (Int × Value)}, Ls[i]? = some l → totL (Ls.set i l') + l.length = totL Ls + l'.length
 | [], i, l, l', h => by simp at h
 | x :: r, 0, l, l', h => by simp at h; subst h; simp [totL]; omega
 | x :: r, i + 1, l, l', h => by
  have := totL_set (Ls := r) (i := i) (l' := l') (by simpa using h)
  simp only [totL, List.set_cons_succ, List.map_cons, List.sum_cons] at this ⊢
  omega
theorem nodup_bound {l : List (Int × Value)} {M : Nat} (hn : (l.map (·.1)).Nodup) (h : ∀ p ∈ l, 0 ≤ p.1 ∧ p.1 < M) : l.length ≤ M := by
 have := nodup_len (l := l.map (·.1)) (l' := (List.range M).map Int.ofNat) hn (fun x hx => by
  obtain ⟨p, hp, rfl⟩ := List.mem_map.1 hx
  have := h p hp
  exact List.mem_map.2 ⟨p.1.toNat, List.mem_range.2 (by omega), by simp; omega⟩)
 simpa using this
theorem totL_le {M : Nat} : ∀ {Ls : Sets}, KeysOk M Ls → totL Ls ≤ Ls.length * M
 | [], _ => by simp [totL]
 | x :: r, h => by
  have h1 := totL_le (Ls := r) (fun l hl => h l (List.mem_cons_of_mem _ hl))
  have h2 := h x (List.mem_cons_self ..)
  have h3 := nodup_bound h2.1 (fun p hp => (h2.2 p hp).2)
  simp only [totL, List.map_cons, List.sum_cons, List.length_cons] at h1 ⊢
  rw [Nat.succ_mul]
  omega
theorem keys_mem_set {l : List (Int × Value)} {k d : Int} {v : Value} : d ∈ (setM l k v).map (·.1) ↔ d = k ∨ d ∈ l.map (·.1) := by
 rw [keys_setM]
 cases h : lkm l k with
 | none => simp only [List.mem_append, List.mem_singleton]; exact or_comm
 | some p =>
  simp only
  refine ⟨.inr, fun h1 => h1.elim (fun h2 => ?_) id⟩
  rw [h2]
  exact List.mem_map.2 ⟨_, List.mem_of_getElem? (lkm_some h), rfl⟩
theorem val_set {l : List (Int × Value)} {k : Int} {v : Value} {p : Int × Value} (h : p ∈ setM l k v) : p = (k, v) ∨ p ∈ l := by
 unfold setM at h
 split at h
 · exact (List.mem_or_eq_of_mem_set h).symm
 · exact (List.mem_append.1 h).elim .inr (fun h => .inl (by simpa using h))
theorem getM_true {M : Nat} {Ls : Sets} (hK : KeysOk M Ls) {l : List (Int × Value)} (hl : l ∈ Ls) (d : Int) : (getM l d).getD (.bool false) = .bool (decide (d ∈ l.map (·.1))) := by
 cases h : getM l d with
 | none =>
  rw [getM_none_iff] at h
  rw [decide_eq_false]; rfl
  intro h1
  obtain ⟨p, hp, e⟩ := List.mem_map.1 h1
  exact h p hp e
 | some v =>
  have h1 := getM_mem h
  have h2 := ((hK l hl).2 _ h1).1
  dsimp only at h2
  subst h2
  rw [decide_eq_true (List.mem_map.2 ⟨_, h1, rfl⟩)]; rfl
theorem addK {f : Fl} {g : List Nd} {M : Nat} {Ls : Sets} {to : Nat} {l : List (Int × Value)} {d : Int} (hl : Ls[to]? = some l) (hd : d ∉ l.map (·.1)) (hK : KeysOk M Ls) (hS : SoundK f g Ls) (h0 : 0 ≤ d ∧ d < M) (hr : Rch f g to d) :
  KeysOk M (Ls.set to (setM l d (.bool true))) ∧ SoundK f g (Ls.set to (setM l d (.bool true))) ∧ totL (Ls.set to (setM l d (.bool true))) = totL Ls + 1 := by
 have hlt := (List.getElem?_eq_some_iff.1 hl).1
 have hm := hK l (List.mem_of_getElem? hl)
 refine ⟨fun q hq => ?_, fun i q hq e he => ?_, ?_⟩
 ·
  rcases List.mem_or_eq_of_mem_set hq with h | h
  · exact hK q h
  ·
   subst h
   refine ⟨nodup_setM hm.1 _ _, fun p hp => ?_⟩
   rcases val_set hp with h | h
   · subst h; exact ⟨rfl, h0⟩
   · exact hm.2 p h
 ·
  by_cases e1 : to = i
  ·
   subst e1
   rw [List.getElem?_set_self hlt] at hq
   cases hq
   rcases keys_mem_set.1 he with h | h
   · subst h; exact hr
   · exact hS to l hl e h
  ·
   rw [List.getElem?_set_ne e1] at hq
   exact hS i q hq e he
 ·
  have h1 := totL_set (l' := setM l d (.bool true)) hl
  have h2 : (setM l d (.bool true)).length = l.length + 1 := by
   have h3 := congrArg List.length (keys_setM l d (.bool true))
   have h4 : lkm l d = none := by
    cases h5 : lkm l d with
    | none => rfl
    | some p => exact absurd (List.mem_map.2 ⟨_, List.mem_of_getElem? (lkm_some h5), rfl⟩) hd
   rw [h4] at h3
   simpa using h3
  omega
structure RmS (w : World) (B gb : Nat) (ms : List Nat) (Ls : Sets) : Prop where
 len : Ls.length = ms.length
 box : Blk w B [.slice (some ⟨gb, 0, none⟩) ms.length ms.length] 134
 row : Blk w gb (ms.map fun m => .map (some m)) 135
 nd : ms.Nodup
 map : ∀ (i : Nat) m l, ms[i]? = some m → Ls[i]? = some l → MapI w m l
theorem RmS.keep {w w' : World} {B gb : Nat} {ms : List Nat} {Ls : Sets} {S : Nat → Prop} (h : RmS w B gb ms Ls) (hk : Keep S w w') (h1 : ¬ S B) (h2 : ¬ S gb) (h3 : ∀ m ∈ ms, ¬ S m) : RmS w' B gb ms Ls :=
 ⟨h.len, hk.blk h.box h1, hk.blk h.row h2, h.nd, fun i m l hm hl => (h.map i m l hm hl).keep hk (h3 m (List.mem_of_getElem? hm))⟩
theorem RmS.ext {w w' : World} {B gb : Nat} {ms : List Nat} {Ls : Sets} (h : RmS w B gb ms Ls) (hk : Ext w w') : RmS w' B gb ms Ls := h.keep hk (fun h => h) (fun h => h) (fun _ _ h => h)
theorem RmS.at {w : World} {B gb : Nat} {ms : List Nat} {Ls : Sets} (h : RmS w B gb ms Ls) {i : Nat} (hi : i < ms.length) : ∃ m l, ms[i]? = some m ∧ Ls[i]? = some l ∧ MapI w m l :=
 ⟨_, _, List.getElem?_eq_getElem hi, List.getElem?_eq_getElem (by rw [h.len]; exact hi), h.map i _ _ (List.getElem?_eq_getElem hi) (List.getElem?_eq_getElem (by rw [h.len]; exact hi))⟩
theorem RmS.isMap {w : World} {B gb : Nat} {ms : List Nat} {Ls : Sets} (h : RmS w B gb ms Ls) {m : Nat} (hm : m ∈ ms) : ∃ l, MapI w m l := by
 obtain ⟨i, hi⟩ := List.mem_iff_getElem?.1 hm
 have hlt := (List.getElem?_eq_some_iff.1 hi).1
 obtain ⟨m', l, h1, _, h2⟩ := h.at hlt
 rw [hi] at h1; cases h1
 exact ⟨l, h2⟩
theorem RmS.cell {w : World} {B gb : Nat} {ms : List Nat} {Ls : Sets} (h : RmS w B gb ms Ls) {k : Int} {m : Nat} (hm : ms[k.toNat]? = some m) : w.cell? ⟨gb, 0 + k.toNat * 1, none⟩ = some (.map (some m)) := by
 have := h.row.cells k.toNat (.map (some m)) (by rw [List.getElem?_map, hm]; rfl)
 rw [Nat.mul_one]; exact this
structure RcE (D Dg : Nat → Prop) (f : Fl) (g : List Nd) (w : World) (bf bg bs bv : Nat) (v1 v2 v3 gv sv : Value) : Prop where
 fbox : Blk w bf [v1, v2, v3] 26
 gbox : Blk w bg [gv] 31
 sbox : Blk w bs [sv] 24
 vbox : Blk w bv [.func (.func 81) #[] #[.pointer (some ⟨bs, 0, none⟩)]] 136
 fl : RFl D w f v1 v2 v3
 gs : SlR 4 RNd Dg w gv g
 st : OwnR 86 10 RSt D w sv (preL f.body)
theorem RcE.keep {D Dg : Nat → Prop} {f : Fl} {g : List Nd} {w w' : World} {bf bg bs bv : Nat} {v1 v2 v3 gv sv : Value} {S : Nat → Prop} (h : RcE D Dg f g w bf bg bs bv v1 v2 v3 gv sv) (hk : Keep S w w') (hD : ∀ q, D q → ¬ S q) (hg : ∀ q, Dg q → ¬ S q) (hS : ∀ q, S q → ∃ l, MapI w q l) : RcE D Dg f g w' bf bg bs bv v1 v2 v3 gv sv := by
 have hb : ∀ {b : Nat} {cs : List Value} {e : TypeId}, Blk w b cs e → ¬ S b := fun hB hs => by obtain ⟨l, hM⟩ := hS _ hs; exact hM.ne hB rfl
 exact ⟨hk.blk h.fbox (hb h.fbox), hk.blk h.gbox (hb h.gbox), hk.blk h.sbox (hb h.sbox), hk.blk h.vbox (hb h.vbox), rflKeepD h.fl hk hD, h.gs.keep stable_nd hk (fun q hq _ => hg q hq), h.st.keep stable_st hk (fun q hq _ => hD q hq) (fun gg hgg => by obtain ⟨cs, hB⟩ := h.st.ty hgg; exact hb hB)⟩
theorem RcE.ext {D Dg : Nat → Prop} {f : Fl} {g : List Nd} {w w' : World} {bf bg bs bv : Nat} {v1 v2 v3 gv sv : Value} (h : RcE D Dg f g w bf bg bs bv v1 v2 v3 gv sv) (hk : Ext w w') : RcE D Dg f g w' bf bg bs bv v1 v2 v3 gv sv := h.keep hk (fun _ _ h => h) (fun _ _ h => h) (fun _ h => h.elim)
theorem RcE.sl {D Dg : Nat → Prop} {f : Fl} {g : List Nd} {w : World} {bf bg bs bv : Nat} {v1 v2 v3 gv sv : Value} (h : RcE D Dg f g w bf bg bs bv v1 v2 v3 gv sv) : SlR 10 RSt (fun _ => True) w sv (preL f.body) := h.st.sl (by decide) stable_st (fun _ _ => trivial) (fun _ _ => trivial)
theorem ran_seen {w : World} {it m : Nat} {l : List (Int × Value)} {seen : List Int} {cur : Option (Int × Value)} (h : RanI w it m l seen cur) {k : Int} (hk : k ∈ seen) : k ∈ l.map (·.1) := by
 obtain ⟨es, c, since, sb, c0, h1, h2, h3, h4, h5, h6, h7, h8, h9, h10, h11, _⟩ := h
 obtain ⟨v, hv⟩ := h11 k hk
 exact List.mem_map.2 ⟨(k, v), getM_mem hv, rfl⟩
theorem varD_ok (f : Fl) (d : Int) (c : Nat) (sv : Value) (D : Nat → Prop) (w : World) (hB : Blk w c [sv] 24) (hs : SlR 10 RSt D w sv (preL f.body)) (h0 : 0 ≤ d) (h1 : d ≤ 100000) (hm : (preL f.body).length ≤ 100000) :
  Calls Tryz.prog 81 #[.int .i64 d, .pointer (some ⟨c, 0, none⟩)] w (Ret fun r w' => r = .int .i64 (varD f d) ∧ Ext w w') := by
 obtain ⟨sa, sc, rfl⟩ := hs.form
 have hE := Keep.refl (fun _ => False) w
 refine calls Tryz.func81 rfl [(0, .int .i64 d), (1, .pointer (some ⟨c, 0, none⟩))] 17 ⟨Nat.le_of_ble_eq_true rfl, Tryz.ntmps81⟩ (argsOk (Sub.of rfl)) ?_
 refine WC.sr (WO.a rfl rfl (WO.nil (WX.next (WC.seq (WC.seq (WC.region ?_))))))
 refine WO.mv rfl rfl (WO.o rfl (R.load Tryz.isAgg24 rfl (hB.cells 0 _ rfl)) (WO.o rfl (R.lenS rfl Tryz.runUnderlying24 rfl) (WO.o rfl (R.geq rfl rfl) (WO.nil (WX.next ?_)))))
 refine WC.ite rfl (fun h2 => ?_) (fun h2 => ?_)
 ·
  refine WC.sr (WO.mv rfl rfl (WO.o rfl (R.load Tryz.isAgg24 rfl (hB.cells 0 _ rfl)) (WO.o rfl (R.lenS rfl Tryz.runUnderlying24 rfl) (WO.o rfl (R.sub rfl rfl (wrap_i64_in (by omega))) (WO.a rfl rfl (WO.nil (WX.next (WC.ret (WX.thenR ?_)))))))))
  refine WX.ret1 Tryz.results81 rfl ⟨_, rfl, by rw [varD, if_pos (by omega)], Keep.refl _ _⟩
 ·
  obtain ⟨s, hs1⟩ : ∃ s, (preL f.body)[d.toNat]? = some s := ⟨_, List.getElem?_eq_getElem (by omega)⟩
  obtain ⟨b, o, cc, ha, _, hcl, hr⟩ := hs.at hs1
  obtain ⟨u1, u2, u3, u4, rfl, _⟩ := hr.get
  have hst : stAt f d = s := by unfold stAt; rw [hs1]; rfl
  refine WC.ks (WO.o rfl (R.load Tryz.isAgg24 rfl (hB.cells 0 _ rfl)) (WO.mv rfl rfl (WO.o rfl (R.indexS Tryz.runUnderlying24 Tryz.sizeOf86 rfl rfl ha (by omega)) (WO.o rfl (R.fieldAddr Tryz.runUnderlying86 rfl Tryz.sizeOf3 rfl) (WO.o rfl (R.load Tryz.isAgg3 rfl (hcl 2 _ rfl)) (WO.a rfl rfl (WO.nil (WX.next (WC.ret ?_)))))))))
  refine WX.ret1 Tryz.results81 rfl ⟨_, rfl, by rw [varD, if_neg (by omega), hst], Keep.refl _ _⟩
theorem after_ok (f : Fl) (g : List Nd) (D Dg : Nat → Prop) (w : World) (bf bg bs bv B gb : Nat) (v1 v2 v3 gv sv : Value) (ms : List Nat) (Ls : Sets) (i : Nat) (x : Nd) (l0 : List (Int × Value)) (hC : RcE D Dg f g w bf bg bs bv v1 v2 v3 gv sv) (hR : RmS w B gb ms Ls)
  (hx : g[i]? = some x) (hl0 : Ls[i]? = some l0) (hk : ∀ p ∈ l0, 0 ≤ p.1 ∧ p.1 < 3000) (hlen : l0.length ≤ 3000) (hm : (preL f.body).length ≤ 1100) (hv : f.vars.length ≤ 100) (hat : x.kind = 2 → 0 ≤ x.at_ ∧ x.at_ < (preL f.body).length) :
  Calls Tryz.prog 82 #[.int .i64 i, .pointer (some ⟨bg, 0, none⟩), .pointer (some ⟨bf, 0, none⟩), .pointer (some ⟨bs, 0, none⟩), .pointer (some ⟨B, 0, none⟩), .pointer (some ⟨bv, 0, none⟩)] w
   (Ret fun r w' => (∃ l : List Int, w'.ownsRow 0 3 1 r l.length (l.map encI1) ∧ (∀ q, r.ownBlock = some q → w.heap.size ≤ q) ∧ (∀ d, d ∈ l ↔ GenD f x d ∨ (d ∈ l0.map (·.1) ∧ ThruD f x d)) ∧ l.length ≤ 4000) ∧ Ext w w') := by
 have hE := Keep.refl (fun _ => False) w
 have hC0 := hC
 obtain ⟨ag, cg, rfl⟩ := hC.gs.form
 obtain ⟨av, cv, rfl⟩ := hC.fl.vars.form
 obtain ⟨sa, sc, hsv, _, _⟩ := hC.st.form
 subst hsv
 have hsl := hC.sl
 have hgs := hC.gs
 obtain ⟨xb, xo, xc, hxa, _, hxc, rfl⟩ := hC.gs.at hx
 have hil : i < ms.length := by rw [← hR.len]; exact (List.getElem?_eq_some_iff.1 hl0).1
 obtain ⟨m, hmi⟩ : ∃ m, ms[i]? = some m := ⟨_, List.getElem?_eq_getElem hil⟩
 have hM := hR.map i m l0 hmi hl0
 have hml := hM.lt
 have hig := (List.getElem?_eq_some_iff.1 hx).1
 have hgmx := hgs.max
 have hx1 : ∀ u ∈ [Value.int .i64 x.kind, .int .i64 x.at_, .int .i64 x.next, .int .i64 x.other], u.oneCell' = true := by simp [Value.oneCell']
 refine calls Tryz.func82 rfl [(0, .int .i64 i), (1, .pointer (some ⟨bg, 0, none⟩)), (2, .pointer (some ⟨bf, 0, none⟩)), (3, .pointer (some ⟨bs, 0, none⟩)), (4, .pointer (some ⟨B, 0, none⟩)), (5, .pointer (some ⟨bv, 0, none⟩))] 91 ⟨Nat.le_of_ble_eq_true rfl, Tryz.ntmps82⟩ (argsOk (Sub.of rfl)) ?_
 refine WC.sr (WO.a rfl rfl (WO.nr (WO.o rfl (R.fieldAddr Tryz.runUnderlying31 rfl Tryz.sizeOf29 rfl) (WO.o rfl (R.load Tryz.isAgg29 rfl (hC.gbox.cells 0 _ rfl)) (WO.mv rfl rfl (WO.o rfl (R.indexS Tryz.runUnderlying29 Tryz.sizeOf40 rfl rfl hxa (by omega)) (WO.o rfl (R.loadK Tryz.isAgg40 Tryz.sizeOf40 rfl (by rfl) hxc) (WO.mem rfl rfl rfl (M.alloc (cs := _) Tryz.zeroValue40 rfl) ?_))))))))
 rintro _ wa1 ⟨b, rfl, hg_b, hs_b, hB_b, hk_b⟩
 refine WO.mem0 rfl rfl (M.storeK Tryz.sizeOf40 rfl rfl rfl rfl hx1 hB_b (by simp)) ?_
 rintro w_b ⟨_, hB_b, hkk_b⟩
 replace hk_b := hk_b.trans hkk_b (fun q hq h => by have h : q = b := h; omega)
 have hge_b : _ ≤ b := Nat.le_trans hE.size (Nat.le_of_eq hg_b.symm)
 replace hE := hE.ext hk_b
 replace hC := RcE.ext hC hk_b
 replace hR := RmS.ext hR hk_b
 replace hsl := hsl.ext stable_st hk_b
 refine WO.nr (WO.a rfl rfl (WO.nil (WX.next (WC.seq (WC.seq (WC.region ?_))))))
 refine WO.o rfl (R.fieldAddr Tryz.runUnderlying40 rfl Tryz.sizeOf38 rfl) (WO.o rfl (R.load Tryz.isAgg38 rfl (hB_b.cells 0 _ rfl)) (WO.o rfl (R.eql rfl rfl) (WO.nil (WX.next ?_))))
 refine WC.ite rfl (fun k0 => ?_) (fun k0 => ?_)
 ·
  refine WC.seq (WC.seq (WC.region (WO.o rfl (R.fieldAddr Tryz.runUnderlying26 rfl Tryz.sizeOf22 rfl) (WO.o rfl (R.load Tryz.isAgg22 rfl (hC.fbox.cells 0 _ rfl)) (WO.o rfl (R.lenS rfl Tryz.runUnderlying22 rfl) (WO.mv rfl rfl (WO.nil (WX.next (WC.block ?_)))))))))
  refine WC.loop (σ := Nat × Value) (fun ⟨j, vo⟩ => [(3, .pointer (some ⟨bs, 0, none⟩)), (9, vo), (23, .int .i64 f.vars.length), (24, .int .i64 j)]) (fun ⟨j, vo⟩ => fun w' => j ≤ f.vars.length ∧ w'.ownsRow 0 3 1 vo j (((List.range j).map fun k : Nat => ((preL f.body).length : Int) + k).map encI1) ∧ (∀ q, vo.ownBlock = some q → w.heap.size ≤ q) ∧ Ext w w') (fun ⟨j, vo⟩ => f.vars.length - j) ((0, .slice none 0 0)) (Sub.of rfl) (⟨Nat.zero_le _, own_nil _ _ _, fun q h => by simp [Value.ownBlock] at h, hE⟩) ?_
  rintro ⟨j, vo⟩ w1 ⟨hj, ho, hfo, hE1⟩
  show WC _ _ _ _ [(3, .pointer (some ⟨bs, 0, none⟩)), (9, vo), (23, .int .i64 f.vars.length), (24, .int .i64 j)] _
  refine WC.sr (WO.o rfl (R.lss rfl rfl) (WO.nil (WX.next (WC.seq ?_))))
  refine WC.ite rfl (fun j1 => ?_) (fun j1 => ?_)
  ·
   refine WC.skip (WX.next (WC.seq (WC.block (WC.seq (WC.region (WO.mv rfl rfl (WO.a rfl rfl (WO.nil (WX.next (WC.region ?_))))))))))
   refine WO.mv rfl rfl (WO.o rfl (R.load Tryz.isAgg24 rfl ((hC0.ext hE1).sbox.cells 0 _ rfl)) (WO.o rfl (R.lenS rfl Tryz.runUnderlying24 rfl) (WO.mv rfl rfl (WO.o rfl (R.add rfl rfl (wrap_i64_in (by omega))) (WO.mem rfl rfl rfl (M.buildSlice (cs := [.int .i64 (((preL f.body).length : Int) + j)]) [(0, _)] Tryz.runUnderlying50 Tryz.sizeOf3 Tryz.zeroValue3 (by decide) rfl (by kernel_rfl)) ?_)))))
   rintro _ w2 ⟨g2, rfl, hg2, hs2, hB2, hk2⟩
   have ho2 := own_keep ho hk2 (fun _ _ h => h)
   refine WO.mem rfl rfl rfl (M.append Tryz.underlying50 Tryz.el3 rfl (by decide) rfl rfl ho2 rfl (Cells.add hB2.cells) (by simp [Value.oneCell']) (by omega) (by omega)) ?_
   rintro vo' w3 ⟨ho3, hf3, hk3, _⟩
   refine WO.a rfl rfl (WO.nil (WX.blockN (WX.next (WC.region ?_))))
   refine WO.o rfl (R.add rfl rfl (wrap_i64_in (by omega))) (WO.mv rfl rfl (WO.nil (WX.back ((j + 1, vo')) (Sub.of rfl) (⟨by omega, by rw [List.range_succ, List.map_append, List.map_append]; exact ho3, fun q hq => ?_, Keep.trans (hE1.ext hk2) hk3 (fun q hq h => by have := hfo q h; omega)⟩) (by first | omega | (dsimp only; omega)))))
   rcases hf3 with h | ⟨g', h, h'⟩
   · exact hfo q (by rw [← h]; exact hq)
   · rw [h] at hq; cases hq; have := (hE1.ext hk2).size; omega
  ·
   obtain rfl : j = f.vars.length := by omega
   refine WC.exit (WX.thenE (WX.thenE (WX.hit (WX.next (WC.seq (WC.region (WO.mv rfl rfl (WO.a rfl rfl (WO.nil (WX.next (WC.ret (WX.thenR ?_))))))))))))
   refine WX.ret1 Tryz.results82 rfl ⟨_, rfl, ⟨_, by rw [List.length_map, List.length_range]; exact ho, hfo, fun d => ?_, by rw [List.length_map, List.length_range]; omega⟩, hE1⟩
   constructor
   ·
    intro h
    obtain ⟨k, hk', rfl⟩ := List.mem_map.1 h
    rw [List.mem_range] at hk'
    exact .inl (.inl ⟨k0, by omega, by omega⟩)
   ·
    rintro (h | h)
    ·
     rcases h with h | h
     · exact List.mem_map.2 ⟨(d - (preL f.body).length).toNat, List.mem_range.2 (by omega), by omega⟩
     · exact absurd k0 h.1
    · exact absurd k0 h.2.1
 ·
  refine WC.skip (WX.next (WC.seq (WC.cut (σ := Bool) (fun q => [(0, .int .i64 i), (1, .pointer (some ⟨bg, 0, none⟩)), (2, .pointer (some ⟨bf, 0, none⟩)), (3, .pointer (some ⟨bs, 0, none⟩)), (4, .pointer (some ⟨B, 0, none⟩)), (5, .pointer (some ⟨bv, 0, none⟩)), (8, .pointer (some ⟨b, 0, none⟩)), (9, .slice none 0 0), (11, .bool q)]) (fun q => fun w' => q = asgB f x ∧ w' = w_b) ?_ ?_)))
  ·
   refine WC.region (WO.o rfl (R.fieldAddr Tryz.runUnderlying40 rfl Tryz.sizeOf38 rfl) (WO.o rfl (R.load Tryz.isAgg38 rfl (hB_b.cells 0 _ rfl)) (WO.o rfl (R.eql rfl rfl) (WO.mv rfl rfl (WO.splitP (d := 39) rfl (fun k2 => ?_) (fun k2 => ?_))))))
   ·
    obtain ⟨s, hs1⟩ : ∃ s, (preL f.body)[x.at_.toNat]? = some s := ⟨_, List.getElem?_eq_getElem (by have := hat k2; omega)⟩
    obtain ⟨sb, so, sx, hsa, _, hcl, hr⟩ := hsl.at hs1
    obtain ⟨u1, u2, u3, u4, rfl, _⟩ := hr.get
    have hst : stAt f x.at_ = s := by unfold stAt; rw [hs1]; rfl
    have hatx := hat k2
    refine WO.yes rfl rfl (dT k2) (WO.o rfl (R.load Tryz.isAgg24 rfl (hC.sbox.cells 0 _ rfl)) (WO.yes rfl rfl (dT k2) (WO.o rfl (R.fieldAddr Tryz.runUnderlying40 rfl Tryz.sizeOf3 rfl) (WO.yes rfl rfl (dT k2) (WO.o rfl (R.load Tryz.isAgg3 rfl (hB_b.cells 1 _ rfl)) (WO.yes rfl rfl (dT k2) (WO.o rfl (R.indexS Tryz.runUnderlying24 Tryz.sizeOf86 rfl rfl hsa (by omega)) (WO.yes rfl rfl (dT k2) (WO.o rfl (R.fieldAddr Tryz.runUnderlying86 rfl Tryz.sizeOf80 rfl) (WO.yes rfl rfl (dT k2) (WO.o rfl (R.load Tryz.isAgg80 rfl (hcl 0 _ rfl)) (WO.yes rfl rfl (dT k2) (WO.o rfl (R.eql rfl rfl) (WO.yes rfl rfl (dT k2) ?_))))))))))))))
    refine WO.mv rfl rfl (WO.splitP (d := 47) rfl (fun a0 => ?_) (fun a0 => ?_))
    · refine WO.no rfl rfl (dT a0) rfl (WO.no rfl rfl (dT a0) rfl (WO.no rfl rfl (dT a0) rfl (WO.no rfl rfl (dT a0) rfl (WO.no rfl rfl (dT a0) rfl (WO.no rfl rfl (dT a0) rfl (WO.no rfl rfl (dT a0) rfl (WO.yes rfl rfl (dT k2) (WO.o rfl (R.pickT rfl (dT a0) rfl) (WO.o rfl (R.pickT rfl (dT k2) rfl) (WO.a rfl rfl (WO.nil (WX.meet (true) (Sub.of rfl) (⟨by simp [asgB, k2, hst, a0], rfl⟩)))))))))))))
    ·
     refine WO.yes rfl rfl (dF a0) (WO.o rfl (R.load Tryz.isAgg24 rfl (hC.sbox.cells 0 _ rfl)) (WO.yes rfl rfl (dF a0) (WO.o rfl (R.fieldAddr Tryz.runUnderlying40 rfl Tryz.sizeOf3 rfl) (WO.yes rfl rfl (dF a0) (WO.o rfl (R.load Tryz.isAgg3 rfl (hB_b.cells 1 _ rfl)) (WO.yes rfl rfl (dF a0) (WO.o rfl (R.indexS Tryz.runUnderlying24 Tryz.sizeOf86 rfl rfl hsa (by omega)) (WO.yes rfl rfl (dF a0) (WO.o rfl (R.fieldAddr Tryz.runUnderlying86 rfl Tryz.sizeOf80 rfl) (WO.yes rfl rfl (dF a0) (WO.o rfl (R.load Tryz.isAgg80 rfl (hcl 0 _ rfl)) (WO.yes rfl rfl (dF a0) (WO.o rfl (R.eql rfl rfl) (WO.yes rfl rfl (dT k2) ?_))))))))))))))
     refine WO.o rfl (R.pickF rfl (dF a0) rfl) (WO.o rfl (R.pickT rfl (dT k2) rfl) (WO.a rfl rfl (WO.nil (WX.meet (_) (Sub.of rfl) (⟨by simp [asgB, k2, hst, a0], rfl⟩)))))
   · refine WO.no rfl rfl (dF k2) rfl (WO.no rfl rfl (dF k2) rfl (WO.no rfl rfl (dF k2) rfl (WO.no rfl rfl (dF k2) rfl (WO.no rfl rfl (dF k2) rfl (WO.no rfl rfl (dF k2) rfl (WO.no rfl rfl (dF k2) rfl (WO.no rfl rfl (dF k2) rfl (WO.noU rfl rfl rfl (WO.noU rfl rfl rfl (WO.noU rfl rfl rfl (WO.noU rfl rfl rfl (WO.noU rfl rfl rfl (WO.noU rfl rfl rfl (WO.noU rfl rfl rfl (WO.no rfl rfl (dF k2) rfl (WO.o rfl (R.pickF rfl (dF k2) rfl) (WO.a rfl rfl (WO.nil (WX.meet (false) (Sub.of rfl) (⟨by simp [asgB, k2], rfl⟩))))))))))))))))))))
  ·
   rintro q w1 ⟨hq, hw1⟩
   show WX _ _ _ [(0, .int .i64 i), (1, .pointer (some ⟨bg, 0, none⟩)), (2, .pointer (some ⟨bf, 0, none⟩)), (3, .pointer (some ⟨bs, 0, none⟩)), (4, .pointer (some ⟨B, 0, none⟩)), (5, .pointer (some ⟨bv, 0, none⟩)), (8, .pointer (some ⟨b, 0, none⟩)), (9, .slice none 0 0), (11, .bool q)] _
   subst hw1
   subst hq
   refine WX.next (WC.seq (WC.seq (WC.region (WO.o rfl (R.load Tryz.isAgg134 rfl (hR.box.cells 0 _ rfl)) (WO.mv rfl rfl (WO.o rfl (R.indexS Tryz.runUnderlying134 Tryz.sizeOf135 rfl rfl rfl (by omega)) (WO.o rfl (R.load Tryz.isAgg135 rfl (hR.cell (k := (i : Int)) hmi)) (WO.mem rfl rfl rfl (M.range (hM.ext hE) Tryz.underlying135 rfl) ?_))))))))
   rintro _ x1 ⟨it, rfl, hit, hRan, xk1, xs1⟩
   have xE1 := hE.ext xk1
   refine WO.nil (WX.next (WC.block (WC.loop (σ := List Int × Option (Int × Value) × List Int × Value) (fun ⟨seen, cur, l, vo⟩ => [(1, .pointer (some ⟨bg, 0, none⟩)), (3, .pointer (some ⟨bs, 0, none⟩)), (5, .pointer (some ⟨bv, 0, none⟩)), (8, .pointer (some ⟨b, 0, none⟩)), (9, vo), (11, .bool (asgB f x)), (61, .pointer (some ⟨it, 0, none⟩))]) (fun ⟨seen, cur, l, vo⟩ => fun w' => RanI w' it m l0 seen cur ∧ w'.ownsRow 0 3 1 vo l.length (l.map encI1) ∧ (∀ q, vo.ownBlock = some q → w.heap.size ≤ q ∧ q ≠ b) ∧ (∀ d, d ∈ l ↔ d ∈ seen ∧ ThruD f x d) ∧ l.length ≤ seen.length ∧ Ext w w' ∧ Blk w' b [.int .i64 x.kind, .int .i64 x.at_, .int .i64 x.next, .int .i64 x.other] 40) (fun ⟨seen, cur, l, vo⟩ => l0.length - seen.length) (([], none, [], .slice none 0 0)) (Sub.of rfl) (⟨hRan, own_nil _ _ _, fun q h => by simp [Value.ownBlock] at h, by simp, Nat.le_refl _, xE1, xk1.blk hB_b (fun h => h)⟩) ?_)))
   rintro ⟨seen, cur, l, vo⟩ y0 ⟨hRn, ho, hfo, hmem, hll, hE0, hBb⟩
   show WC _ _ _ _ [(1, .pointer (some ⟨bg, 0, none⟩)), (3, .pointer (some ⟨bs, 0, none⟩)), (5, .pointer (some ⟨bv, 0, none⟩)), (8, .pointer (some ⟨b, 0, none⟩)), (9, vo), (11, .bool (asgB f x)), (61, .pointer (some ⟨it, 0, none⟩))] _
   have hsl0 := hRn.len
   refine WC.sr (WO.mem rfl rfl rfl (M.next hRn rfl) ?_)
   rintro u y1 (⟨rfl, rfl, hall⟩ | ⟨k, v, rfl, hgk, hns, hR1, yk1, ys1⟩)
   ·
    refine WO.o rfl (R.extract rfl rfl) (WO.nil (WX.next (WC.seq ?_)))
    refine WC.ff rfl (rfl) (WC.exit (WX.thenE (WX.thenE (WX.hit (WX.next (WC.seq (WC.seq (WC.region ?_))))))))
    refine WO.mv rfl rfl (WO.nil (WX.next ?_))
    have hseen : ∀ d, d ∈ seen ↔ d ∈ l0.map (·.1) := fun d => ⟨fun h => ran_seen hRn h, fun h => by obtain ⟨p, hp, rfl⟩ := List.mem_map.1 h; exact hall p hp⟩
    refine WC.bool rfl (fun q1 => ?_) (fun q1 => ?_)
    ·
     refine WC.region (WO.mv rfl rfl (WO.o rfl (R.fieldAddr Tryz.runUnderlying40 rfl Tryz.sizeOf3 rfl) (WO.o rfl (R.load Tryz.isAgg3 rfl (hBb.cells 1 _ rfl)) (WO.mem rfl rfl rfl (M.buildSlice (cs := [.int .i64 x.at_]) [(0, _)] Tryz.runUnderlying50 Tryz.sizeOf3 Tryz.zeroValue3 (by decide) rfl (by kernel_rfl)) ?_))))
     rintro _ z1 ⟨g2, rfl, hg2, hs2, hB2, hk2⟩
     have ho2 := own_keep ho hk2 (fun _ _ h => h)
     refine WO.mem rfl rfl rfl (M.append Tryz.underlying50 Tryz.el3 rfl (by decide) rfl rfl ho2 rfl (Cells.add hB2.cells) (by simp [Value.oneCell']) (by omega) (by omega)) ?_
     rintro vo' z2 ⟨ho3, hf3, hk3, _⟩
     refine WO.a rfl rfl (WO.nr (WO.mv rfl rfl (WO.a rfl rfl (WO.nil (WX.next (WC.ret ?_))))))
     refine WX.ret1 Tryz.results82 rfl ⟨_, rfl, ⟨l ++ [x.at_], by rw [List.length_append, List.map_append]; exact ho3, fun q hq => ?_, fun d => ?_, by rw [List.length_append, List.length_singleton]; omega⟩, Keep.trans (hE0.ext hk2) hk3 (fun q hq h => by have := (hfo q h).1; omega)⟩
     ·
      rcases hf3 with h | ⟨g', h, h'⟩
      · exact (hfo q (by rw [← h]; exact hq)).1
      · rw [h] at hq; cases hq; have := (hE0.ext hk2).size; omega
     ·
      rw [List.mem_append, List.mem_singleton, hmem, hseen]
      constructor
      ·
       rintro (h | h)
       · exact .inr h
       · exact .inl (.inr ⟨k0, q1, h⟩)
      ·
       rintro ((h | h) | h)
       · exact absurd h.1 k0
       · exact .inr h.2.2
       · exact .inl h
    ·
     refine WC.ks (WO.mv rfl rfl (WO.a rfl rfl (WO.nil (WX.next (WC.ret ?_)))))
     refine WX.ret1 Tryz.results82 rfl ⟨_, rfl, ⟨l, ho, fun q hq => (hfo q hq).1, fun d => ?_, by omega⟩, hE0⟩
     rw [hmem, hseen]
     refine ⟨.inr, ?_⟩
     rintro ((h | h) | h)
     · exact absurd h.1 k0
     · rw [q1] at h; exact absurd h.2.1 (by decide)
     · exact h
   ·
    have hk0x := hk _ (getM_mem hgk)
    dsimp only at hk0x
    have hit0 : w.heap.size ≤ it := by have := hE.size; omega
    have hE1 : Ext w y1 := Keep.trans hE0 yk1 (fun q hq (h : q = it) => by omega)
    have hC1 := hC0.ext hE1
    have hsl1 := hC1.sl
    have ho1 := own_keep ho yk1 (fun q hq (h : q = it) => by obtain ⟨cs', hb'⟩ := own_blkty ho hq; exact hRn.neB hb' h)
    have hBb1 := yk1.blk hBb (fun h => hRn.neB hBb h)
    have hR1l := hR1.len
    rw [List.length_append, List.length_singleton] at hR1l
    refine WO.o rfl (R.extract rfl rfl) (WO.nil (WX.next (WC.seq ?_)))
    refine WC.tt rfl (rfl) (WC.skip (WX.next (WC.block (WC.seq (WC.region ?_)))))
    refine WO.o rfl (R.entry hR1 rfl) (WO.o rfl (R.extract rfl rfl) (WO.a rfl rfl (WO.nil (WX.next (WC.seq ?_)))))
    refine WC.cut (σ := Bool) (fun q => [(1, .pointer (some ⟨bg, 0, none⟩)), (3, .pointer (some ⟨bs, 0, none⟩)), (5, .pointer (some ⟨bv, 0, none⟩)), (8, .pointer (some ⟨b, 0, none⟩)), (9, vo), (11, .bool (asgB f x)), (12, .int .i64 k), (61, .pointer (some ⟨it, 0, none⟩)), (79, .bool q)]) (fun q => fun w' => (q = true ↔ ThruD f x k) ∧ Ext y1 w') ?_ ?_
    ·
     refine WC.draw (fun q => Ext y1 q) [] (by kernel_rfl) (fun wd2 hD _ => (WD.takeW 0 rfl (by kernel_rfl) rfl rfl rfl (fun w1 => R.move rfl) (WD.takeW 1 rfl (by kernel_rfl) rfl rfl rfl (fun w1 => R.notU rfl (by first | exact not_decide_eq | rfl)) (WD.takeW 2 rfl (by kernel_rfl) rfl rfl rfl (fun w1 => R.move rfl) (WD.splitB (d := 68) rfl (fun q1 => ?_) (fun q1 => ?_))))))
     ·
      refine WD.takeG (v := undef) 3 rfl (by kernel_rfl) rfl rfl hD (.inr ⟨fun a ha => wanted_no ha rfl rfl rfl q1, rfl⟩) (WD.takeG (v := undef) 4 rfl (by kernel_rfl) rfl rfl hD (.inr ⟨fun a ha => wanted_no ha rfl rfl rfl q1, rfl⟩) (WD.takeG (v := undef) 6 rfl (by kernel_rfl) rfl rfl hD (.inr ⟨fun a ha => wanted_no ha rfl rfl rfl q1, rfl⟩) (WD.takeG (v := undef) 7 rfl (by kernel_rfl) rfl rfl hD (.inr ⟨fun a ha => wanted_no ha rfl rfl rfl q1, rfl⟩) (WD.takeG (v := undef) 8 rfl (by kernel_rfl) rfl rfl hD (.inr ⟨fun a ha => wanted_no ha rfl rfl rfl q1, rfl⟩) (WD.takeG (v := undef) 9 rfl (by kernel_rfl) rfl rfl hD (.inr ⟨fun a ha => wanted_no ha rfl rfl rfl q1, rfl⟩) ?_)))))
      refine WD.takeG (v := undef) 10 rfl (by kernel_rfl) rfl rfl hD (.inr ⟨fun a ha => wanted_no ha rfl rfl rfl q1, rfl⟩) (WD.takeG (v := undef) 11 rfl (by kernel_rfl) rfl rfl hD (.inr ⟨fun a ha => wanted_no ha rfl rfl rfl q1, rfl⟩) (WD.skip 5 rfl (by kernel_rfl) (fun a ha => wanted_no ha rfl rfl rfl q1) rfl rfl hD (WD.takeG (v := undef) 12 rfl (by kernel_rfl) rfl rfl hD (.inr ⟨fun a ha => wanted_no ha rfl rfl rfl q1, rfl⟩) (WD.takeW 13 rfl (by kernel_rfl) rfl rfl rfl (fun w1 => R.pickT rfl q1 rfl) (WD.done (by kernel_rfl) ?_ _)))))
      replace hC1 := RcE.ext hC1 hD
      replace hsl1 := hsl1.ext stable_st hD
      replace hBb1 := hD.blk hBb1 (fun h => h)
      refine WX.meet (true) (Sub.of rfl) (⟨by simp only [Bool.not_eq_true'] at q1; exact ⟨fun _ => ⟨k0, fun h => by rw [q1] at h; cases h⟩, fun _ => rfl⟩, hD⟩)
     ·
      have q2 : asgB f x = true := by simpa using q1
      have q3 : x.kind = 2 := by unfold asgB at q2; simp at q2; exact q2.1
      obtain ⟨s, hs1⟩ : ∃ s, (preL f.body)[x.at_.toNat]? = some s := ⟨_, List.getElem?_eq_getElem (by have := hat q3; omega)⟩
      obtain ⟨sb, so, sx, hsa, _, hcl, hr⟩ := hsl1.at hs1
      obtain ⟨u1, u2, u3, u4, rfl, _⟩ := hr.get
      have hst : stAt f x.at_ = s := by unfold stAt; rw [hs1]; rfl
      have hatx := hat q3
      refine WD.takeG 3 rfl (by kernel_rfl) rfl rfl hD (.inl ⟨fun a ha => wanted_yes ha rfl rfl rfl q1, fun w1 hw1 => R.load Tryz.isAgg136 rfl ((hC1.ext hw1).vbox.cells 0 _ rfl)⟩) (WD.takeG 4 rfl (by kernel_rfl) rfl rfl hD (.inl ⟨fun a ha => wanted_yes ha rfl rfl rfl q1, fun w1 hw1 => R.move rfl⟩) (WD.takeG 6 rfl (by kernel_rfl) rfl rfl hD (.inl ⟨fun a ha => wanted_yes ha rfl rfl rfl q1, fun w1 hw1 => R.load Tryz.isAgg24 rfl ((hC1.ext hw1).sbox.cells 0 _ rfl)⟩) (WD.takeG 7 rfl (by kernel_rfl) rfl rfl hD (.inl ⟨fun a ha => wanted_yes ha rfl rfl rfl q1, fun w1 hw1 => R.fieldAddr Tryz.runUnderlying40 rfl Tryz.sizeOf3 rfl⟩) ?_)))
      refine WD.takeG 8 rfl (by kernel_rfl) rfl rfl hD (.inl ⟨fun a ha => wanted_yes ha rfl rfl rfl q1, fun w1 hw1 => R.load Tryz.isAgg3 rfl ((hw1.blk hBb1 (fun h => h)).cells 1 _ rfl)⟩) (WD.takeG 9 rfl (by kernel_rfl) rfl rfl hD (.inl ⟨fun a ha => wanted_yes ha rfl rfl rfl q1, fun w1 hw1 => R.indexS Tryz.runUnderlying24 Tryz.sizeOf86 rfl rfl hsa (by omega)⟩) (WD.takeG 10 rfl (by kernel_rfl) rfl rfl hD (.inl ⟨fun a ha => wanted_yes ha rfl rfl rfl q1, fun w1 hw1 => R.fieldAddr Tryz.runUnderlying86 rfl Tryz.sizeOf3 rfl⟩) (WD.takeG 11 rfl (by kernel_rfl) rfl rfl hD (.inl ⟨fun a ha => wanted_yes ha rfl rfl rfl q1, fun w1 hw1 => R.load Tryz.isAgg3 rfl (hw1.cells hcl (fun h => h) 2 _ rfl)⟩) ?_)))
      refine WD.callG 5 rfl (by kernel_rfl) (fun a ha => wanted_yes ha rfl rfl rfl q1) rfl rfl (F.callV (vs := [_]) Tryz.call81 rfl rfl) (varD_ok f k bs _ _ _ (hC1.ext hD).sbox (hsl1.ext stable_st hD) hk0x.1 (by omega) (by omega)) ?_
      rintro _ wz3 ⟨rfl, hz3⟩
      replace hD := hD.ext hz3
      refine ⟨fun _ => hD, ?_⟩
      refine WD.takeG 12 rfl (by kernel_rfl) rfl rfl hD (.inl ⟨fun a ha => wanted_yes ha rfl rfl rfl q1, fun w1 hw1 => R.neq rfl rfl⟩) (WD.takeW 13 rfl (by kernel_rfl) rfl rfl rfl (fun w1 => R.pickF rfl q1 rfl) (WD.done (by kernel_rfl) ?_ _))
      replace hC1 := RcE.ext hC1 hD
      replace hsl1 := hsl1.ext stable_st hD
      replace hBb1 := hD.blk hBb1 (fun h => h)
      replace hcl := hD.cells hcl (fun h => h)
      refine WX.meet (_) (Sub.of rfl) (⟨by rw [decide_eq_true_eq]; exact ⟨fun h => ⟨k0, fun _ => by rw [hst]; exact h⟩, fun h => by have := h.2 q2; rw [hst] at this; exact this⟩, hD⟩)
    ·
     rintro q y2 ⟨hq, yk2⟩
     show WX _ _ _ [(1, .pointer (some ⟨bg, 0, none⟩)), (3, .pointer (some ⟨bs, 0, none⟩)), (5, .pointer (some ⟨bv, 0, none⟩)), (8, .pointer (some ⟨b, 0, none⟩)), (9, vo), (11, .bool (asgB f x)), (12, .int .i64 k), (61, .pointer (some ⟨it, 0, none⟩)), (79, .bool q)] _
     have hR2 := hR1.keep yk2 (fun h => h) (fun h => h)
     have ho2 := own_keep ho1 yk2 (fun _ _ h => h)
     have hBb2 := yk2.blk hBb1 (fun h => h)
     have hE2 := hE1.ext yk2
     have hmem2 : ∀ d, d ∈ seen ++ [k] ∧ ThruD f x d ↔ d ∈ l ∨ (d = k ∧ q = true) := fun d => by
      rw [hmem, List.mem_append, List.mem_singleton]
      constructor
      ·
       rintro ⟨h | h, h'⟩
       · exact .inl ⟨h, h'⟩
       · exact .inr ⟨h, by rw [h] at h'; exact hq.2 h'⟩
      ·
       rintro (h | h)
       · exact ⟨.inl h.1, h.2⟩
       · exact ⟨.inr h.1, by rw [h.1]; exact hq.1 h.2⟩
     refine WX.next (WC.bool rfl (fun q1 => ?_) (fun q1 => ?_))
     ·
      refine WC.region (WO.mv rfl rfl (WO.mv rfl rfl (WO.mem rfl rfl rfl (M.buildSlice (cs := [.int .i64 k]) [(0, _)] Tryz.runUnderlying50 Tryz.sizeOf3 Tryz.zeroValue3 (by decide) rfl (by kernel_rfl)) ?_)))
      rintro _ z1 ⟨g2, rfl, hg2, hs2, hB2, hk2⟩
      have ho3 := own_keep ho2 hk2 (fun _ _ h => h)
      refine WO.mem rfl rfl rfl (M.append Tryz.underlying50 Tryz.el3 rfl (by decide) rfl rfl ho3 rfl (Cells.add hB2.cells) (by simp [Value.oneCell']) (by omega) (by omega)) ?_
      rintro vo' z2 ⟨ho4, hf4, hk4, _⟩
      refine WO.a rfl rfl (WO.nil (WX.blockN ?_))
      refine WX.back ((seen ++ [k], some (k, v), l ++ [k], vo')) (Sub.of rfl) (⟨(hR2.keep hk2 (fun h => h) (fun h => h)).keep hk4 (fun h => ?_) (fun h => ?_), by rw [List.length_append, List.map_append]; exact ho4, fun q hq => ?_, fun d => ?_, by rw [List.length_append, List.length_append]; simp only [List.length_singleton]; omega, Keep.trans (hE2.ext hk2) hk4 (fun q hq h => by have := (hfo q h).1; omega), hk4.blk (hk2.blk hBb2 (fun h => h)) (fun h => (hfo _ h).2 rfl)⟩) (by dsimp only; rw [List.length_append, List.length_singleton]; omega)
      · have := (hfo m h).1; omega
      · obtain ⟨cs', hb'⟩ := own_blkty ho h; exact hRn.neB hb' rfl
      ·
       rcases hf4 with h | ⟨g', h, h'⟩
       · exact hfo q (by rw [← h]; exact hq)
       ·
        rw [h] at hq; cases hq
        have := (hE2.ext hk2).size
        have := (hk2.blk hBb2 (fun h => h)).lt
        exact ⟨by omega, by omega⟩
      ·
       rw [hmem2, List.mem_append, List.mem_singleton]
       simp only [q1, and_true]
     ·
      refine WC.skip (WX.blockN (WX.back ((seen ++ [k], some (k, v), l, vo)) (Sub.of rfl) (⟨hR2, ho2, hfo, fun d => ?_, by rw [List.length_append, List.length_singleton]; omega, hE2, hBb2⟩) (by dsimp only; rw [List.length_append, List.length_singleton]; omega)))
      rw [hmem2]
      simp only [q1, Bool.false_eq_true, and_false, or_false]
end Go.Proofs.YtldhllpogdikdaaGreat
namespace Go.Proofs
open Go.Shelf
def Tryz.lays189_ren : Go.Shelf.Ren := ⟨fun | 189 => 83 | 125 => 92 | 257 => 130 | 128 => 143 | 129 => 144 | 294 => 169 | 295 => 170 | 296 => 171 | 297 => 172 | 298 => 173 | 299 => 174 | 216 => 175 | 300 => 176 | 301 => 177 | 328 => 210 | 329 => 187 | 330 => 188 | 331 => 211 | 332 => 212 | 215 => 192 | 343 => 225 | n => n, fun | 28 => 50 | 3 => 3 | 46 => 147 | 0 => 0 | 51 => 202 | 53 => 204 | 4 => 4 | 183 => 196 | 182 => 195 | 131 => 126 | 5 => 5 | 9 => 9 | 218 => 231 | 222 => 235 | 228 => 257 | 229 => 216 | n => n, fun | n => n⟩
theorem Tryz.lays189 : Go.Proofs.Lays.n189 Tryz.prog Tryz.lays189_ren := {
  mixed := by kernel_rfl
  f125 := Tryz.func92.trans (congrArg some (by kernel_rfl))
  f128 := Tryz.func143.trans (congrArg some (by kernel_rfl))
  f129 := Tryz.func144.trans (congrArg some (by kernel_rfl))
  f189 := Tryz.func83.trans (congrArg some (by kernel_rfl))
  f215 := Tryz.func192.trans (congrArg some (by kernel_rfl))
  f216 := Tryz.func175.trans (congrArg some (by kernel_rfl))
  f257 := Tryz.func130.trans (congrArg some (by kernel_rfl))
  f294 := Tryz.func169.trans (congrArg some (by kernel_rfl))
  f295 := Tryz.func170.trans (congrArg some (by kernel_rfl))
  f296 := Tryz.func171.trans (congrArg some (by kernel_rfl))
  f297 := Tryz.func172.trans (congrArg some (by kernel_rfl))
  f298 := Tryz.func173.trans (congrArg some (by kernel_rfl))
  f299 := Tryz.func174.trans (congrArg some (by kernel_rfl))
  f300 := Tryz.func176.trans (congrArg some (by kernel_rfl))
  f301 := Tryz.func177.trans (congrArg some (by kernel_rfl))
  f328 := Tryz.func210.trans (congrArg some (by kernel_rfl))
  f329 := Tryz.func187.trans (congrArg some (by kernel_rfl))
  f330 := Tryz.func188.trans (congrArg some (by kernel_rfl))
  f331 := Tryz.func211.trans (congrArg some (by kernel_rfl))
  f332 := Tryz.func212.trans (congrArg some (by kernel_rfl))
  f343 := Tryz.func225.trans (congrArg some (by kernel_rfl))
  t0 := Tryz.underlying0
  a0 := Tryz.isAgg0
  z0 := Tryz.sizeOf0
  v0 := Tryz.zeroValue0
  t3 := Tryz.underlying3
  a3 := Tryz.isAgg3
  z3 := Tryz.sizeOf3
  v3 := Tryz.zeroValue3
  t4 := Tryz.underlying4
  a4 := Tryz.isAgg4
  z4 := Tryz.sizeOf4
  v4 := Tryz.zeroValue4
  t5 := Tryz.underlying5
  a5 := Tryz.isAgg5
  z5 := Tryz.sizeOf5
  v5 := Tryz.zeroValue5
  t9 := Tryz.underlying9
  a9 := Tryz.isAgg9
  z9 := Tryz.sizeOf9
  v9 := Tryz.zeroValue9
  t28 := Tryz.underlying50
  a28 := Tryz.isAgg50
  z28 := Tryz.sizeOf50
  v28 := Tryz.zeroValue50
  t46 := Tryz.underlying147
  a46 := Tryz.isAgg147
  z46 := Tryz.sizeOf147
  v46 := Tryz.zeroValue147
  t51 := Tryz.underlying202
  a51 := Tryz.isAgg202
  z51 := Tryz.sizeOf202
  v51 := Tryz.zeroValue202
  t53 := Tryz.underlying204
  a53 := Tryz.isAgg204
  z53 := Tryz.sizeOf204
  v53 := Tryz.zeroValue204
  t131 := Tryz.underlying126
  a131 := Tryz.isAgg126
  z131 := Tryz.sizeOf126
  v131 := Tryz.zeroValue126
  t182 := Tryz.underlying195
  a182 := Tryz.isAgg195
  z182 := Tryz.sizeOf195
  v182 := Tryz.zeroValue195
  t183 := Tryz.underlying196
  a183 := Tryz.isAgg196
  z183 := Tryz.sizeOf196
  v183 := Tryz.zeroValue196
  t218 := Tryz.underlying231
  a218 := Tryz.isAgg231
  z218 := Tryz.sizeOf231
  v218 := Tryz.zeroValue231
  t222 := Tryz.underlying235
  a222 := Tryz.isAgg235
  z222 := Tryz.sizeOf235
  v222 := Tryz.zeroValue235
  t228 := Tryz.underlying257
  a228 := Tryz.isAgg257
  z228 := Tryz.sizeOf257
  v228 := Tryz.zeroValue257
  t229 := Tryz.underlying216
  a229 := Tryz.isAgg216
  z229 := Tryz.sizeOf216
  v229 := Tryz.zeroValue216 }
open Go.Sort Go.RowKit in
theorem Tryz.slices_Sort_int (blk off cap : Nat) (zs : List Int) (w : World) (hH : Holds (Value.int .i64) w blk off zs.toArray) (hblk : blk < w.heap.size) (hsz : zs.length < 4611686018427387904) :
    Calls Tryz.prog 83 #[.slice (some ⟨blk, off, none⟩) zs.length cap] w fun e w' =>
      e = .returned (.tuple #[]) ∧ ∃ n os, w' = grow (putRow (Value.int .i64) (Sort.ahead w n) blk off (zs.mergeSort fun x y => decide (x ≤ y)).toArray) os := Any.slices_Sort_int Tryz.lays189 blk off cap zs w hH hblk hsz
open Go.RowKit Go.Sort in
theorem Tryz.slices_Sort_int_none (p : Option Addr) (cap : Nat) (w : World) :
    Calls Tryz.prog 83 #[.slice p 0 cap] w fun e w' => e = .returned (.tuple #[]) ∧ w' = w := Any.slices_Sort_int_none Tryz.lays189 p cap w
end Go.Proofs
namespace Go.Proofs.YtldhllpogdikdaaGreat
open Go.GL
theorem sorted_world1 {w : World} {b : Nat} {l : List Int} {sp : List Value} {e : TypeId} (hb : Blk w b (l.map (.int .i64) ++ sp) e) (d : List Int) (hs : d.length = l.length) (m : Nat) (os : Array Obj) :
  Blk (Go.Sort.grow (Go.Sort.putRow (Value.int .i64) (Go.Sort.ahead w m) b 0 d.toArray) os) b (d.map (.int .i64) ++ sp) e ∧ Keep (fun q => q = b) w (Go.Sort.grow (Go.Sort.putRow (Value.int .i64) (Go.Sort.ahead w m) b 0 d.toArray) os) := by
 have hblk := hb.lt
 have hsz : (Go.Sort.putRow (Value.int .i64) (Go.Sort.ahead w m) b 0 d.toArray).heap.size = w.heap.size := by simp [Go.Sort.ahead]
 have hat : ∀ i, i < w.heap.size → (Go.Sort.grow (Go.Sort.putRow (Value.int .i64) (Go.Sort.ahead w m) b 0 d.toArray) os).heap[i]? = (Go.Sort.putRow (Value.int .i64) (Go.Sort.ahead w m) b 0 d.toArray).heap[i]? := by
  intro i hi
  show ((Go.Sort.putRow (Value.int .i64) (Go.Sort.ahead w m) b 0 d.toArray).heap ++ os)[i]? = _
  rw [Array.getElem?_append_left (by rw [hsz]; exact hi)]
 refine ⟨?_, rfl, rfl, rfl, Nat.le_add_right _ _, ?_, ?_⟩
 ·
  unfold Blk at *
  rw [hat b hblk]
  show (w.heap.modify b _)[b]? = _
  rw [Array.getElem?_modify, if_pos rfl, hb]
  simp only [Option.map_some, Go.Sort.onCells]
  congr 2
  apply Array.ext_getElem?
  intro j
  simp only [Go.Sort.putCells, Array.getElem?_mapIdx, List.getElem?_toArray]
  by_cases hj : j < d.length
  ·
   rw [List.getElem?_append_left (by simpa [← hs] using hj), List.getElem?_append_left (by simpa using hj)]
   rw [List.getElem?_eq_getElem (by simpa [← hs] using hj)]
   simp [hj]
  ·
   rw [List.getElem?_append_right (by simp; omega), List.getElem?_append_right (by simp; omega)]
   have hj' : ¬ j < l.length := by omega
   simp [hs, hj']
 ·
  show w.heap.size ≤ ((Go.Sort.putRow (Value.int .i64) (Go.Sort.ahead w m) b 0 d.toArray).heap ++ os).size
  rw [Array.size_append, hsz]; omega
 ·
  intro i hi hne
  rw [hat i hi]
  show (w.heap.modify b _)[i]? = _
  rw [Array.getElem?_modify, if_neg (fun h => hne h.symm)]
def sortL (l : List Int) : List Int := l.mergeSort fun x y => decide (x ≤ y)
theorem sortL_mem (l : List Int) (x : Int) : x ∈ sortL l ↔ x ∈ l := List.mem_mergeSort
theorem sortL_len (l : List Int) : (sortL l).length = l.length := List.length_mergeSort _
theorem sortL_sorted (l : List Int) : (sortL l).Pairwise (· ≤ ·) := by
 have := List.pairwise_mergeSort (le := fun x y : Int => decide (x ≤ y)) (by intro a b c; simp; omega) (by intro a b; simp; omega) l
 exact this.imp (by intro a b h; simpa using h)
theorem sortI_ok (l : List Int) (v : Value) (n : Nat) (w : World) (hown : w.ownsRow 0 3 1 v n (l.map (.int .i64))) (hlen : l.length ≤ 1048576) : Calls Tryz.prog 83 #[v] w (Ret fun u w' => u = .tuple #[] ∧ w'.ownsRow 0 3 1 v n ((sortL l).map (.int .i64)) ∧ Keep (fun q => v.ownBlock = some q) w w') := by
 have hn := own_len1 hown
 subst hn
 by_cases h0 : l = []
 ·
  subst h0
  obtain ⟨ao, c, rfl⟩ := own_form hown
  refine (Tryz.slices_Sort_int_none ao c w).mono ?_
  rintro e w' ⟨rfl, rfl⟩
  exact ⟨_, rfl, rfl, by simpa [sortL] using hown, Keep.refl _ _⟩
 obtain ⟨g, cap, sp, rfl, _, hnc, hcm, hB, hcl⟩ := own_open1 hown h0
 have hH : Go.Sort.Holds (Value.int .i64) w g 0 l.toArray := by
  intro j hj
  have hj' : j < l.length := by simpa using hj
  refine ⟨?_, hB.frozen⟩
  refine hB.cells j _ ?_
  rw [List.getElem?_append_left (by simpa using hj'), List.getElem?_map, List.getElem?_eq_getElem hj']
  simp [hj']
 refine (Tryz.slices_Sort_int g 0 cap l w hH hB.lt (by omega)).mono ?_
 rintro e w' ⟨rfl, q, os, rfl⟩
 have hw := sorted_world1 hB (sortL l) (sortL_len l) q os
 refine ⟨_, rfl, rfl, ?_, hw.2.mono (fun q _ h => by rw [h]; rfl)⟩
 have := own_shut1 hw.1 (cap := cap) (by rw [← hcl]; simp [sortL_len]) hcm
 rw [sortL_len] at this
 exact this
end Go.Proofs.YtldhllpogdikdaaGreat
namespace Go.GL
theorem Mat.inplace {α : Type} {enc : α → Value} {e eo : TypeId} {B : Nat} {w w1 : World} {bo : Nat} {rv : List Value} {rows : List (List α)} (h : Mat enc e eo B w bo rv rows) {i : Nat} {v : Value} {r' : List α} (hv : rv[i]? = some v)
  (hown : w1.ownsRow 0 e 1 v r'.length (r'.map enc)) (hk : Keep (fun q => v.ownBlock = some q) w w1) : Mat enc e eo B w1 bo rv (rows.set i r') := by
 have hi : i < rv.length := (List.getElem?_eq_some_iff.1 hv).1
 refine ⟨hk.blk h.out (fun hb => (h.far i v bo hv hb).2 rfl), by simp [h.len], ?_, h.far, h.apart⟩
 intro j u s hu hs
 by_cases hij : i = j
 ·
  subst hij
  rw [List.getElem?_set_self (by rw [← h.len]; exact hi)] at hs
  rw [hv] at hu
  cases hu; cases hs
  exact hown
 ·
  rw [List.getElem?_set_ne hij] at hs
  exact own_keep (h.row j u s hu hs) hk (fun g hg hv' => h.apart i j v u g hij hv hu hv' hg)
theorem narrow_nd : Narrow RNd := fun _ _ _ _ h => h
theorem set_self_at {α : Type} {l : List α} {i : Nat} {x : α} (h : l[i]? = some x) : l.set i x = l := by
 apply List.ext_getElem?
 intro j
 by_cases e : i = j
 · subst e; rw [List.getElem?_set_self (List.getElem?_eq_some_iff.1 h).1, h]
 · rw [List.getElem?_set_ne e]
theorem strict_of {l : List Int} (h1 : l.Pairwise (· ≤ ·)) (h2 : l.Nodup) : l.Pairwise (· < ·) := by
 induction l with
 | nil => exact List.Pairwise.nil
 | cons x r ih =>
  rw [List.pairwise_cons] at h1 ⊢
  rw [List.nodup_cons] at h2
  refine ⟨fun y hy => ?_, ih h1.2 h2.2⟩
  have := h1.1 y hy
  by_cases h : x < y
  · exact h
  · exact absurd (by rw [show x = y by omega]; exact hy) h2.1
theorem set_filled {α : Type} (a : List α) (z v : α) (i n : Nat) (hi : a.length = i) (hn : i < n) : (a ++ List.replicate (n - i) z).set i v = a ++ [v] ++ List.replicate (n - (i + 1)) z := by
 obtain ⟨k, hk⟩ : ∃ k, n - i = k + 1 := ⟨n - i - 1, by omega⟩
 have hk2 : n - (i + 1) = k := by omega
 rw [hk, hk2, List.set_append_right _ _ (by omega), hi, Nat.sub_self, List.replicate_succ, List.set_cons_zero]
 simp
end Go.GL
namespace Go.Proofs.YtldhllpogdikdaaGreat
open Go.GL
theorem lay_edges (l : List St) : ∀ (a n e N : Nat), n + widL l ≤ N → e < N → ∀ x ∈ layL l a n e, (-1 ≤ x.next ∧ x.next < N) ∧ (-1 ≤ x.other ∧ x.other < N) := by
 induction l using Sts.ind with
 | h l ih =>
 have wpos : ∀ r : List St, r.isEmpty = false → 1 ≤ widL r := by
  intro r hr
  cases r with
  | nil => simp at hr
  | cons s t => have := s.wid_eq; simp only [widL]; omega
 have key : ∀ r : List St, (∀ x ∈ r, x ∈ l) → ∀ (a n e N : Nat), n + widL r ≤ N → e < N → ∀ x ∈ layL r a n e, (-1 ≤ x.next ∧ x.next < N) ∧ (-1 ≤ x.other ∧ x.other < N) := by
  intro r
  induction r with
  | nil => intro _ a n e N _ _ x hx; simp [layL] at hx
  | cons s r ihr =>
   intro hm a n e N hN he x hx
   have h1 := (ih s (hm s (List.mem_cons_self ..))).1
   have h2 := (ih s (hm s (List.mem_cons_self ..))).2
   have hw := s.wid_eq
   simp only [widL] at hN
   rw [layL, List.mem_append] at hx
   rcases hx with hx | hx
   ·
    have he' : (if r.isEmpty then e else n + s.wid) < N := by
     cases hr : r.isEmpty
     · have := wpos r hr; simp; omega
     · simpa using he
    generalize (if r.isEmpty then e else n + s.wid) = e' at hx he'
    rw [s.lay_eq] at hx
    split at hx
    ·
     rename_i a3
     rw [if_neg (show ¬ s.act = 4 by omega)] at hw
     rw [List.mem_cons, List.mem_append] at hx
     rcases hx with rfl | hx | hx
     ·
      dsimp only
      refine ⟨?_, ?_⟩
      ·
       cases hr : s.thn.isEmpty
       · have := wpos _ hr; simp; omega
       · simp; omega
      ·
       cases hr : s.els.isEmpty
       · have := wpos _ hr; simp; omega
       · simp; omega
     · exact h1 _ _ _ N (by omega) he' x hx
     · exact h2 _ _ _ N (by omega) he' x hx
    ·
     split at hx
     ·
      rename_i a4
      rw [if_pos a4] at hw
      rw [List.mem_cons, List.mem_cons] at hx
      rcases hx with rfl | rfl | hx
      · dsimp only; omega
      ·
       dsimp only
       refine ⟨?_, by omega⟩
       cases hr : s.thn.isEmpty
       · have := wpos _ hr; simp; omega
       · simp; omega
      · exact h1 _ _ _ N (by omega) (by omega) x hx
     ·
      rw [List.mem_singleton] at hx
      subst hx
      dsimp only; omega
   · exact ihr (fun y hy => hm y (List.mem_cons_of_mem _ hy)) _ _ _ N (by omega) he x hx
 exact key l (fun x h => h)
theorem Valid.edge {f : Fl} (V : Valid f) {i : Nat} {x : Nd} (hx : (cfgN f)[i]? = some x) : (∀ to, to = x.next ∨ to = x.other → -1 ≤ to ∧ to < (cfgN f).length) ∧ (x.kind = 2 → 0 ≤ x.at_ ∧ x.at_ < (preL f.body).length) := by
 have hlen := cfgN_len f V.plain
 have hi := (List.getElem?_eq_some_iff.1 hx).1
 refine ⟨?_, fun k2 => ?_⟩
 ·
  have hm := List.mem_of_getElem? hx
  unfold cfgN at hm
  rw [List.mem_cons, List.mem_append, List.mem_singleton] at hm
  rcases hm with rfl | hm | rfl
  · dsimp only; intro to h; omega
  ·
   have := lay_edges f.body 0 1 (1 + widL f.body) (cfgN f).length (by omega) (by omega) x hm
   intro to h
   rcases h with rfl | rfl <;> omega
  · dsimp only; intro to h; omega
 ·
  by_cases hl : i < (cfgN f).length - 1
  ·
   obtain ⟨h1, h2⟩ := V.node (k := (i : Int)) (by omega) (by omega)
   rw [Int.toNat_natCast, hx] at h1
   have e := Option.some.inj h1
   rw [← e] at h2
   obtain ⟨h3, h4, _⟩ := h2.step (by omega)
   have := (List.getElem?_eq_some_iff.1 h4).1
   omega
  ·
   have hx2 := hx
   unfold cfgN at hx2
   obtain ⟨j, rfl⟩ : ∃ j, i = j + 1 := ⟨i - 1, by omega⟩
   rw [List.getElem?_cons_succ, List.getElem?_append_right (by rw [layL_len _ V.plain]; omega), layL_len _ V.plain] at hx2
   rw [show j - widL f.body = 0 by omega] at hx2
   simp at hx2
   subst hx2
   cases k2
def ProgK (Ls Ls1 : Sets) (ch : Bool) (done : Prop) : Prop := totL Ls ≤ totL Ls1 ∧ (ch = false → Ls1 = Ls ∧ done) ∧ (ch = true → totL Ls < totL Ls1)
theorem ProgK.imp {Ls Ls1 : Sets} {ch : Bool} {d d' : Prop} (h : ProgK Ls Ls1 ch d) (hd : Ls1 = Ls → ch = false → d → d') : ProgK Ls Ls1 ch d' :=
 ⟨h.1, fun e => ⟨(h.2.1 e).1, hd (h.2.1 e).1 e (h.2.1 e).2⟩, h.2.2⟩
theorem ProgK.grow {Ls Ls1 Ls2 : Sets} {ch : Bool} {d d' : Prop} (h : ProgK Ls Ls1 ch d) (ht : totL Ls2 = totL Ls1 + 1) : ProgK Ls Ls2 true d' :=
 ⟨by have := h.1; omega, (fun e => by cases e), fun _ => by have := h.1; omega⟩
theorem RmS.upd {w w' : World} {B gb : Nat} {ms : List Nat} {Ls : Sets} (h : RmS w B gb ms Ls) {i m : Nat} {l l' : List (Int × Value)} (hm : ms[i]? = some m) (hl : Ls[i]? = some l) (hM : MapI w' m l') (hk : Keep (fun q => q = m) w w') : RmS w' B gb ms (Ls.set i l') := by
 have hm0 := h.map i m l hm hl
 refine ⟨by rw [List.length_set]; exact h.len, hk.blk h.box (fun e => hm0.ne h.box e), hk.blk h.row (fun e => hm0.ne h.row e), h.nd, fun j m' q hj hq => ?_⟩
 by_cases e : i = j
 ·
  subst e
  rw [hm] at hj; cases hj
  rw [List.getElem?_set_self (List.getElem?_eq_some_iff.1 hl).1] at hq
  cases hq
  exact hM
 ·
  rw [List.getElem?_set_ne e] at hq
  refine (h.map j m' q hj hq).keep hk (fun e2 => ?_)
  have hnd := List.nodup_iff_pairwise_ne.1 h.nd
  rw [List.pairwise_iff_getElem] at hnd
  have hi' := (List.getElem?_eq_some_iff.1 hm)
  have hj' := (List.getElem?_eq_some_iff.1 hj)
  rcases Nat.lt_or_ge i j with h3 | h3
  · exact hnd i j hi'.1 hj'.1 h3 (by rw [hi'.2, hj'.2, e2])
  · exact hnd j i hj'.1 hi'.1 (by omega) (by rw [hi'.2, hj'.2, e2])
def RchRows (f : Fl) (g : List Nd) (rows : List (List Int)) : Prop := rows.length = g.length ∧ ∀ (i : Nat) r, rows[i]? = some r → r.Pairwise (· < ·) ∧ ∀ d, d ∈ r ↔ Rch f g i d
theorem strict_ext : ∀ {x y : List Int}, x.Pairwise (· < ·) → y.Pairwise (· < ·) → (∀ d, d ∈ x ↔ d ∈ y) → x = y := by
 intro x
 induction x with
 | nil =>
  intro y _ _ h
  cases y with
  | nil => rfl
  | cons c t => exact absurd ((h c).2 (List.mem_cons_self ..)) (by simp)
 | cons c t ih =>
  intro y hx hy h
  cases y with
  | nil => exact absurd ((h c).1 (List.mem_cons_self ..)) (by simp)
  | cons c' t' =>
   rw [List.pairwise_cons] at hx hy
   have e1 := (h c).1 (List.mem_cons_self ..)
   have e2 := (h c').2 (List.mem_cons_self ..)
   have e : c = c' := by
    rcases List.mem_cons.1 e1 with e1 | e1
    · exact e1
    ·
     rcases List.mem_cons.1 e2 with e2 | e2
     · exact e2.symm
     · have := hx.1 c' e2; have := hy.1 c e1; omega
   subst e
   congr 1
   refine ih hx.2 hy.2 (fun d => ⟨fun hd => ?_, fun hd => ?_⟩)
   ·
    rcases List.mem_cons.1 ((h d).1 (List.mem_cons_of_mem _ hd)) with e | e
    · have := hx.1 d hd; omega
    · exact e
   ·
    rcases List.mem_cons.1 ((h d).2 (List.mem_cons_of_mem _ hd)) with e | e
    · have := hy.1 d hd; omega
    · exact e
end Go.Proofs.YtldhllpogdikdaaGreat
namespace Go.GL
theorem WX.retTCT {P : Program} {fn : Func} {R : Ending → World → Prop} {n : Nat} {env : Env} {w : World} {s p t : Tmp} {ty : TypeId} {a0 : Addr} {u v x : Value} (h : fn.results = #[.tmp s, .cell p ty, .tmp t]) (hu : get env s = some u) (hp : get env p = some (.pointer (some a0))) (hl : (loadVar ty a0).run P w = .ok v w) (hx : get env t = some x) (hR : R (.returned (.tuple #[u, v, x])) w) : WX n .ret (bodyPost P fn R) env w := by
 intro a ha
 have h0 := ha.get s _ hu
 have h1 := ha.get p _ hp
 have h2 := ha.get t _ hx
 refine bodyPost_ret (v := .tuple #[u, v, x]) ?_ ha.defs hR
 simp [results, h, Array.getD_eq_getD_getElem?, h0, h1, h2, asAddr, hl]
end Go.GL
namespace Go.Proofs.YtldhllpogdikdaaGreat
open Go.GL
theorem formed_mono {vs : List Vr} (t : Tm) : formedT vs true t = true → formedT vs false t = true := by
 induction t using Tm.ind with
 | h t ih =>
  intro h
  rw [formedT_eq, Bool.and_eq_true, Bool.and_eq_true] at h ⊢
  refine ⟨⟨h.1.1, ?_⟩, ?_⟩
  ·
   have h2 := h.1.2
   unfold refFit at h2 ⊢
   split
   ·
    rename_i e
    rw [if_pos e, Bool.and_eq_true] at h2
    rw [h2.1]; rfl
   ·
    rename_i e
    rw [if_neg e] at h2
    exact h2
  ·
   have key : ∀ l : List Tm, (∀ k ∈ l, k ∈ t.kids) → formedL vs true l = true → formedL vs false l = true := by
    intro l
    induction l with
    | nil => intro _ _; rfl
    | cons x r ihr =>
     intro hm hf
     rw [formedL, Bool.and_eq_true] at hf ⊢
     exact ⟨ih x (hm x (List.mem_cons_self ..)) hf.1, ihr (fun k hk => hm k (List.mem_cons_of_mem _ hk)) hf.2⟩
   exact key t.kids (fun k h => h) h.2
theorem Valid.hatch {f : Fl} (V : Valid f) : ∀ h ∈ f.hatches, formedT f.vars false h.term = true ∧ (rng f.vars h.term).isSome = true ∧ h.term.nodes ≤ 1000000 ∧ h.low ≤ h.high := by
 intro h hm
 obtain ⟨i, hi⟩ := List.mem_iff_getElem?.1 hm
 have hlt := (List.getElem?_eq_some_iff.1 hi).1
 have h0 := (check_parts V.ok).2.2.1
 have h1 := firstBad_inv f.hatches.length 0 h0 i (Nat.zero_le _) (by omega)
 rw [hatchAt_eq hi] at h1
 have hn := hnodes_split hi
 have := V.size
 unfold hatchCode at h1
 split at h1
 · cases h1
 split at h1
 · cases h1
 split at h1
 · cases h1
 ·
  rename_i hb
  unfold termCodeN at h1
  split at h1
  ·
   rename_i hf
   split at h1
   ·
    rename_i hr
    refine ⟨formed_mono _ hf, hr, by omega, ?_⟩
    have hb' : bndB h.low h.high = true := by simpa using hb
    unfold bndB at hb'
    exact (of_decide_eq_true hb').1
   · cases h1
  · cases h1
def hatV (vals : List Int) (hs : List Ht) : List Int := hs.map fun h => clampI (valT vals h.term) h.low h.high
theorem hatV_take {vals : List Int} {hs : List Ht} {i : Nat} {x : Ht} (h : hs[i]? = some x) : hatV vals (hs.take (i + 1)) = hatV vals (hs.take i) ++ [clampI (valT vals x.term) x.low x.high] := by
 unfold hatV; rw [take_get h, List.map_append]; rfl
theorem WkS.keepP {D : Nat → Prop} {f : Fl} {hs : List Int} {w w' : World} {σ : Sg} {z : WkV} {S : Nat → Prop} (h : WkS D f hs w σ z) (hk : Keep S w w') (h1 : ∀ q, KW z q → ¬ S q) (h2 : ∀ q, D q → ¬ S q) (h3 : ∀ g, z.hv.ownBlock = some g → ¬ S g) : WkS D f hs w' σ z :=
 ⟨hk.blk h.blk (h1 _ (.inl rfl)), rflKeepD h.fl hk h2, h.steps.keep stable_st hk (fun q hq _ => h2 q hq), own_keep h.vals hk (fun g hg => h1 g (.inr (.inr (.inl hg)))), own_keep h.hats hk h3, own_keep h.outs hk (fun g hg => h1 g (.inr (.inr (.inr hg)))), h.map.keep hk (h1 _ (.inr (.inl rfl))), fun q hq => by have := h.low q hq; have := hk.size; omega, h.nW, h.nm, h.nv, h.no⟩
theorem WkS.hatsPush {D : Nat → Prop} {f : Fl} {hs : List Int} {w w1 w2 : World} {σ : Sg} {z : WkV} {n : Int} {hv' : Value} (h : WkS D f hs w σ z) (ho : w1.ownsRow 0 3 1 hv' (hs.length + 1) (hs.map encI1 ++ [.int .i64 n])) (hfr : hv'.ownBlock = z.hv.ownBlock ∨ ∃ g, hv'.ownBlock = some g ∧ w.heap.size ≤ g) (hk : Keep (fun q => z.hv.ownBlock = some q) w w1)
  (hw : Wrote w1 z.W [z.v1, z.v2, z.v3, z.sv, z.vv, hv', .map (some z.m), z.ov, .int .i64 σ.time] 182 w2) (hD : ∀ g, z.hv.ownBlock = some g → ¬ D g) : WkS D f (hs ++ [n]) w2 σ { z with hv := hv' } := by
 obtain ⟨hsz, hB, hk2⟩ := hw
 have hK : Keep (fun q => z.hv.ownBlock = some q ∨ q = z.W) w w2 := (Keep.mono hk (fun _ _ e => .inl e)).trans hk2 (fun _ _ e => .inr e)
 have hnD : ∀ q, D q → ¬ (z.hv.ownBlock = some q ∨ q = z.W) := fun q hq e => e.elim (fun e => hD q e hq) (fun e => h.nW (e ▸ hq))
 have hnew : ∀ g, hv'.ownBlock = some g → z.hv.ownBlock = some g ∨ w.heap.size ≤ g := fun g hg => by
  rcases hfr with e | ⟨g', e, e'⟩
  · exact .inl (by rw [← e]; exact hg)
  · rw [e] at hg; cases hg; exact .inr e'
 have hne : ∀ g, hv'.ownBlock = some g → g ≠ z.W := fun g hg => by
  obtain ⟨cs, hb⟩ := own_blkty ho hg
  exact hb.ne (hk.blk h.blk (fun e => h.hne e rfl)) (by decide)
 refine ⟨hB, rflKeepD h.fl hK hnD, h.steps.keep stable_st hK (fun q hq _ => hnD q hq), own_keep h.vals hK (fun g hg e => e.elim (h.nv g hg).2.1 (h.vne hg)), ?_, own_keep h.outs hK (fun g hg e => e.elim (h.no g hg).2 (h.one hg)), h.map.keep hK (fun e => e.elim (fun e => h.hnm e rfl) (fun e => h.wm e.symm)), fun q hq => by have := h.low q hq; have := hK.size; omega, h.nW, h.nm, fun g hg => ⟨(h.nv g hg).1, fun e => ?_, (h.nv g hg).2.2⟩, fun g hg => ⟨(h.no g hg).1, fun e => ?_⟩⟩
 ·
  have := own_keep ho hk2 (fun g hg e => hne g hg e)
  rw [List.length_append, List.map_append]
  exact this
 ·
  rcases hnew g e with e2 | e2
  · exact (h.nv g hg).2.1 e2
  · have := own_lt h.vals hg; omega
 ·
  rcases hnew g e with e2 | e2
  · exact (h.no g hg).2 e2
  · have := own_lt h.outs hg; omega
theorem start_inv {vs : List Vr} {r : Ins} (h : startCode vs r = 0) : InV vs (startVals vs r) := by
 unfold startCode at h
 cases hs : startS vs r with
 | none => rw [hs] at h; cases h
 | some s =>
  rw [hs] at h
  have hv : startVals vs r = s.vals := by unfold startVals; rw [hs]
  have hl := startS_len (vs := vs) (r := r) vs.length s (Nat.le_refl _) (by rw [List.take_length]; exact hs)
  simp only at h
  unfold startFin at h
  split at h
  · cases h
  split at h
  ·
   rename_i ha
   rw [hv]
   refine ⟨hl.1, fun i v hi => ?_⟩
   have hlt := (List.getElem?_eq_some_iff.1 hi).1
   rw [List.all_eq_true] at ha
   have := ha (v, lki s.vals i) (List.mem_iff_getElem?.2 ⟨i, by
    rw [List.getElem?_zip_eq_some]
    exact ⟨hi, lki_at (by omega)⟩⟩)
   unfold inB at this
   simp at this
   exact this
  · cases h
theorem rflWide {D D' : Nat → Prop} {f : Fl} {v1 v2 v3 : Value} {w : World} (h : RFl D w f v1 v2 v3) (hD : ∀ q, D q → D' q) : RFl D' w f v1 v2 v3 := ⟨h.vars.wide stable_vr hD, h.hatches.wide stable_ht hD, h.body.wide stable_st hD⟩
structure WalkI (D : Nat → Prop) (f : Fl) (hs : List Int) (σ0 : Sg) (w0 : World) (w : World) (j : Nat) (W : Nat) (vp : Value) (z : WkV) : Prop where
 st : WkS D f hs w (iterM f hs (cfgN f) j ⟨0, σ0, fun _ => 0⟩).σ z
 W : z.W = W
 rd : RdM z.rm (iterM f hs (cfgN f) j ⟨0, σ0, fun _ => 0⟩).rd
 inv : MInv f j (iterM f hs (cfgN f) j ⟨0, σ0, fun _ => 0⟩)
 path : w.ownsRow 0 3 1 vp (j + 1) (((List.range (j + 1)).map fun i => (iterM f hs (cfgN f) i ⟨0, σ0, fun _ => 0⟩).at_).map encI1)
 apart : ∀ g, vp.ownBlock = some g → ¬ KW z g ∧ z.hv.ownBlock ≠ some g ∧ ¬ D g ∧ w0.heap.size ≤ g
 far : ∀ g, KW z g → w0.heap.size ≤ g
 ext : Ext w0 w
theorem walk_ok (f : Fl) (g : List Nd) (r : Ins) (v1 v2 v3 gv s1 s2 s3 : Value) (D0 Dg : Nat → Prop) (w : World) (hf0 : RFl D0 w f v1 v2 v3) (hg0 : SlR 4 RNd Dg w gv g) (hi1 : SlR 1 RInt D0 w s1 r.secret) (hi2 : SlR 1 RInt D0 w s2 r.pub) (hi3 : SlR 1 RInt D0 w s3 r.random) (hsz : snodes f.body + hnodes f.hatches ≤ 1024) (hbk : sbulk f.body ≤ 1000000) :
  Calls Tryz.prog 73 #[.agg #[v1, v2, v3], .agg #[gv], .agg #[s1, s2, s3]] w (Ret fun rr w' => (∃ pv ov t e, rr = .tuple #[pv, .agg #[ov, .int .i64 t], .int .i64 e] ∧ e = (if gcheckN f g ≠ 0 then gcheckN f g else startCode f.vars r) ∧
   (e ≠ 0 → pv = .slice none 0 0 ∧ ov = .slice none 0 0 ∧ t = 0) ∧
   (e = 0 → ∃ K rd', Goes f (hatV (startVals f.vars r) f.hatches) (cfgN f) 0 ((cfgN f).length - 1) K ⟨0, ⟨startVals f.vars r, [], 0⟩, fun _ => 0⟩ ⟨((cfgN f).length : Int) - 1, exL f (hatV (startVals f.vars r) f.hatches) f.body ⟨startVals f.vars r, [], 0⟩, rd'⟩ ∧
    SlR 1 RInt (fun b => w.heap.size ≤ b) w' pv ((List.range (K + 1)).map fun i => (iterM f (hatV (startVals f.vars r) f.hatches) (cfgN f) i ⟨0, ⟨startVals f.vars r, [], 0⟩, fun _ => 0⟩).at_) ∧
    SlR 1 RInt (fun b => w.heap.size ≤ b) w' ov (exL f (hatV (startVals f.vars r) f.hatches) f.body ⟨startVals f.vars r, [], 0⟩).outs ∧ t = (exL f (hatV (startVals f.vars r) f.hatches) f.body ⟨startVals f.vars r, [], 0⟩).time)) ∧ Ext w w') := by
 obtain ⟨ah, ch, rfl⟩ := hf0.hatches.form
 have hf := hf0.narrow
 replace hi1 := hi1.narrow (by decide) narrow_int
 replace hi2 := hi2.narrow (by decide) narrow_int
 replace hi3 := hi3.narrow (by decide) narrow_int
 generalize hDD : (fun b => D0 b ∧ b < w.heap.size) = D at hf hi1 hi2 hi3
 have hDw : ∀ q, D q → q < w.heap.size := fun q h => by rw [← hDD] at h; exact h.2
 obtain ⟨ag, cg, rfl⟩ := hg0.form
 have hE := Keep.refl (fun _ => False) w
 have hg := hg0
 refine calls Tryz.func73 rfl [(0, .agg #[v1, .slice ah f.hatches.length ch, v3]), (1, .agg #[.slice ag g.length cg]), (2, .agg #[s1, s2, s3])] 92 ⟨Nat.le_of_ble_eq_true rfl, Tryz.ntmps73⟩ (argsOk (Sub.of rfl)) ?_
 refine WC.sr (WO.mem rfl rfl rfl (M.box rfl rfl) ?_)
 rintro _ w_b ⟨b, rfl, hg_b, hs_b, hB_b, hk_b⟩
 have hge_b : _ ≤ b := Nat.le_trans hE.size (Nat.le_of_eq hg_b.symm)
 replace hE := hE.ext hk_b
 replace hf := RFl.ext hf hk_b
 replace hg := hg.ext stable_nd hk_b
 refine WO.mem rfl rfl rfl (M.box rfl rfl) ?_
 rintro _ w_bg ⟨bg, rfl, hg_bg, hs_bg, hB_bg, hk_bg⟩
 have hn_b_bg : b ≠ bg := by have := hB_b.lt; omega
 have hge_bg : _ ≤ bg := Nat.le_trans hE.size (Nat.le_of_eq hg_bg.symm)
 replace hE := hE.ext hk_bg
 replace hf := RFl.ext hf hk_bg
 replace hg := hg.ext stable_nd hk_bg
 replace hB_b := hk_bg.blk hB_b (fun h => h)
 refine WO.mem rfl rfl rfl (M.box rfl rfl) ?_
 rintro _ w_bi ⟨bi, rfl, hg_bi, hs_bi, hB_bi, hk_bi⟩
 have hn_b_bi : b ≠ bi := by have := hB_b.lt; omega
 have hn_bg_bi : bg ≠ bi := by have := hB_bg.lt; omega
 have hge_bi : _ ≤ bi := Nat.le_trans hE.size (Nat.le_of_eq hg_bi.symm)
 replace hE := hE.ext hk_bi
 replace hf := RFl.ext hf hk_bi
 replace hg := hg.ext stable_nd hk_bi
 replace hB_b := hk_bi.blk hB_b (fun h => h)
 replace hB_bg := hk_bi.blk hB_bg (fun h => h)
 refine WO.a rfl rfl (WO.mem rfl rfl rfl (M.alloc (cs := [.slice none 0 0, .int .i64 0]) Tryz.zeroValue64 rfl) ?_)
 rintro _ w_rc ⟨rc, rfl, hg_rc, hs_rc, hB_rc, hk_rc⟩
 have hn_b_rc : b ≠ rc := by have := hB_b.lt; omega
 have hn_bg_rc : bg ≠ rc := by have := hB_bg.lt; omega
 have hn_bi_rc : bi ≠ rc := by have := hB_bi.lt; omega
 have hge_rc : _ ≤ rc := Nat.le_trans hE.size (Nat.le_of_eq hg_rc.symm)
 replace hE := hE.ext hk_rc
 replace hf := RFl.ext hf hk_rc
 replace hg := hg.ext stable_nd hk_rc
 replace hB_b := hk_rc.blk hB_b (fun h => h)
 replace hB_bg := hk_rc.blk hB_bg (fun h => h)
 replace hB_bi := hk_rc.blk hB_bi (fun h => h)
 refine WO.a rfl rfl (WO.nil (WX.next (WC.seq (WC.seq (WC.region ?_)))))
 refine WO.o rfl (R.loadK Tryz.isAgg26 Tryz.sizeOf26 rfl (by rfl) hB_b.cells) (WO.o rfl (R.loadK Tryz.isAgg31 Tryz.sizeOf31 rfl (by rfl) hB_bg.cells) (WO.call rfl rfl rfl (F.call (vs := [_, _]) Tryz.call18 rfl) (cfgCheck_ok f g _ _ _ _ D Dg _ hf hg hsz hbk) ?_))
 rintro _ wz1 ⟨rfl, hz1⟩
 replace hE := hE.ext hz1
 replace hf := RFl.ext hf hz1
 replace hg := hg.ext stable_nd hz1
 replace hB_b := hz1.blk hB_b (fun h => h)
 replace hB_bg := hz1.blk hB_bg (fun h => h)
 replace hB_bi := hz1.blk hB_bi (fun h => h)
 replace hB_rc := hz1.blk hB_rc (fun h => h)
 refine WO.a rfl rfl (WO.nr (WO.mv rfl rfl (WO.o rfl (R.neq rfl rfl) (WO.nil (WX.next ?_)))))
 refine WC.ite rfl (fun e0 => ?_) (fun e0 => ?_)
 ·
  refine WC.sr (WO.o rfl (R.build (v := .agg #[.slice none 0 0, .int .i64 0]) [] rfl (fun _ => by kernel_rfl)) (WO.mv rfl rfl (WO.a rfl rfl (WO.mem0 rfl rfl (M.storeK Tryz.sizeOf64 rfl rfl rfl rfl (by simp [Value.oneCell']) hB_rc (by simp)) ?_))))
  rintro wf ⟨_, hBf, hkf⟩
  refine WO.a rfl rfl (WO.nil (WX.next (WC.ret (WX.thenR ?_))))
  refine WX.retTCT Tryz.results73 rfl rfl (run_loadK Tryz.isAgg64 Tryz.sizeOf64 rfl hBf.cells) rfl ?_
  have hne : (if gcheckN f g ≠ 0 then gcheckN f g else startCode f.vars r) = gcheckN f g := if_pos e0
  exact ⟨_, rfl, ⟨_, _, _, _, rfl, hne.symm, fun _ => ⟨rfl, rfl, rfl⟩, fun h => absurd h e0⟩, hE.trans hkf (fun q hq h => by have h : q = rc := h; omega)⟩
 ·
  have e0' : gcheckN f g = 0 := by omega
  have hck : checkN f = 0 := by
   unfold gcheckN at e0'
   split at e0'
   · rename_i h; exact absurd e0' h
   · rename_i h; omega
  have hgg : cfgN f = g := by
   unfold gcheckN at e0'
   rw [if_neg (by omega)] at e0'
   split at e0'
   · assumption
   · cases e0'
  have V : Valid f := ⟨hck, hsz, hbk⟩
  subst hgg
  have hne : (if gcheckN f (cfgN f) ≠ 0 then gcheckN f (cfgN f) else startCode f.vars r) = startCode f.vars r := if_neg e0
  have hl64 := V.lens
  refine WC.ks (WO.o rfl (R.loadK Tryz.isAgg26 Tryz.sizeOf26 rfl (by rfl) hB_b.cells) (WO.o rfl (R.loadK Tryz.isAgg52 Tryz.sizeOf52 rfl (by rfl) hB_bi.cells) ?_))
  have hE1 := hE
  have hszE := hE.size
  refine WO.call rfl rfl rfl (F.call (vs := [_, _]) Tryz.call121 rfl) (start_ok f r _ _ _ _ _ _ D _ hf (hi1.ext stable_int hE) (hi2.ext stable_int hE) (hi3.ext stable_int hE) (fun q hq => by have := hDw q hq; omega) V.kinds (by omega)) ?_
  rintro _ u1 ⟨⟨vv, rfl, hvv⟩, uk1⟩
  replace hE := hE.ext uk1
  replace hf := RFl.ext hf uk1
  replace hg := hg.ext stable_nd uk1
  replace hB_b := uk1.blk hB_b (fun h => h)
  replace hB_bg := uk1.blk hB_bg (fun h => h)
  replace hB_bi := uk1.blk hB_bi (fun h => h)
  replace hB_rc := uk1.blk hB_rc (fun h => h)
  refine WO.mv rfl rfl (WO.o rfl (R.extract rfl rfl) (WO.o rfl (R.extract rfl rfl) (WO.a rfl rfl (WO.a rfl rfl (WO.nil (WX.next (WC.seq (WC.seq (WC.region ?_)))))))))
  refine WO.mv rfl rfl (WO.o rfl (R.neq rfl rfl) (WO.nil (WX.next ?_)))
  refine WC.ite rfl (fun e1 => ?_) (fun e1 => ?_)
  ·
   refine WC.sr (WO.o rfl (R.build (v := .agg #[.slice none 0 0, .int .i64 0]) [] rfl (fun _ => by kernel_rfl)) (WO.mv rfl rfl (WO.a rfl rfl (WO.mem0 rfl rfl (M.storeK Tryz.sizeOf64 rfl rfl rfl rfl (by simp [Value.oneCell']) hB_rc (by simp)) ?_))))
   rintro wf ⟨_, hBf, hkf⟩
   refine WO.a rfl rfl (WO.nil (WX.next (WC.ret (WX.thenR ?_))))
   refine WX.retTCT Tryz.results73 rfl rfl (run_loadK Tryz.isAgg64 Tryz.sizeOf64 rfl hBf.cells) rfl ?_
   exact ⟨_, rfl, ⟨_, _, _, _, rfl, hne.symm, fun _ => ⟨rfl, rfl, rfl⟩, fun h => absurd h e1⟩, hE.trans hkf (fun q hq h => by have h : q = rc := h; omega)⟩
  ·
   have hs0 : startCode f.vars r = 0 := by omega
   obtain ⟨hov, hfv⟩ := hvv hs0
   have hV0 := start_inv hs0
   rw [← mapI] at hov
   obtain ⟨va, vc, rfl, _⟩ := own_slice hov
   generalize hvals : startVals f.vars r = vals at *
   have hvl := hV0.len
   refine WC.skip (WX.next (WC.seq (WC.draw (fun q => Blk q b [v1, .slice ah f.hatches.length ch, v3] 26) [] (by kernel_rfl) (fun u2 uk2 _ => ?_))))
   replace hE := hE.ext uk2
   replace hf := RFl.ext hf uk2
   replace hg := hg.ext stable_nd uk2
   replace hB_b := uk2.blk hB_b (fun h => h)
   replace hB_bg := uk2.blk hB_bg (fun h => h)
   replace hB_bi := uk2.blk hB_bi (fun h => h)
   replace hB_rc := uk2.blk hB_rc (fun h => h)
   have hov2 := own_keep hov uk2 (fun _ _ h => h)
   refine WD.take 0 rfl (by kernel_rfl) rfl rfl rfl hB_b (fun w1 hw1 => R.loadK Tryz.isAgg26 Tryz.sizeOf26 rfl (by rfl) hw1.cells) (WD.takeW 1 rfl (by kernel_rfl) rfl rfl rfl (fun w1 => R.fieldAddr Tryz.runUnderlying26 rfl Tryz.sizeOf24 rfl) (WD.take 2 rfl (by kernel_rfl) rfl rfl rfl hB_b (fun w1 hw1 => R.load Tryz.isAgg24 rfl (hw1.cells 2 _ rfl)) (WD.takeW 4 rfl (by kernel_rfl) rfl rfl rfl (fun w1 => R.move rfl) ?_)))
   refine WD.many (fuel := 3) (L3 := #[true, true, true, true, true, true, false, false, false]) [⟨3, _, 37, fun a v a' => OwnR 86 10 RSt D a' v (preL f.body) ∧ (∀ g, v.ownBlock = some g → a.heap.size ≤ g) ∧ Ext a a'⟩, ⟨5, _, 39, fun a v a' => ∃ b, v = .map (some b) ∧ b = a.heap.size ∧ a'.heap.size = a.heap.size + 1 ∧ MapI a' b [] ∧ Ext a a'⟩]
    (List.forall_mem_cons.2 ⟨⟨rfl, rfl, rfl, rfl, rfl⟩, List.forall_mem_cons.2 ⟨⟨rfl, rfl, rfl, rfl, rfl⟩, by simp⟩⟩)
    (show List.Nodup [37, 39] by decide) (show List.Nodup [3, 5] by decide) (by kernel_rfl) (fun w' h => h.blk hB_b (fun h => h)) ?_ ?_ ?_
   · exact List.forall_mem_cons.2 ⟨fun a v a' h => h.2.2, List.forall_mem_cons.2 ⟨fun a v a' ⟨_, _, _, _, _, h⟩ => h, by simp⟩⟩
   · exact List.forall_mem_cons.2 ⟨fun w' h => Does.call (F.call (vs := [_]) Tryz.call80 rfl) (flatten_ok f.body _ D w' (hf.body.ext stable_st h) (fun q hq => by have := hDw q hq; have := hE.size; have := h.size; omega) (by have := V.ssize; omega)), List.forall_mem_cons.2 ⟨fun w' h => Does.of M.makeMap, by simp⟩⟩
   intro val wm hEm hmade hap
   obtain ⟨a3, a3', k3, ⟨hfl, hflf, hfle⟩, k3'⟩ := hmade _ (List.mem_cons_self ..)
   obtain ⟨a5, a5', k5, ⟨m, e5, hm5, hsz5, hM5, hk5⟩, k5'⟩ := hmade _ (List.mem_cons_of_mem _ (List.mem_cons_self ..))
   replace hfl := hfl.ext stable_st k3'
   replace hM5 := hM5.ext k5'
   obtain ⟨sa, sc, hsv, _⟩ := hfl.form
   simp only at hfl hflf e5 hsv
   rw [hsv] at hfl hflf
   have hov3 := own_keep hov2 hEm (fun _ _ h => h)
   replace hE := hE.ext hEm
   replace hf := RFl.ext hf hEm
   replace hg := hg.ext stable_nd hEm
   replace hB_b := hEm.blk hB_b (fun h => h)
   replace hB_bg := hEm.blk hB_bg (fun h => h)
   replace hB_bi := hEm.blk hB_bi (fun h => h)
   replace hB_rc := hEm.blk hB_rc (fun h => h)
   show WD _ _ _ _ _ _ _ _ ((37, val 37) :: (39, val 39) :: _) _
   rw [e5, hsv]
   have hmw : w.heap.size ≤ m := by have := k5.size; have := uk2.size; have := uk1.size; omega
   refine WD.takeW 6 rfl (by kernel_rfl) rfl rfl rfl (fun w1 => R.build (v := .agg #[v1, .slice ah f.hatches.length ch, v3, .slice sa (preL f.body).length sc, .slice va f.vars.length vc, .slice none 0 0, .map (some m), .slice none 0 0, .int .i64 0]) [(0, _), (1, _), (2, _), (4, _)] rfl (fun _ => by kernel_rfl)) (WD.mem 7 rfl (by kernel_rfl) rfl rfl rfl (M.box rfl rfl) ?_)
   rintro _ w8 ⟨W, rfl, hW, hs8, hB8, hk8⟩
   refine ⟨fun _ => hk8.blk hB_b (fun h => h), ?_⟩
   replace hE := hE.ext hk8
   replace hf := RFl.ext hf hk8
   replace hg := hg.ext stable_nd hk8
   replace hB_b := hk8.blk hB_b (fun h => h)
   replace hB_bg := hk8.blk hB_bg (fun h => h)
   replace hB_bi := hk8.blk hB_bi (fun h => h)
   replace hB_rc := hk8.blk hB_rc (fun h => h)
   have hszm := hE.size
   have hWw : w.heap.size ≤ W := by have := k5.size; have := uk2.size; have := uk1.size; have := hEm.size; omega
   have hsvb : ∀ g, Value.ownBlock (.slice sa (preL f.body).length sc) = some g → g < wm.heap.size ∧ ∃ cs, Blk w8 g cs 86 := fun g hg => by
    obtain ⟨cs, hb⟩ := hfl.ty hg
    exact ⟨hb.lt, cs, hk8.blk hb (fun h => h)⟩
   generalize hD2 : (fun q => D q ∨ Value.ownBlock (.slice sa (preL f.body).length sc) = some q) = D2
   have hD2i : ∀ q, D2 q ↔ (D q ∨ Value.ownBlock (.slice sa (preL f.body).length sc) = some q) := fun q => by rw [← hD2]
   have hov8 := own_keep hov3 hk8 (fun _ _ h => h)
   have hM8 := hM5.ext hk8
   have hnil : ∀ g, Value.ownBlock (.slice none 0 0) ≠ some g := fun g h => by simp [Value.ownBlock] at h
   have hz0 : WkS D2 f [] w8 ⟨vals, [], 0⟩ ⟨W, m, v1, .slice ah f.hatches.length ch, v3, .slice sa (preL f.body).length sc, .slice va f.vars.length vc, .slice none 0 0, .slice none 0 0, []⟩ := by
    refine ⟨hB8, rflWide hf (fun q hq => (hD2i q).2 (.inl hq)), (hfl.ext stable_st hk8).sl (by decide) stable_st (fun q hq => (hD2i q).2 (.inl hq)) (fun g hg => (hD2i g).2 (.inr hg)), by rw [hvl]; exact hov8, own_nil _ _ _, own_nil _ _ _, hM8, fun q hq => ?_, fun hq => ?_, fun hq => ?_, fun g hg => ⟨fun hq => ?_, hnil g, hnil g⟩, fun g hg => absurd hg (hnil g)⟩
    ·
     rcases (hD2i q).1 hq with h | h
     · have := hDw q h; omega
     · have := (hsvb q h).1; omega
    ·
     rcases (hD2i W).1 hq with h | h
     · have := hDw W h; omega
     · have := (hsvb W h).1; omega
    ·
     rcases (hD2i m).1 hq with h | h
     · have := hDw m h; omega
     · obtain ⟨cs, hb⟩ := (hsvb m h).2; exact hM8.ne hb rfl
    ·
     obtain ⟨cs, hb⟩ := own_blkty hov8 hg
     rcases (hD2i g).1 hq with h | h
     · have := hDw g h; have := hfv g hg; omega
     ·
      obtain ⟨cs', hb'⟩ := (hsvb g h).2
      exact absurd (hb.ty hb').1 (by decide)
   have hfar0 : ∀ g, KW ⟨W, m, v1, .slice ah f.hatches.length ch, v3, .slice sa (preL f.body).length sc, .slice va f.vars.length vc, .slice none 0 0, .slice none 0 0, []⟩ g → w.heap.size ≤ g := by
    rintro g (rfl | rfl | h | h)
    · exact hWw
    · exact hmw
    · have := hfv g h; omega
    · exact absurd h (hnil g)
   refine WD.takeW 8 rfl (by kernel_rfl) rfl rfl rfl (fun w1 => R.assign rfl) (WD.done (by kernel_rfl) ?_ _)
   refine WX.next (WC.seq (WC.seq (WC.region (WO.o rfl (R.fieldAddr Tryz.runUnderlying26 rfl Tryz.sizeOf23 rfl) (WO.o rfl (R.load Tryz.isAgg23 rfl (hB_b.cells 1 _ rfl)) (WO.o rfl (R.lenS rfl Tryz.runUnderlying23 rfl) (WO.mv rfl rfl (WO.nil (WX.next (WC.block ?_))))))))))
   refine WC.loop (σ := Nat × Value) (fun ⟨i, hvv⟩ => [(4, .pointer (some ⟨bg, 0, none⟩)), (7, .pointer (some ⟨rc, 0, none⟩)), (12, .pointer (some ⟨W, 0, none⟩)), (43, .slice ah f.hatches.length ch), (44, .int .i64 f.hatches.length), (45, .int .i64 i)]) (fun ⟨i, hvv⟩ => fun w' => i ≤ f.hatches.length ∧ WkS D2 f (hatV vals (f.hatches.take i)) w' ⟨vals, [], 0⟩ ⟨W, m, v1, .slice ah f.hatches.length ch, v3, .slice sa (preL f.body).length sc, .slice va f.vars.length vc, hvv, .slice none 0 0, []⟩ ∧ (∀ g, hvv.ownBlock = some g → w8.heap.size ≤ g) ∧ Blk w' bg [.slice ag (cfgN f).length cg] 31 ∧ Blk w' rc [.slice none 0 0, .int .i64 0] 64 ∧ w8.heap.size ≤ w'.heap.size ∧ Ext w w') (fun ⟨i, hvv⟩ => f.hatches.length - i) ((0, .slice none 0 0)) (Sub.of rfl) (⟨Nat.zero_le _, hz0, fun g hg => absurd hg (hnil g), hB_bg, hB_rc, Nat.le_refl _, hE⟩) ?_
   rintro ⟨i, hvv⟩ x1 ⟨hi, hz, hhf, hB_bg, hB_rc, hsz8, hE⟩
   show WC _ _ _ _ [(4, .pointer (some ⟨bg, 0, none⟩)), (7, .pointer (some ⟨rc, 0, none⟩)), (12, .pointer (some ⟨W, 0, none⟩)), (43, .slice ah f.hatches.length ch), (44, .int .i64 f.hatches.length), (45, .int .i64 i)] _
   have hhsw := hf0.hatches.ext stable_ht hE
   have hD2n : ∀ g, hvv.ownBlock = some g → ¬ D2 g := fun g hg hq => by
    have := hhf g hg
    have := hz0.low g hq
    omega
   refine WC.sr (WO.o rfl (R.lss rfl rfl) (WO.nil (WX.next (WC.seq ?_))))
   refine WC.ite rfl (fun hlt => ?_) (fun hge => ?_)
   ·
    obtain ⟨x, he_x⟩ : ∃ x, f.hatches[i]? = some x := ⟨_, List.getElem?_eq_getElem (by omega)⟩
    have hm_x := List.mem_of_getElem? he_x
    obtain ⟨b_x, o_x, c_x, ha_x, _, hc_x, hR_x⟩ := hhsw.at he_x
    have h1_x := RHt.one hR_x
    obtain ⟨v1_x, rfl, hk_x⟩ := hR_x
    obtain ⟨a1_x, n1_x, rfl⟩ := hk_x.form
    have hlt_x : b_x < _ := World.block_lt_of_cell? _ _ (hc_x 0 _ rfl)
    obtain ⟨hx1, hx2, hx3, hx4⟩ := V.hatch x hm_x
    have hV1 : InV f.vars vals := hV0
    refine WC.skip (WX.next (WC.seq (WC.block (WC.seq (WC.region (WO.o rfl (R.indexS Tryz.runUnderlying23 Tryz.sizeOf109 rfl rfl ha_x (by omega)) (WO.o rfl (R.loadK Tryz.isAgg109 Tryz.sizeOf109 rfl (by rfl) hc_x) (WO.mem rfl rfl rfl (M.alloc (cs := _) Tryz.zeroValue109 rfl) ?_))))))))
    rintro _ wa2 ⟨c, rfl, hg_c, hs_c, hB_c, hk_c⟩
    refine WO.mem0 rfl rfl (M.storeK Tryz.sizeOf109 rfl rfl rfl rfl h1_x hB_c (by simp)) ?_
    rintro w_c ⟨_, hB_c, hkk_c⟩
    replace hk_c := hk_c.trans hkk_c (fun q hq h => by have h : q = c := h; omega)
    have hn_bg_c : bg ≠ c := by have := hB_bg.lt; omega
    have hn_rc_c : rc ≠ c := by have := hB_rc.lt; omega
    have hge_c : _ ≤ c := Nat.le_trans hE.size (Nat.le_of_eq hg_c.symm)
    replace hE := hE.ext hk_c
    replace hB_bg := hk_c.blk hB_bg (fun h => h)
    replace hB_rc := hk_c.blk hB_rc (fun h => h)
    replace hc_x := hk_c.cells hc_x (fun h => h)
    replace hk_x := hk_x.ext stable_tm hk_c
    have hzc := hz.ext hk_c
    have hWc := hzc.blk
    refine WO.nil (WX.next (WC.draw (fun q => Blk q c [.string x.name, .int .i64 x.low, .int .i64 x.high, .int .i64 x.term.op, .int .i64 x.term.n, .slice a1_x x.term.kids.length n1_x] 109 ∧ Blk q W [v1, .slice ah f.hatches.length ch, v3, .slice sa (preL f.body).length sc, .slice va f.vars.length vc, hvv, .map (some m), .slice none 0 0, .int .i64 0] 182) [19] (by kernel_rfl) (fun x2 xk2 _ => ?_)))
    have hz2 := hzc.ext xk2
    replace hE := hE.ext xk2
    replace hB_bg := xk2.blk hB_bg (fun h => h)
    replace hB_rc := xk2.blk hB_rc (fun h => h)
    replace hc_x := xk2.cells hc_x (fun h => h)
    replace hk_x := hk_x.ext stable_tm xk2
    replace hB_c := xk2.blk hB_c (fun h => h)
    refine WD.takeW 0 rfl (by kernel_rfl) rfl rfl rfl (fun w1 => R.move rfl) (WD.takeW 1 rfl (by kernel_rfl) rfl rfl rfl (fun w1 => R.move rfl) (WD.takeW 2 rfl (by kernel_rfl) rfl rfl rfl (fun w1 => R.nilCheck rfl) (WD.takeW 3 rfl (by kernel_rfl) rfl rfl rfl (fun w1 => R.fieldAddr Tryz.runUnderlying182 rfl Tryz.sizeOf50 rfl) (WD.take 4 rfl (by kernel_rfl) rfl rfl rfl ⟨hB_c, hz2.blk⟩ (fun w1 hw1 => R.load Tryz.isAgg50 rfl (hw1.2.cells 5 _ rfl)) (WD.takeW 5 rfl (by kernel_rfl) rfl rfl rfl (fun w1 => R.move rfl) (WD.takeW 6 rfl (by kernel_rfl) rfl rfl rfl (fun w1 => R.fieldAddr Tryz.runUnderlying109 rfl Tryz.sizeOf84 rfl) ?_))))))
    refine WD.take 7 rfl (by kernel_rfl) rfl rfl rfl ⟨hB_c, hz2.blk⟩ (fun w1 hw1 => R.loadK Tryz.isAgg84 Tryz.sizeOf84 rfl (by rfl) (hw1.1.cells.sub 3 3)) (WD.takeW 9 rfl (by kernel_rfl) rfl rfl rfl (fun w1 => R.fieldAddr Tryz.runUnderlying109 rfl Tryz.sizeOf3 rfl) (WD.take 10 rfl (by kernel_rfl) rfl rfl rfl ⟨hB_c, hz2.blk⟩ (fun w1 hw1 => R.load Tryz.isAgg3 rfl (hw1.1.cells 1 _ rfl)) (WD.takeW 12 rfl (by kernel_rfl) rfl rfl rfl (fun w1 => R.fieldAddr Tryz.runUnderlying109 rfl Tryz.sizeOf3 rfl) (WD.take 13 rfl (by kernel_rfl) rfl rfl rfl ⟨hB_c, hz2.blk⟩ (fun w1 hw1 => R.load Tryz.isAgg3 rfl (hw1.1.cells 2 _ rfl)) ?_))))
    refine WD.call 8 rfl (by kernel_rfl) rfl rfl rfl (F.call (vs := [_, _]) Tryz.call122 rfl) (wValue_ok hz2 V.good hV1 x.term hx1 hx2 hx3 _ _ (RTm.put hk_x)) ?_
    rintro _ x3 ⟨rfl, xk3⟩
    have hz3 := hz2.ext xk3
    replace hE := hE.ext xk3
    replace hB_bg := xk3.blk hB_bg (fun h => h)
    replace hB_rc := xk3.blk hB_rc (fun h => h)
    replace hc_x := xk3.cells hc_x (fun h => h)
    replace hk_x := hk_x.ext stable_tm xk3
    replace hB_c := xk3.blk hB_c (fun h => h)
    refine ⟨fun _ => ⟨hB_c, hz3.blk⟩, ?_⟩
    refine WD.takeW 11 rfl (by kernel_rfl) rfl rfl rfl (fun w1 => R.maxI rfl rfl) (WD.takeW 14 rfl (by kernel_rfl) rfl rfl rfl (fun w1 => R.minI rfl rfl) ?_)
    have hcl : min (max (valT vals x.term) x.low) x.high = clampI (valT vals x.term) x.low x.high := by
     unfold clampI
     (repeat' split); all_goals omega
    rw [hcl]
    refine WD.mem 15 rfl (by kernel_rfl) rfl rfl rfl (M.buildSlice (cs := [.int .i64 (clampI (valT vals x.term) x.low x.high)]) [(0, _)] Tryz.runUnderlying50 Tryz.sizeOf3 Tryz.zeroValue3 (by decide) rfl (by kernel_rfl)) ?_
    rintro _ x4 ⟨g4, rfl, hg4, hs4, hB4, xk4⟩
    have hz4 := hz3.ext xk4
    replace hE := hE.ext xk4
    replace hB_bg := xk4.blk hB_bg (fun h => h)
    replace hB_rc := xk4.blk hB_rc (fun h => h)
    replace hc_x := xk4.cells hc_x (fun h => h)
    replace hk_x := hk_x.ext stable_tm xk4
    replace hB_c := xk4.blk hB_c (fun h => h)
    refine ⟨fun _ => ⟨hB_c, hz4.blk⟩, ?_⟩
    have hho := hz4.hats
    have hhl : (hatV vals (f.hatches.take i)).length ≤ 8 := by unfold hatV; rw [List.length_map, List.length_take]; omega
    refine WD.mem 16 rfl (by kernel_rfl) rfl rfl rfl (M.append Tryz.underlying50 Tryz.el3 rfl (by decide) rfl rfl hho rfl (Cells.add hB4.cells) (by simp [Value.oneCell']) (by omega) (by omega)) ?_
    rintro hv' x5 ⟨ho5, hf5, xk5, _⟩
    have hnty : ∀ (k : Nat) (cs : List Value) (e : TypeId), Blk x4 k cs e → e ≠ 3 → hvv.ownBlock ≠ some k := fun k cs e hb he h => by
     obtain ⟨cs', hb'⟩ := own_blkty hho h
     exact he (hb.ty hb').1
    have yW := xk5.blk hz4.blk (hnty _ _ _ hz4.blk (by decide))
    have yc := xk5.blk hB_c (hnty _ _ _ hB_c (by decide))
    refine ⟨fun _ => ⟨yc, yW⟩, ?_⟩
    refine WD.takeW 17 rfl (by kernel_rfl) rfl rfl rfl (fun w1 => R.nilCheck rfl) (WD.takeW 18 rfl (by kernel_rfl) rfl rfl rfl (fun w1 => R.fieldAddr Tryz.runUnderlying182 rfl Tryz.sizeOf50 rfl) ?_)
    obtain ⟨ha', hc', rfl⟩ := own_form ho5
    refine WD.mem0 19 rfl (by kernel_rfl) rfl rfl (M.store Tryz.sizeOf50 rfl rfl rfl rfl yW (by simp)) ?_
    rintro x6 hw6
    refine ⟨fun h => absurd (by simp) h, ?_⟩
    have hz6 := hz4.hatsPush ho5 hf5 xk5 hw6 hD2n
    rw [← hatV_take he_x] at hz6
    have hK46 : Keep (fun q => hvv.ownBlock = some q ∨ q = W) x4 x6 := (Keep.mono xk5 (fun _ _ e => .inl e)).trans hw6.2.2 (fun _ _ e => .inr e)
    have hfin : ∀ (k : Nat) (cs : List Value) (e : TypeId), Blk x4 k cs e → e ≠ 3 → e ≠ 182 → Blk x6 k cs e := fun k cs e hb he he2 => hK46.blk hb (fun h => h.elim (hnty k cs e hb he) (fun h => he2 ((by rw [h] at hb; exact hb.ty hz4.blk : e = _ ∧ _).1)))
    have hE6 : Ext w x6 := hE.trans hK46 (fun q hq h => by
     rcases h with h | h
     · have := hhf q h; have := hszm; omega
     ·
      omega)
    refine WD.done (by kernel_rfl) ?_ _
    refine WX.blockN (WX.next (WC.region (WO.o rfl (R.add rfl rfl (wrap_i64_in (by omega))) (WO.mv rfl rfl (WO.nil (WX.back ((i + 1, .slice ha' ((hatV vals (f.hatches.take i)).length + 1) hc')) (Sub.of rfl) (⟨by omega, hz6, fun g hg => ?_, hfin _ _ _ hB_bg (by decide) (by decide), hfin _ _ _ hB_rc (by decide) (by decide), by have := hk_c.size; have := xk2.size; have := xk3.size; have := xk4.size; have := hK46.size; omega, hE6⟩) (by first | omega | (dsimp only; omega))))))))
    rcases hf5 with e | ⟨g', e, e'⟩
    · exact hhf g (by rw [← e]; exact hg)
    ·
     rw [e] at hg; cases hg
     have := hk_c.size; have := xk2.size; have := xk3.size; have := xk4.size; omega
   ·
    have hii : i = f.hatches.length := by omega
    subst hii
    rw [List.take_length] at hz
    obtain ⟨K, rd', hK8, hgo⟩ := V.walk (hatV vals f.hatches) ⟨vals, [], 0⟩
    have hhl : (hatV vals f.hatches).length = f.hatches.length := by unfold hatV; rw [List.length_map]
    generalize hhs : hatV vals f.hatches = hs at *
    have hlenG := cfgN_len f V.plain
    have hwlG := widL_le f.body
    have hszG := V.ssize
    refine WC.exit (WX.thenE (WX.thenE (WX.hit (WX.next (WC.seq (WC.region (WO.mem rfl rfl rfl (M.buildSlice (cs := [.int .i64 0]) [(0, _)] Tryz.runUnderlying50 Tryz.sizeOf3 Tryz.zeroValue3 (by decide) rfl (by kernel_rfl)) ?_)))))))
    rintro _ y1 ⟨gp, rfl, hgp, hsp, hBp, yk1⟩
    have hzp := hz.ext yk1
    replace hE := hE.ext yk1
    replace hB_bg := yk1.blk hB_bg (fun h => h)
    replace hB_rc := yk1.blk hB_rc (fun h => h)
    have hI0 : WalkI D2 f hs ⟨vals, [], 0⟩ w y1 0 W (.slice (some ⟨gp, 0, none⟩) 1 1) ⟨W, m, v1, .slice ah f.hatches.length ch, v3, .slice sa (preL f.body).length sc, .slice va f.vars.length vc, hvv, .slice none 0 0, []⟩ := by
     refine ⟨hzp, rfl, fun k => by simp [getM, lkm, iterM], ⟨hV0, by simp [iterM], by simp [iterM], fun k => by simp [iterM]⟩, ?_, fun g hg => ?_, ?_, hE⟩
     ·
      have := own_blk (k := 1) (n := 1) (cap := 1) hBp (Nat.le_refl _) (by decide) rfl
      exact this
     ·
      obtain rfl : gp = g := Option.some.inj hg
      have hlt : ∀ q, KW ⟨W, m, v1, .slice ah f.hatches.length ch, v3, .slice sa (preL f.body).length sc, .slice va f.vars.length vc, hvv, .slice none 0 0, []⟩ q → q < x1.heap.size := by
       rintro q (rfl | rfl | h | h)
       · exact hz.blk.lt
       · exact hz.map.lt
       · exact own_lt hz.vals h
       · exact own_lt hz.outs h
      refine ⟨fun h => by have := hlt _ h; omega, fun h => by have := own_lt hz.hats h; omega, fun h => by have := hz.low _ h; omega, ?_⟩
      have := hE.size; have := yk1.size; omega
     ·
      rintro g (rfl | rfl | h | h)
      · exact hWw
      · exact hmw
      · have := hfv g h; omega
      · exact absurd h (hnil g)
    refine WO.a rfl rfl (WO.nil (WX.next (WC.seq (WC.seq (WC.region ?_)))))
    refine WO.a rfl rfl (WO.nil (WX.next (WC.block ?_)))
    refine WC.loop (σ := Nat × Value × WkV) (fun ⟨j, vp, z⟩ => [(4, .pointer (some ⟨bg, 0, none⟩)), (7, .pointer (some ⟨rc, 0, none⟩)), (12, .pointer (some ⟨W, 0, none⟩)), (15, vp), (16, .int .i64 (iterM f hs (cfgN f) j ⟨0, ⟨vals, [], 0⟩, fun _ => 0⟩).at_)]) (fun ⟨j, vp, z⟩ => fun w' => j ≤ K ∧ WalkI D2 f hs ⟨vals, [], 0⟩ w w' j W vp z ∧ Blk w' bg [.slice ag (cfgN f).length cg] 31 ∧ Blk w' rc [.slice none 0 0, .int .i64 0] 64) (fun ⟨j, vp, z⟩ => K - j) ((0, .slice (some ⟨gp, 0, none⟩) 1 1, ⟨W, m, v1, .slice ah f.hatches.length ch, v3, .slice sa (preL f.body).length sc, .slice va f.vars.length vc, hvv, .slice none 0 0, []⟩)) (Sub.of rfl) (⟨Nat.zero_le _, hI0, hB_bg, hB_rc⟩) ?_
    rintro ⟨j, vp, z⟩ z1 ⟨hj, hI, hB_bg, hB_rc⟩
    show WC _ _ _ _ [(4, .pointer (some ⟨bg, 0, none⟩)), (7, .pointer (some ⟨rc, 0, none⟩)), (12, .pointer (some ⟨W, 0, none⟩)), (15, vp), (16, .int .i64 (iterM f hs (cfgN f) j ⟨0, ⟨vals, [], 0⟩, fun _ => 0⟩).at_)] _
    refine WC.seq (WC.seq (WC.region (WO.mv rfl rfl (WO.o rfl (R.fieldAddr Tryz.runUnderlying31 rfl Tryz.sizeOf29 rfl) (WO.o rfl (R.load Tryz.isAgg29 rfl (hB_bg.cells 0 _ rfl)) (WO.o rfl (R.lenS rfl Tryz.runUnderlying29 rfl) (WO.o rfl (R.sub rfl rfl (wrap_i64_in (by omega))) (WO.o rfl (R.lss rfl rfl) (WO.nil (WX.next ?_))))))))))
    obtain ⟨iSt, iW, iRd, iInv, iPath, iAp, iFar, iE⟩ := hI
    have hgw := hg0.ext stable_nd iE
    refine WC.ite rfl (fun hlt => ?_) (fun hge => ?_)
    ·
     have hjK : j < K := by
      rcases Nat.lt_or_ge j K with h | h
      · exact h
      ·
       exfalso
       have e : j = K := by omega
       rw [e, hgo.1] at hlt
       dsimp only at hlt
       omega
     have hat := (hgo.2 j hjK)
     obtain ⟨hget, hno⟩ := V.node hat.1 hat.2
     have hsucc := iterM_succ f hs (cfgN f) j ⟨0, ⟨vals, [], 0⟩, fun _ => 0⟩
     generalize hm : iterM f hs (cfgN f) j ⟨0, ⟨vals, [], 0⟩, fun _ => 0⟩ = m at *
     obtain ⟨bq, oq, cq, haq, _, hcq, rfl⟩ := hgw.at hget
     have hinv2 := stepM_inv (hs := hs) (g := cfgN f) V.good hno iInv
     rw [← hsucc] at hinv2
     have htime := iInv.time
     have houts := iInv.outs
     refine WC.skip (WX.next (WC.block (WC.seq (WC.region (WO.mv rfl rfl (WO.o rfl (R.fieldAddr Tryz.runUnderlying31 rfl Tryz.sizeOf29 rfl) (WO.o rfl (R.load Tryz.isAgg29 rfl (hB_bg.cells 0 _ rfl)) (WO.mv rfl rfl (WO.o rfl (R.indexS Tryz.runUnderlying29 Tryz.sizeOf40 rfl rfl haq (by omega)) (WO.o rfl (R.loadK Tryz.isAgg40 Tryz.sizeOf40 rfl (by rfl) hcq) ?_))))))))))
     have hpass := wPass_ok iSt V.good iInv.inv (ndAt (cfgN f) m.at_) (stAt f (ndAt (cfgN f) m.at_).at_) hno.kind (fun h => ⟨(hno.step h).1, (hno.step h).2.1, (hno.step h).2.2.1⟩) hhl (by omega) (by omega) m.rd iRd (fun _ => by have := iInv.rd (ndAt (cfgN f) m.at_).at_; omega)
     rw [iW] at hpass
     refine WO.call rfl rfl rfl (F.call (vs := [_, _]) Tryz.call123 rfl) hpass ?_
     rintro _ z2 ⟨rfl, z', hSt2, hM2, hRd2, hK2⟩
     have e1 : (passN f hs (ndAt (cfgN f) m.at_) (stAt f (ndAt (cfgN f) m.at_).at_) m.σ m.rd).1 = (iterM f hs (cfgN f) (j + 1) ⟨0, ⟨vals, [], 0⟩, fun _ => 0⟩).at_ := by rw [hsucc]; rfl
     have e2 : (passN f hs (ndAt (cfgN f) m.at_) (stAt f (ndAt (cfgN f) m.at_).at_) m.σ m.rd).2.1 = (iterM f hs (cfgN f) (j + 1) ⟨0, ⟨vals, [], 0⟩, fun _ => 0⟩).σ := by rw [hsucc]; rfl
     have e3 : (passN f hs (ndAt (cfgN f) m.at_) (stAt f (ndAt (cfgN f) m.at_).at_) m.σ m.rd).2.2 = (iterM f hs (cfgN f) (j + 1) ⟨0, ⟨vals, [], 0⟩, fun _ => 0⟩).rd := by rw [hsucc]; rfl
     rw [e2] at hSt2
     rw [e3] at hRd2
     rw [e1]
     have hBg2 := hK2.blk hB_bg (KW.ne86 iSt hB_bg (by decide) (by decide))
     have hBr2 := hK2.blk hB_rc (KW.ne86 iSt hB_rc (by decide) (by decide))
     have hP2 := own_keep iPath hK2 (fun g hg => (iAp g hg).1)
     have hE2 : Ext w z2 := Keep.trans iE hK2 (fun q hq h => by have := iFar q h; omega)
     have hKW' : ∀ q, KW z' q → KW z q ∨ z1.heap.size ≤ q := by
      rintro q (h | h | h | h)
      · exact .inl (.inl (by rw [h, hM2.W]))
      · exact .inl (.inr (.inl (by rw [h, hM2.m])))
      · exact .inl (.inr (.inr (.inl (by rw [← hM2.vv]; exact h))))
      ·
       rcases hM2.ov with e | ⟨g', e, e'⟩
       · exact .inl (.inr (.inr (.inr (by rw [← e]; exact h))))
       · rw [e] at h; cases h; exact .inr e'
     have hAp2 : ∀ g, vp.ownBlock = some g → ¬ KW z' g ∧ z'.hv.ownBlock ≠ some g ∧ ¬ D2 g ∧ w.heap.size ≤ g := fun g hg => by
      obtain ⟨q1, q2, q3, q4⟩ := iAp g hg
      refine ⟨fun h => ?_, by rw [hM2.hv]; exact q2, q3, q4⟩
      rcases hKW' g h with h | h
      · exact q1 h
      · have := own_lt iPath hg; omega
     have hFar2 : ∀ g, KW z' g → w.heap.size ≤ g := fun g hg => by
      rcases hKW' g hg with h | h
      · exact iFar g h
      · have := iE.size; omega
     refine WO.a rfl rfl (WO.nil (WX.next (WC.region ?_)))
     refine WO.mv rfl rfl (WO.mv rfl rfl (WO.mem rfl rfl rfl (M.buildSlice (cs := [.int .i64 (iterM f hs (cfgN f) (j + 1) ⟨0, ⟨vals, [], 0⟩, fun _ => 0⟩).at_]) [(0, _)] Tryz.runUnderlying50 Tryz.sizeOf3 Tryz.zeroValue3 (by decide) rfl (by kernel_rfl)) ?_))
     rintro _ z3 ⟨g3, rfl, hg3, hs3, hB3, hk3⟩
     have hP3 := own_keep hP2 hk3 (fun _ _ h => h)
     refine WO.mem rfl rfl rfl (M.append Tryz.underlying50 Tryz.el3 rfl (by decide) rfl rfl hP3 rfl (Cells.add hB3.cells) (by simp [Value.oneCell']) (by omega) (by omega)) ?_
     rintro vp' z4 ⟨ho4, hf4, hk4, _⟩
     have hSt3 := hSt2.ext hk3
     have hSt4 := hSt3.keepP hk4 (fun q hq h => (hAp2 q h).1 hq) (fun q hq h => (hAp2 q h).2.2.1 hq) (fun g hg h => (hAp2 g h).2.1 hg)
     have hE4 : Ext w z4 := Keep.trans (hE2.ext hk3) hk4 (fun q hq h => by have := (hAp2 q h).2.2.2; omega)
     have hnp : ∀ (k : Nat) (cs : List Value) (e : TypeId), Blk z3 k cs e → e ≠ 3 → vp.ownBlock ≠ some k := fun k cs e hb he h => by
      obtain ⟨cs', hb'⟩ := own_blkty hP3 h
      exact he (hb.ty hb').1
     have hBg3 := hk3.blk hBg2 (fun h => h)
     have hBr3 := hk3.blk hBr2 (fun h => h)
     refine WO.a rfl rfl (WO.nil (WX.blockN ?_))
     refine WX.back ((j + 1, vp', z')) (Sub.of rfl) (⟨by omega, ⟨hSt4, by rw [hM2.W]; exact iW, hRd2, hinv2, ?_, ?_, hFar2, hE4⟩, hk4.blk hBg3 (hnp _ _ _ hBg3 (by decide)), hk4.blk hBr3 (hnp _ _ _ hBr3 (by decide))⟩) (by first | omega | (dsimp only; omega))
     ·
      rw [List.range_succ, List.map_append, List.map_append]
      exact ho4
     ·
      intro g hg
      rcases hf4 with e | ⟨g', e, e'⟩
      · exact hAp2 g (by rw [← e]; exact hg)
      ·
       rw [e] at hg; cases hg
       have hlt : ∀ q, KW z' q → q < z3.heap.size := by
        rintro q (rfl | rfl | h | h)
        · exact hSt3.blk.lt
        · exact hSt3.map.lt
        · exact own_lt hSt3.vals h
        · exact own_lt hSt3.outs h
       refine ⟨fun h => by have := hlt _ h; omega, fun h => by have := own_lt hSt3.hats h; omega, fun h => by have := hSt3.low _ h; omega, ?_⟩
       have := (hE2.ext hk3).size; omega
    ·
     have hjK : j = K := by
      rcases Nat.lt_or_ge j K with h | h
      · have := (hgo.2 j h).2; omega
      · omega
     subst hjK
     have hfin := hgo.1
     rw [hfin] at iSt
     have hWb := iSt.blk
     rw [iW] at hWb
     dsimp only at hWb
     obtain ⟨oa, oc, hoa, _⟩ := own_slice iSt.outs
     rw [hoa] at hWb
     refine WC.exit (WX.thenE (WX.thenE (WX.hit (WX.next (WC.seq (WC.draw (fun q => Ext z1 q) [6] (by kernel_rfl) (fun z2 hz2 _ => ?_)))))))
     refine WD.takeW 0 rfl (by kernel_rfl) rfl rfl rfl (fun w1 => R.move rfl) (WD.takeW 1 rfl (by kernel_rfl) rfl rfl rfl (fun w1 => R.move rfl) (WD.takeW 2 rfl (by kernel_rfl) rfl rfl rfl (fun w1 => R.nilCheck rfl) (WD.takeW 3 rfl (by kernel_rfl) rfl rfl rfl (fun w1 => R.fieldAddr Tryz.runUnderlying182 rfl Tryz.sizeOf64 rfl) (WD.take 4 rfl (by kernel_rfl) rfl rfl rfl hz2 (fun w1 hw1 => R.loadK Tryz.isAgg64 Tryz.sizeOf64 rfl (by rfl) ((hw1.blk hWb (fun h => h)).cells.sub 7 2)) (WD.takeW 5 rfl (by kernel_rfl) rfl rfl rfl (fun w1 => R.assign rfl) (WD.mem0 6 rfl (by kernel_rfl) rfl rfl (M.storeK Tryz.sizeOf64 rfl rfl rfl rfl (by simp [Value.oneCell']) (hz2.blk hB_rc (fun h => h)) (by simp)) ?_))))))
     rintro z3 ⟨_, hBf, hkf⟩
     refine ⟨fun h => absurd (by simp) h, ?_⟩
     refine WD.takeW 7 rfl (by kernel_rfl) rfl rfl rfl (fun w1 => R.assign rfl) (WD.done (by kernel_rfl) ?_ _)
     refine WX.next (WC.ret (WX.retTCT Tryz.results73 rfl rfl (run_loadK Tryz.isAgg64 Tryz.sizeOf64 rfl hBf.cells) rfl ?_))
     have hKf : Keep (fun q => q = rc) z1 z3 := Keep.trans (Keep.mono hz2 (fun _ _ h => h.elim)) hkf (fun _ _ h => h)
     have hrcl : w.heap.size ≤ rc := by omega
     have ho1 := own_keep iPath hKf (fun g hg h => by
      obtain ⟨cs', hb'⟩ := own_blkty iPath hg
      exact absurd h (hb'.ne hB_rc (by decide)))
     have ho2 := own_keep iSt.outs hKf (fun g hg h => by
      obtain ⟨cs', hb'⟩ := own_blkty iSt.outs hg
      exact absurd h (hb'.ne hB_rc (by decide)))
     have hlo : ∀ g, z.ov.ownBlock = some g → w.heap.size ≤ g := fun g hg => iFar g (.inr (.inr (.inr hg)))
     rw [hoa] at ho2 hlo
     refine ⟨_, rfl, ⟨_, _, _, _, rfl, by rw [hne, hs0], fun h => absurd rfl h, fun _ => ⟨j, rd', hgo, ?_, ?_, rfl⟩⟩, iE.trans hKf (fun q hq h => by have h : q = rc := h; omega)⟩
     · exact SlR.ofRow1 encI1 (fun x _ => rfl) ho1 (fun g hg => (iAp g hg).2.2.2)
     · exact SlR.ofRow1 encI1 (fun x _ => rfl) ho2 hlo
end Go.Proofs.YtldhllpogdikdaaGreat
