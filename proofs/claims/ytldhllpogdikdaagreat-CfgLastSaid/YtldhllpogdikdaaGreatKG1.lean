/-
  Contracts and the mathematics that the proof needs. Nothing here is a claim.
-/
import Derived.Test.YtldhllpogdikdaaGreatKF5
import Derived.WalkKit
import Derived.Deep.Quiet
import Derived.Deep.LoopGhost
import Derived.Below
import Derived.OrdersHeld
import Derived.KernelRfl
import Derived.WalkSpells
import Derived.ChangeKeysEq
import Derived.Lib.SliceRun
import Derived.Test.YtldhllpogdikdaaGreatRows
import Derived.ProofKit
import Derived.OpenShut
import Derived.ReadAgain
import Derived.ChangeBears
import Derived.Laws.Strings
import Derived.Test.YtldhllpogdikdaaGreatProg
import Derived.Maps.RangeRun
import Derived.MapKept
import Derived.Shelf.Sort.Plain
import Derived.Ground.Names2Prog
import Derived.Shelf.Slices.In.SortNone
namespace Go.GL
section
variable {P : Program} {env : Env} {w : World} {dst : Option Tmp} {ty : TypeId} {pos : String} {aft : Array Edge} {g : Option (Nat × Bool)}
theorem R.sliceLH {t e : TypeId} {k : Nat} {x lo hi : Operand} {ao : Option Addr} {l c : Nat} {kd kh : IntKind} {i j : Int} (hu : ∀ w, (underlying t).run P w = .ok (.slice e) w) (hs : ∀ w, (sizeOf e).run P w = .ok k w) (hx : ev env x = some (.slice ao l c)) (hy : ev env lo = some (.int kd i)) (hz : ev env hi = some (.int kh j)) (h0 : 0 ≤ i ∧ i ≤ j) (h1 : j ≤ c) :
  Runs P ⟨dst, .slice t x (some lo) (some hi) none, ty, pos, aft, g⟩ env w (.slice (if c = i.toNat then ao else ao.map (·.add (i.toNat * k))) (j.toNat - i.toNat) (c - i.toNat)) w := by
 intro n a ha
 have h2 : 0 ≤ j := by omega
 have h3 : ¬ max j 0 < i := by omega
 simp [execOp, ha.eval hx, ha.eval hy, ha.eval hz, Instr.sliceAt, Instr.slice, Instr.sliceBounds, Instr.sliceBound, asIntOf, hu, hs, h0, h1, h2]
 exact fun h => absurd h h3
end
section
variable {P : Program} {n : Nat} {ops : Array Oper} {Q : Exit → Act → World → Prop} {S : World → Prop} {L : List Nat} {env : Env} {w : World} {fuel : Nat} {listed : Array Bool} {v : Value} {o : Oper}
theorem WD.mem2 (i j : Nat) {oj : Oper} {d dj : Nat} {R Rj : Value → World → Prop} (hi : ops[i]? = some o) (hj : ops[j]? = some oj) (hr : Region.ready .any ops listed = [i, j]) (hg : o.guard = none) (hd : o.dst = some d) (hn : Nat.blt d n = true) (hgj : oj.guard = none) (hdj : oj.dst = some dj) (hnj : Nat.blt dj n = true)
  (hm : (∃ v w', Runs P o env w v w' ∧ R v w') ∨ ∃ f args, RunsF P o env w f args ∧ Calls P f args w (fun e w' => ∃ v, e = .returned v ∧ R v w'))
  (hmj : (∃ v w', Runs P oj env w v w' ∧ Rj v w') ∨ ∃ f args, RunsF P oj env w f args ∧ Calls P f args w (fun e w' => ∃ v, e = .returned v ∧ Rj v w'))
  (h : ∀ v w', R v w' → (i ∉ L → S w') ∧ WD P n ops Q S L fuel (listed.setIfInBounds i true) ((d, v) :: env) w')
  (h' : ∀ v w', Rj v w' → (j ∉ L → S w') ∧ WD P n ops Q S L fuel (listed.setIfInBounds j true) ((dj, v) :: env) w') : WD P n ops Q S L (fuel + 1) listed env w := by
 intro a ha
 refine ⟨fun h0 => (by rw [hr] at h0; cases h0), fun k hk => ?_⟩
 rw [hr] at hk
 have key : ∀ (q : Nat) (oq : Oper) (dq : Nat) (Rq : Value → World → Prop), ops[q]? = some oq → oq.guard = none → oq.dst = some dq → Nat.blt dq n = true →
   ((∃ v w', Runs P oq env w v w' ∧ Rq v w') ∨ ∃ f args, RunsF P oq env w f args ∧ Calls P f args w (fun e w' => ∃ v, e = .returned v ∧ Rq v w')) →
   (∀ v w', Rq v w' → (q ∉ L → S w') ∧ WD P n ops Q S L fuel (listed.setIfInBounds q true) ((dq, v) :: env) w') →
   wpOp P ops (NQ Q) q (fun a' w' => (q ∉ L → S w → S w') ∧ wpAnyC P .any ops (NQ Q) S L fuel (listed.setIfInBounds q true) a' w') a w := by
  intro q oq dq Rq h1 h2 h3 h4 h5 h6
  refine mk_wpOp h1 h2 ?_
  unfold Oper.wp
  rcases h5 with ⟨v, w', hrun, hR⟩ | ⟨f, args, hm, hc⟩
  ·
   rw [hrun n a ha, Oper.upon_value, h3]
   exact ⟨fun h0 _ => (h6 v w' hR).1 h0, (h6 v w' hR).2 _ (ha.put h4)⟩
  ·
   rw [hm n a ha, Oper.upon_enter]
   refine hc.mono ?_
   rintro e w' ⟨v, rfl, hR⟩
   simp only [h3]
   exact ⟨fun h0 _ => (h6 v w' hR).1 h0, (h6 v w' hR).2 _ (ha.put h4)⟩
 simp only [List.mem_cons, List.not_mem_nil, or_false] at hk
 rcases hk with rfl | rfl
 · exact key k o d R hi hg hd hn hm h
 · exact key k oj dj Rj hj hgj hdj hnj hmj h'
end
theorem pickH_has {H : Hp} : ∀ {ks : List Nat} {H' : Hp}, pickH H ks = some H' → Has H' H
 | [], H', h => by cases h; exact Has.nil
 | k :: r, H', h => by
  unfold pickH at h
  split at h
  ·
   rename_i v hv; split at h
   · rename_i l hl; cases h; exact Has.cons hv (pickH_has hl)
   · cases h
  · cases h
section
variable {P : Program} {T : Tab} {Z : Szs} {n : Nat} {Q : Exit → Act → World → Prop} {ks : List Fr} {pos : Pos} {env : Env} {A : Tgs} {H : Hp} {Bs : Bases} {ops : Array Oper} {v : Value}
theorem V.drawK {id : Nat} {l : List Oper} (hs L : List Nat) {Hs : Hp} (hm : P.follows .mixedOrders = true) (hp : pickH H hs = some Hs) (h : VD P n Q ks l.toArray Hs Bs L l.length (Array.replicate l.length false) env A H Bs) : V P n Q ks (.c (.region id l.toArray true)) env A H Bs := V.draw Hs L hm (pickH_has hp) h
end
end Go.GL
namespace Go.Proofs.YtldhllpogdikdaaGreat
open Go.GL
section
variable {n : Nat} {Q : Exit → Act → World → Prop} {ks ks' : List Fr} {pos pos' : Pos} {env env' : Env} {A A' : Tgs} {H H' Hs : Hp} {Bs B0 : Bases} {ops : Array Oper} {L : List Nat} {fuel : Nat} {listed : Array Bool} {v : Value}
theorem Vw {id : Nat} {l : List Oper} (hs L : List Nat) (hp : pickH H hs = some Hs) (h : VD Tryz.prog n Q ks l.toArray Hs Bs L l.length (Array.replicate l.length false) env A H Bs) : V Tryz.prog n Q ks (.c (.region id l.toArray true)) env A H Bs := V.drawK hs L Tryz.mixed hp h
theorem Vd (is : List Nat) (j : Nat) (hc : dchkV ops L is listed = true) (hB : Bs.drop j = B0) (hv : dpvV Tryz.tab Tryz.szs n ops Hs is none env A = some (none, env', A')) (hH0 : uniq (Hs.map (·.1)) = true) (h : VD Tryz.prog n Q ks ops Hs B0 L fuel (dset is listed) env' A' H Bs) : VD Tryz.prog n Q ks ops Hs B0 L (addN is fuel) listed env A H Bs := VD.ps Tryz.tabOk Tryz.szsOk is j hc hB hv hH0 h
end
open Go.GL
def defN (f : Fl) (x : Nd) : Int := if asgB f x then (stAt f x.at_).var else -1
theorem defines_ok (f : Fl) (g : List Nd) (i : Nat) (x : Nd) (v1 v2 v3 gv : Value) (D Dg : Nat → Prop) (w : World) (hf : RFl D w f v1 v2 v3) (hg : SlR 4 RNd Dg w gv g) (hx : g[i]? = some x) (hat : x.kind = 2 → 0 ≤ x.at_ ∧ x.at_ < (preL f.body).length) (hsz : ssize f.body ≤ 10000) :
  Calls Tryz.prog 35 #[.agg #[v1, v2, v3], .agg #[gv], .int .i64 i] w (Ret fun r w' => r = .int .i64 (defN f x) ∧ Ext w w') := by
 have hE := Keep.refl (fun _ => False) w
 obtain ⟨ag, cg, rfl⟩ := hg.form
 have hgmx := hg.max
 have hig := (List.getElem?_eq_some_iff.1 hx).1
 obtain ⟨xb, xo, xc, hxa, _, hxc, rfl⟩ := hg.at hx
 refine G.in3 Tryz.func35 rfl Tryz.ntmps35 rfl (Gs 2 rfl (G.mem rfl rfl (M.box rfl rfl) ?_))
 rintro _ w_b ⟨b, rfl, hg_b, hs_b, hB_b, hk_b⟩
 have hge_b : _ ≤ b := Nat.le_trans hE.size (Nat.le_of_eq hg_b.symm)
 obtain ⟨hE, hf, hxc⟩ := Tr3 hk_b hE hf hxc
 refine G.mem rfl rfl (M.box rfl rfl) ?_
 rintro _ w_bg ⟨bg, rfl, hg_bg, hs_bg, hB_bg, hk_bg⟩
 have hn_b_bg : b ≠ bg := by have := hB_b.lt; omega
 have hge_bg : _ ≤ bg := Nat.le_trans hE.size (Nat.le_of_eq hg_bg.symm)
 obtain ⟨hE, hf, hxc, hB_b⟩ := Tr4 hk_bg hE hf hxc hB_b
 refine Gs 7 rfl (G.ld rfl Tryz.isAgg29 (hB_bg.cells 0 _ rfl) (Gs 1 rfl (G.ops1 rfl rfl (R.indexS Tryz.runUnderlying29 Tryz.sizeOf40 rfl rfl hxa (by omega)) (Gs 1 rfl (G.ld rfl Tryz.isAgg38 (hxc 0 _ rfl) (Gs 3 rfl (G.ite rfl (fun k2 => ?_) (fun k2 => ?_))))))))
 ·
  refine Gs 7 rfl ?_
  have ha : asgB f x = false := by unfold asgB; simp [k2]
  refine G.ret1 Tryz.results35 rfl ⟨_, rfl, by rw [defN, ha]; rfl, hE⟩
 ·
  have k2' : x.kind = 2 := by omega
  obtain ⟨s, hs1⟩ : ∃ s, (preL f.body)[x.at_.toNat]? = some s := ⟨_, List.getElem?_eq_getElem (by have := hat k2'; omega)⟩
  have hst : stAt f x.at_ = s := by unfold stAt; rw [hs1]; rfl
  have hatx := hat k2'
  refine Gs 3 rfl (Dw (fun q => Ext w_bg q) [13] (fun wd1 hD _ => ?_))
  refine Ds [0] (by kernel_rfl) rfl (WD.take 1 rfl (by kernel_rfl) rfl rfl rfl hD (fun w1 hw1 => R.load Tryz.isAgg24 rfl ((hw1.blk hB_b (fun h => h)).cells 2 _ rfl)) (Ds [2] (by kernel_rfl) rfl (WD.take 3 rfl (by kernel_rfl) rfl rfl rfl hD (fun w1 hw1 => R.load Tryz.isAgg29 rfl ((hw1.blk hB_bg (fun h => h)).cells 0 _ rfl)) (Ds [4] (by kernel_rfl) rfl (WD.takeW 5 rfl (by kernel_rfl) rfl rfl rfl (fun w1 => R.indexS Tryz.runUnderlying29 Tryz.sizeOf40 rfl rfl hxa (by omega)) (Ds [6] (by kernel_rfl) rfl (WD.take 7 rfl (by kernel_rfl) rfl rfl rfl hD (fun w1 hw1 => R.load Tryz.isAgg3 rfl (hw1.cells hxc (fun h => h) 1 _ rfl)) ?_)))))))
  obtain ⟨k, hk⟩ : ∃ k : Nat, x.at_ = k := ⟨x.at_.toNat, by omega⟩
  rw [hk]
  rw [hk, Int.toNat_natCast] at hs1
  refine WD.mem2 (R := fun v w' => (∃ cs : List Value, v = .tuple #[.agg cs.toArray, .bool true] ∧ cs.length = 10 ∧ RSt D w' s cs) ∧ Ext wd1 w') (Rj := fun v w' => ∃ b, v = .pointer (some ⟨b, 0, none⟩) ∧ New wd1 [.int .i64 0, .int .i64 0, .int .i64 0, .int .i64 0, .int .i64 0, .int .i64 0, .slice none 0 0, .slice none 0 0, .slice none 0 0, .slice none 0 0] 86 b w') 8 12 rfl rfl (by kernel_rfl) rfl rfl rfl rfl rfl rfl (.inr ⟨_, _, F.call (vs := [_, _]) Tryz.call44 rfl, find_ok f.body _ D wd1 k s (hf.ext hD).body hs1 hsz⟩) (.inl (M.alloc Tryz.zeroValue86 rfl)) ?_ ?_
  ·
   rintro _ w2 ⟨⟨cs, rfl, hcl, hcs⟩, hk2⟩
   refine ⟨fun _ => hD.ext hk2, ?_⟩
   replace hD := hD.ext hk2
   refine Ds [9, 10, 11] (by kernel_rfl) rfl (WD.mem 12 rfl (by kernel_rfl) rfl rfl rfl (M.alloc (cs := [.int .i64 0, .int .i64 0, .int .i64 0, .int .i64 0, .int .i64 0, .int .i64 0, .slice none 0 0, .slice none 0 0, .slice none 0 0, .slice none 0 0]) Tryz.zeroValue86 rfl) ?_)
   rintro _ w3 ⟨m, rfl, hN⟩
   refine ⟨fun _ => hD.ext hN.2.2.2, ?_⟩
   have hD0 := hD
   replace hD := hD.ext hN.2.2.2
   have hBm := hN.2.2.1
   have hm0 : w.heap.size ≤ m := by have := hE.size; have := hD0.size; have := hN.1; omega
   obtain ⟨y1, y2, y3, y4, rfl, _⟩ := hcs.get
   have hcs1 := hcs.one
   refine WD.mem0 13 rfl (by kernel_rfl) rfl rfl (M.storeK Tryz.sizeOf86 rfl rfl rfl rfl hcs1 hBm (by simp)) ?_
   rintro w5 ⟨_, hB5, hk5⟩
   have hEE : Ext w w5 := (hE.ext hD).trans hk5 (fun q hq (h : q = m) => by have := hE.size; have := hN.1; have := hm0; omega)
   refine ⟨fun h => absurd (by simp) h, ?_⟩
   refine Ds [14] (by kernel_rfl) rfl (G.done (by kernel_rfl) ?_ _)
   refine Gs 5 rfl (G.ld rfl Tryz.isAgg80 (hB5.cells 0 _ rfl) (Gs 2 rfl (G.sp 31 rfl (fun a0 => ?_) (fun a0 => ?_))))
   ·
    refine Gs 10 rfl (G.ld rfl Tryz.isAgg3 (hB5.cells 2 _ rfl) (Gs 5 rfl ?_))
    have ha : asgB f x = true := by unfold asgB; simp [k2', hst, a0]
    refine G.ret1 Tryz.results35 rfl ⟨_, rfl, by rw [defN, ha, hst]; rfl, hEE⟩
   ·
    refine Gs 1 rfl (G.ld rfl Tryz.isAgg80 (hB5.cells 0 _ rfl) (Gs 4 rfl (G.ite rfl (fun a5 => ?_) (fun a5 => ?_))))
    ·
     refine Gs 3 rfl (G.ld rfl Tryz.isAgg3 (hB5.cells 2 _ rfl) (Gs 5 rfl ?_))
     have ha : asgB f x = true := by unfold asgB; simp [k2', hst, a5]
     refine G.ret1 Tryz.results35 rfl ⟨_, rfl, by rw [defN, ha, hst]; rfl, hEE⟩
    ·
     refine Gs 8 rfl ?_
     have ha : asgB f x = false := by unfold asgB; simp [hst, a0, a5]
     refine G.ret1 Tryz.results35 rfl ⟨_, rfl, by rw [defN, ha]; rfl, hEE⟩
  ·
   rintro _ w2 ⟨m, rfl, hN⟩
   refine ⟨fun _ => hD.ext hN.2.2.2, ?_⟩
   have hD0 := hD
   replace hD := hD.ext hN.2.2.2
   have hBm := hN.2.2.1
   have hm0 : w.heap.size ≤ m := by have := hE.size; have := hD0.size; have := hN.1; omega
   refine WD.call 8 rfl (by kernel_rfl) rfl rfl rfl (F.call (vs := [_, _]) Tryz.call44 rfl) (find_ok f.body _ D _ k s (hf.ext hD).body hs1 hsz) ?_
   rintro _ w3 ⟨⟨cs, rfl, hcl, hcs⟩, hk3⟩
   refine ⟨fun _ => hD.ext hk3, ?_⟩
   replace hD := hD.ext hk3
   have hBm3 := hk3.blk hBm (fun h => h)
   obtain ⟨y1, y2, y3, y4, rfl, _⟩ := hcs.get
   have hcs1 := hcs.one
   refine Ds [9, 10, 11] (by kernel_rfl) rfl (WD.mem0 13 rfl (by kernel_rfl) rfl rfl (M.storeK Tryz.sizeOf86 rfl rfl rfl rfl hcs1 hBm3 (by simp)) ?_)
   rintro w5 ⟨_, hB5, hk5⟩
   have hEE : Ext w w5 := (hE.ext hD).trans hk5 (fun q hq (h : q = m) => by have := hE.size; have := hN.1; have := hm0; omega)
   refine ⟨fun h => absurd (by simp) h, ?_⟩
   refine Ds [14] (by kernel_rfl) rfl (G.done (by kernel_rfl) ?_ _)
   refine Gs 5 rfl (G.ld rfl Tryz.isAgg80 (hB5.cells 0 _ rfl) (Gs 2 rfl (G.sp 31 rfl (fun a0 => ?_) (fun a0 => ?_))))
   ·
    refine Gs 10 rfl (G.ld rfl Tryz.isAgg3 (hB5.cells 2 _ rfl) (Gs 5 rfl ?_))
    have ha : asgB f x = true := by unfold asgB; simp [k2', hst, a0]
    refine G.ret1 Tryz.results35 rfl ⟨_, rfl, by rw [defN, ha, hst]; rfl, hEE⟩
   ·
    refine Gs 1 rfl (G.ld rfl Tryz.isAgg80 (hB5.cells 0 _ rfl) (Gs 4 rfl (G.ite rfl (fun a5 => ?_) (fun a5 => ?_))))
    ·
     refine Gs 3 rfl (G.ld rfl Tryz.isAgg3 (hB5.cells 2 _ rfl) (Gs 5 rfl ?_))
     have ha : asgB f x = true := by unfold asgB; simp [k2', hst, a5]
     refine G.ret1 Tryz.results35 rfl ⟨_, rfl, by rw [defN, ha, hst]; rfl, hEE⟩
    ·
     refine Gs 8 rfl ?_
     have ha : asgB f x = false := by unfold asgB; simp [hst, a0, a5]
     refine G.ret1 Tryz.results35 rfl ⟨_, rfl, by rw [defN, ha]; rfl, hEE⟩
theorem width_ok (l : List St) : ∀ (v : Value) (D : Nat → Prop) (w : World), SlR 10 RSt D w v l → ssize l ≤ 1000000 → Calls Tryz.prog 68 #[v] w (Ret fun r w' => r = .int .i64 (widL l) ∧ Ext w w') := by
 induction l using Sts.ind with
 | h l ih =>
 intro v D w hl hsz
 have hlen := slen_ssize l
 obtain ⟨ao, cap, rfl⟩ := hl.form
 refine G.in1 Tryz.func68 rfl Tryz.ntmps68 rfl (Gs 19 rfl (G.loop (σ := Nat) (fun i => [(3, .int .i64 (widL (l.take i))), (6, .slice ao l.length cap), (7, .int .i64 l.length), (8, .int .i64 i)]) (fun i => fun w' => i ≤ l.length ∧ Ext w w') (fun i => l.length - i) (0) (Sub.of rfl) (⟨Nat.zero_le _, Keep.refl _ _⟩) ?_))
 rintro i w1 ⟨hi, hL1⟩
 replace hl := Tr1 hL1 hl
 refine Gs 6 rfl (G.ite rfl (fun hlt => ?_) (fun hge => ?_))
 ·
  obtain ⟨s, he_s⟩ : ∃ x, l[i]? = some x := ⟨_, List.getElem?_eq_getElem (by omega)⟩
  have hm_s := List.mem_of_getElem? he_s
  obtain ⟨b_s, o_s, c_s, ha_s, _, hc_s, hR_s⟩ := hl.at he_s
  have h1_s := RSt.one hR_s
  obtain ⟨v1_s, v2_s, v3_s, v4_s, rfl, hk_s, ht_s, hs_s, hb_s⟩ := hR_s.get
  obtain ⟨a1_s, n1_s, rfl⟩ := hk_s.form
  obtain ⟨a2_s, n2_s, rfl⟩ := ht_s.form
  obtain ⟨a3_s, n3_s, rfl⟩ := hs_s.form
  obtain ⟨a4_s, n4_s, rfl⟩ := hb_s.form
  have hlt_s : b_s < _ := World.block_lt_of_cell? _ _ (hc_s 0 _ rfl)
  have hsp := ssize_split he_s
  have hse := s.size_eq
  have hwe := s.wid_eq
  have hwt := widL_take he_s
  have hw0 := widL_le l
  have hw1' := widL_split he_s
  have hw2 := widL_le s.thn
  have hw3 := widL_le s.els
  have hE := Keep.refl (fun _ => False) w1
  refine Gs 6 rfl (G.ops1 rfl rfl (R.indexS Tryz.runUnderlying24 Tryz.sizeOf86 rfl rfl ha_s (by omega)) (G.ldK rfl Tryz.isAgg86 Tryz.sizeOf86 hc_s rfl (G.mem rfl rfl (M.alloc (cs := _) Tryz.zeroValue86 rfl) ?_)))
  rintro _ wa1 ⟨b, rfl, hg_b, hs_b, hB_b, hk_b⟩
  refine G.mem0 rfl (M.storeK Tryz.sizeOf86 rfl rfl rfl rfl h1_s hB_b (by simp)) ?_
  rintro w_b ⟨_, hB_b, hkk_b⟩
  replace hk_b := hk_b.trans hkk_b (fun q hq h => by have h : q = b := h; omega)
  have hge_b : _ ≤ b := Nat.le_trans hE.size (Nat.le_of_eq hg_b.symm)
  obtain ⟨hl, hL1, hc_s, hk_s, ht_s, hs_s, hb_s⟩ := Tr7 hk_b hl hL1 hc_s hk_s ht_s hs_s hb_s
  replace hE := Tr1 hk_b hE
  refine Gs 3 rfl (Dw (fun q => Ext w_b q) [] (fun wd2 hD _ => ?_))
  refine Ds [0, 1] (by kernel_rfl) rfl (WD.take 2 rfl (by kernel_rfl) rfl rfl rfl hD (fun w1 hw1 => R.load Tryz.isAgg24 rfl ((hw1.blk hB_b (fun h => h)).cells 7 _ rfl)) (Ds [5] (by kernel_rfl) rfl (WD.take 6 rfl (by kernel_rfl) rfl rfl rfl hD (fun w1 hw1 => R.load Tryz.isAgg24 rfl ((hw1.blk hB_b (fun h => h)).cells 8 _ rfl)) (WD.call 3 rfl (by kernel_rfl) rfl rfl rfl (F.call (vs := [_]) Tryz.call68 rfl) ((ih s hm_s).1 _ D _ (ht_s.ext stable_st hD) (by omega)) ?_))))
  rintro _ wz3 ⟨rfl, hz3⟩
  replace hD := hD.ext hz3
  refine ⟨fun _ => hD, ?_⟩
  refine Da [4] (by kernel_rfl) rfl (by omega) (WD.call 7 rfl (by kernel_rfl) rfl rfl rfl (F.call (vs := [_]) Tryz.call68 rfl) ((ih s hm_s).2 _ D _ (hs_s.ext stable_st hD) (by omega)) ?_)
  rintro _ wz4 ⟨rfl, hz4⟩
  replace hD := hD.ext hz4
  refine ⟨fun _ => hD, ?_⟩
  refine Da [8, 9, 10] (by kernel_rfl) rfl (by omega) (G.done (by kernel_rfl) ?_ _)
  obtain ⟨hl, hL1, hc_s, hk_s, ht_s, hs_s, hb_s⟩ := Tr7 hD hl hL1 hc_s hk_s ht_s hs_s hb_s
  obtain ⟨hE, hB_b⟩ := Tr2 hD hE hB_b
  refine Gs 4 rfl (G.ld rfl Tryz.isAgg80 (hB_b.cells 0 _ rfl) (Gs 3 rfl (G.ite rfl (fun h4 => ?_) (fun h4 => ?_))))
  ·
   rw [if_pos h4] at hwe
   refine Ga 11 rfl (by omega) (G.back (i + 1) (Sub.cons (slotI rfl (by rw [hwt]; omega)) (Sub.of rfl)) (⟨by omega, hL1⟩) (by first | omega | (dsimp only; omega)))
  ·
   rw [if_neg h4] at hwe
   refine Ga 7 rfl (by omega) (G.back (i + 1) (Sub.cons (slotI rfl (by rw [hwt]; omega)) (Sub.of rfl)) (⟨by omega, hL1⟩) (by first | omega | (dsimp only; omega)))
 ·
  have : i = l.length := by omega
  subst this
  refine Gs 12 rfl (G.ret1 Tryz.results68 rfl ⟨_, rfl, by rw [List.take_length], hL1⟩)
theorem SlR.mid {α : Type} {k : Nat} {R : Rel α} {D : Nat → Prop} {w : World} {ao : Option Addr} {n c i : Nat} {l : List α} {x : α} (h : SlR k R D w (.slice ao n c) l) (hx : l[i]? = some x) : SlR k R D w (.slice (if c = (i : Int).toNat then ao else ao.map (·.add ((i : Int).toNat * k))) (((i : Int) + 1).toNat - (i : Int).toNat) (c - (i : Int).toNat)) [x] := by
 have hi := (List.getElem?_eq_some_iff.1 hx).1
 have h1 := (h.drop i (by omega)).take 1 (by rw [List.length_drop]; omega)
 rw [drop_cons hx] at h1
 rw [Int.toNat_natCast, show ((i : Int) + 1).toNat - i = 1 by omega]
 exact h1
theorem app_ext {w w1 w2 : World} {vo vo' : Value} {n : Nat} {xs : List Value} (hE : Ext w w1) (hf : ∀ g, vo.ownBlock = some g → w.heap.size ≤ g) (hk : Keep (fun k => vo.ownBlock = some k) w1 w2) (hfr : vo'.ownBlock = vo.ownBlock ∨ ∃ g, vo'.ownBlock = some g ∧ w1.heap.size ≤ g) (_ : w1.ownsRow 0 40 4 vo n xs) :
  Ext w w2 ∧ (∀ g, vo'.ownBlock = some g → w.heap.size ≤ g) := by
 refine ⟨Keep.trans hE hk (fun k hk h => by have := hf k h; omega), fun g hg => ?_⟩
 rcases hfr with h | ⟨g', h, h'⟩
 · exact hf g (by rw [← h]; exact hg)
 ·
  rw [h] at hg; cases hg
  have := hE.size
  omega
theorem app_blk {w1 w2 : World} {vo : Value} {n : Nat} {xs : List Value} {c : Nat} {cs : List Value} {e : TypeId} (ho : w1.ownsRow 0 40 4 vo n xs) (hk : Keep (fun k => vo.ownBlock = some k) w1 w2) (hb : Blk w1 c cs e) (he : e ≠ 40) : Blk w2 c cs e :=
 hk.blk hb (fun h => by obtain ⟨cs', hb'⟩ := own_blkty ho h; exact he (hb.ty hb').1)
theorem flatN1 (x : Nd) : [x].flatMap encN = encN x := by simp
theorem encNs_one (l : List Nd) : ∀ u ∈ l.flatMap encN, u.oneCell' = true := by
 intro u hu
 obtain ⟨x, _, hx⟩ := List.mem_flatMap.1 hu
 exact encN_one x u hx
theorem lay_len_le (l : List St) : ∀ a n e, (layL l a n e).length ≤ widL l := by
 induction l using Sts.ind with
 | h l ih =>
 have key : ∀ r : List St, (∀ x ∈ r, x ∈ l) → ∀ a n e, (layL r a n e).length ≤ widL r := by
  intro r
  induction r with
  | nil => intro _ a n e; simp [layL]
  | cons s r ihr =>
   intro hm a n e
   have h1 := (ih s (hm s (List.mem_cons_self ..))).1
   have h2 := (ih s (hm s (List.mem_cons_self ..))).2
   have h3 := ihr (fun y hy => hm y (List.mem_cons_of_mem _ hy)) (a + s.size) (n + s.wid) e
   have hw := s.wid_eq
   have h4 : ∀ a n e, (s.lay a n e).length ≤ s.wid := by
    intro a n e
    rw [s.lay_eq]
    split
    ·
     rw [List.length_cons, List.length_append]
     have := h1 (a + 1) (n + 1) e
     have := h2 (a + 1 + ssize s.thn) (n + 1 + widL s.thn) e
     omega
    ·
     split
     ·
      rename_i a4
      rw [if_pos a4] at hw
      have := h1 (a + 1) (n + 2) (n + 1)
      simp only [List.length_cons]
      omega
     · simp; omega
   have := h4 a n (if r.isEmpty = true then e else n + s.wid)
   rw [layL, List.length_append, widL]
   omega
 exact key l (fun x h => h)
theorem isEmpty_f {α : Type} {l : List α} (h : (0 : Int) < (l.length : Int)) : l.isEmpty = false := by cases l <;> simp_all
theorem isEmpty_t {α : Type} {l : List α} (h : ¬ (0 : Int) < (l.length : Int)) : l.isEmpty = true := by
 cases l
 · rfl
 · simp at h
theorem lay_ok (l : List St) : ∀ (v : Value) (D : Nat → Prop) (w : World) (at_ node after : Nat), SlR 10 RSt D w v l → ssize l ≤ 10000 → at_ + ssize l ≤ 100000 → node + widL l ≤ 100000 → Calls Tryz.prog 69 #[v, .int .i64 at_, .int .i64 node, .int .i64 after] w (Ret fun r w' => w'.ownsRow 0 40 4 r (layL l at_ node after).length ((layL l at_ node after).flatMap encN) ∧ (∀ g, r.ownBlock = some g → w.heap.size ≤ g) ∧ Ext w w') := by
 induction l using Sts.ind with
 | h l ih =>
 intro v D0 w at_ node after hl00 hsz hat hnode
 have hl0 := hl00.narrow (by decide) narrow_st
 generalize hDD : (fun b => D0 b ∧ b < w.heap.size) = D at hl0
 have hDw : ∀ q, D q → q < w.heap.size := fun q h => by rw [← hDD] at h; exact h.2
 have hlen := slen_ssize l
 have hwl := widL_le l
 obtain ⟨av, cv, rfl⟩ := hl0.form
 have hmx := hl0.max
 have hcap := hl0.len_cap.2
 refine G.in4 Tryz.func69 rfl Tryz.ntmps69 rfl (Gs 19 rfl (G.loop (σ := Nat × Value) (fun ⟨i, vo⟩ => [(0, .slice av l.length cv), (1, .int .i64 (at_ + ssize (l.take i) : Nat)), (2, .int .i64 (node + widL (l.take i) : Nat)), (3, .int .i64 after), (9, vo), (17, .slice av l.length cv), (18, .int .i64 l.length), (19, .int .i64 i)]) (fun ⟨i, vo⟩ => fun w' => i ≤ l.length ∧ (∃ pre : List Nd, w'.ownsRow 0 40 4 vo pre.length (pre.flatMap encN) ∧ pre.length ≤ widL (l.take i) ∧ pre ++ layL (l.drop i) (at_ + ssize (l.take i)) (node + widL (l.take i)) after = layL l at_ node after) ∧ (∀ g, vo.ownBlock = some g → w.heap.size ≤ g) ∧ Ext w w') (fun ⟨i, vo⟩ => l.length - i) ((0, .slice none 0 0)) (Sub.of rfl) (⟨Nat.zero_le _, ⟨[], own_nil _ _ _, by simp, by simp [ssize, widL]⟩, fun g hg => by simp [Value.ownBlock] at hg, Keep.refl _ _⟩) ?_))
 rintro ⟨i, vo⟩ w1 ⟨hi, ⟨pre, ho, hpl, hpre⟩, hf, hE⟩
 show G _ _ _ _ _ [(0, .slice av l.length cv), (1, .int .i64 (at_ + ssize (l.take i) : Nat)), (2, .int .i64 (node + widL (l.take i) : Nat)), (3, .int .i64 after), (9, vo), (17, .slice av l.length cv), (18, .int .i64 l.length), (19, .int .i64 i)] _
 have hl := hl0.ext stable_st hE
 refine Gs 6 rfl (G.ite rfl (fun hlt => ?_) (fun hge => ?_))
 ·
  obtain ⟨s, he⟩ : ∃ x, l[i]? = some x := ⟨_, List.getElem?_eq_getElem (by omega)⟩
  have hm := List.mem_of_getElem? he
  obtain ⟨bq, oq, cq, haq, _, hcq, hRq⟩ := hl.at he
  have hone := hRq.one
  have hws := widL_split he
  have hwt := widL_take he
  have hzs := ssize_split he
  have hzt := ssize_take he
  have hwe := s.wid_eq
  have hze := s.size_eq
  have hwl1 := widL_le s.thn
  have hwl2 := widL_le s.els
  obtain ⟨v1, v2, v3, v4, rfl, q1, q2, q3, q4⟩ := hRq.get
  obtain ⟨p2, n2, rfl⟩ := q2.form
  obtain ⟨p3, n3, rfl⟩ := q3.form
  rw [drop_cons he, layL] at hpre
  generalize hA : at_ + ssize (l.take i) = A at *
  generalize hN : node + widL (l.take i) = N at *
  refine Gs 7 rfl (G.ops1 rfl rfl (R.indexS Tryz.runUnderlying24 Tryz.sizeOf86 rfl rfl haq (by omega)) (G.ldK rfl Tryz.isAgg86 Tryz.sizeOf86 hcq rfl (G.mem rfl rfl (M.alloc (cs := _) Tryz.zeroValue86 rfl) ?_)))
  rintro _ w2 ⟨c, rfl, hc, hsc, hBc0, hk2⟩
  refine Gs 1 rfl (G.mem0 rfl (M.storeK Tryz.sizeOf86 rfl rfl rfl rfl hone hBc0 (by simp)) ?_)
  rintro w3 ⟨_, hBc, hkc⟩
  have hk3 : Ext w1 w3 := hk2.trans hkc (fun q hq h => by have h : q = c := h; omega)
  replace hE := hE.ext hk3
  replace ho := own_keep ho hk3 (fun _ _ h => h)
  replace hBc : Blk w3 c [.int .i64 s.act, .int .i64 s.cost, .int .i64 s.var, .int .i64 s.n, .int .i64 s.term.op, .int .i64 s.term.n, v1, .slice p2 s.thn.length n2, .slice p3 s.els.length n3, v4] 86 := hBc
  refine Ga 9 rfl (by omega) (G.ops1 rfl rfl (R.sliceLH Tryz.runUnderlying24 Tryz.sizeOf86 rfl rfl rfl (by omega) (by omega)) (G.call rfl Tryz.call68 (width_ok [s] _ D _ (SlR.mid (hl.ext stable_st hk3) he) (by simp only [ssize]; omega)) ?_))
  rintro _ w4 ⟨rfl, hk4⟩
  replace hE := hE.ext hk4
  replace ho := own_keep ho hk4 (fun _ _ h => h)
  replace hBc := hk4.blk hBc (fun h => h)
  have hw1 : widL [s] = s.wid := by simp [widL]
  rw [hw1]
  refine Ga 20 rfl (by omega) (G.cut (σ := Unit) (fun u => [(0, .slice av l.length cv), (1, .int .i64 A), (2, .int .i64 N), (3, .int .i64 after), (9, vo), (10, .int .i64 i), (11, .pointer (some ⟨c, 0, none⟩)), (12, .int .i64 ((N : Int) + s.wid)), (13, .int .i64 (if (l.drop (i + 1)).isEmpty then after else N + s.wid : Nat)), (17, .slice av l.length cv), (18, .int .i64 l.length), (19, .int .i64 i)]) (fun u => fun w' => w' = w4) ?_ ?_)
  ·
   refine G.ite rfl (fun hl1 => ?_) (fun hl1 => ?_)
   ·
    have e : (l.drop (i + 1)).isEmpty = true := by rw [List.isEmpty_iff, List.drop_eq_nil_iff]; omega
    refine Gs 4 rfl (G.meet (()) (Sub.cons rfl (Sub.cons rfl (Sub.cons rfl (Sub.cons rfl (Sub.cons rfl (Sub.cons rfl (Sub.cons rfl (Sub.cons rfl (Sub.cons (slotI rfl (by rw [if_pos e])) (Sub.of rfl)))))))))) (rfl))
   ·
    have e : ¬ (l.drop (i + 1)).isEmpty = true := by rw [List.isEmpty_iff, List.drop_eq_nil_iff]; omega
    refine Gs 1 rfl (G.meet (()) (Sub.cons rfl (Sub.cons rfl (Sub.cons rfl (Sub.cons rfl (Sub.cons rfl (Sub.cons rfl (Sub.cons rfl (Sub.cons rfl (Sub.cons (slotI rfl (by rw [if_neg e]; omega)) (Sub.of rfl)))))))))) (rfl))
  rintro u w4' hw4
  subst hw4
  generalize hX : (if (l.drop (i + 1)).isEmpty then after else N + s.wid) = X at *
  refine Gs 5 rfl (G.ld rfl Tryz.isAgg80 (hBc.cells 0 _ rfl) (Gs 9 rfl (G.cut (σ := Value) (fun vo' => [(0, .slice av l.length cv), (1, .int .i64 A), (2, .int .i64 N), (3, .int .i64 after), (9, vo'), (10, .int .i64 i), (11, .pointer (some ⟨c, 0, none⟩)), (12, .int .i64 ((N : Int) + s.wid)), (17, .slice av l.length cv), (18, .int .i64 l.length), (19, .int .i64 i)]) (fun vo' => fun w' => w'.ownsRow 0 40 4 vo' (pre ++ s.lay A N X).length ((pre ++ s.lay A N X).flatMap encN) ∧ (pre ++ s.lay A N X).length ≤ widL (l.take (i + 1)) ∧ (∀ g, vo'.ownBlock = some g → w.heap.size ≤ g) ∧ Ext w w') ?_ ?_)))
  ·
   refine G.ite rfl (fun a3 => ?_) (fun a3 => ?_)
   ·
    rw [if_neg (show ¬ s.act = 4 by omega)] at hwe
    refine Gs 12 rfl (G.ld rfl Tryz.isAgg24 (hBc.cells 7 _ rfl) (Gs 4 rfl (G.cut (σ := Unit) (fun u => [(0, .slice av l.length cv), (1, .int .i64 A), (2, .int .i64 N), (3, .int .i64 after), (9, vo), (10, .int .i64 i), (11, .pointer (some ⟨c, 0, none⟩)), (12, .int .i64 ((N : Int) + s.wid)), (13, .int .i64 X), (17, .slice av l.length cv), (18, .int .i64 l.length), (19, .int .i64 i), (14, .int .i64 (if s.thn.isEmpty then X else N + 1 : Nat)), (15, .int .i64 X)]) (fun u => fun w' => w' = w4') ?_ ?_)))
    ·
     refine G.ite rfl (fun g1 => ?_) (fun g1 => ?_)
     · refine Ga 5 rfl (by omega) (G.meet (()) (Sub.cons rfl (Sub.cons rfl (Sub.cons rfl (Sub.cons rfl (Sub.cons rfl (Sub.cons rfl (Sub.cons rfl (Sub.cons rfl (Sub.cons rfl (Sub.cons rfl (Sub.cons rfl (Sub.cons rfl (Sub.cons (slotI rfl (by rw [isEmpty_f g1]; simp)) (Sub.of rfl)))))))))))))) (rfl))
     · refine Gs 1 rfl (G.meet (()) (Sub.cons rfl (Sub.cons rfl (Sub.cons rfl (Sub.cons rfl (Sub.cons rfl (Sub.cons rfl (Sub.cons rfl (Sub.cons rfl (Sub.cons rfl (Sub.cons rfl (Sub.cons rfl (Sub.cons rfl (Sub.cons (slotI rfl (by rw [isEmpty_t g1]; simp)) (Sub.of rfl)))))))))))))) (rfl))
    rintro u w5 hw5
    subst hw5
    refine Gs 5 rfl (G.ld rfl Tryz.isAgg24 (hBc.cells 8 _ rfl) (Gs 4 rfl (G.cut (σ := Unit) (fun u => [(0, .slice av l.length cv), (1, .int .i64 A), (2, .int .i64 N), (3, .int .i64 after), (9, vo), (10, .int .i64 i), (11, .pointer (some ⟨c, 0, none⟩)), (12, .int .i64 ((N : Int) + s.wid)), (13, .int .i64 X), (17, .slice av l.length cv), (18, .int .i64 l.length), (19, .int .i64 i), (14, .int .i64 (if s.thn.isEmpty then X else N + 1 : Nat)), (15, .int .i64 (if s.els.isEmpty then X else N + 1 + widL s.thn : Nat))]) (fun u => fun w' => Ext w5 w') ?_ ?_)))
    ·
     refine G.ite rfl (fun g1 => ?_) (fun g1 => ?_)
     ·
      refine Ga 4 rfl (by omega) (G.ld rfl Tryz.isAgg24 (hBc.cells 7 _ rfl) (G.call rfl Tryz.call68 (width_ok s.thn _ D _ (q2.ext stable_st (hk3.ext hk4)) (by omega)) ?_))
      rintro _ w5 ⟨rfl, hk5⟩
      refine Ga 3 rfl (by omega) (G.meet (()) (Sub.cons rfl (Sub.cons rfl (Sub.cons rfl (Sub.cons rfl (Sub.cons rfl (Sub.cons rfl (Sub.cons rfl (Sub.cons rfl (Sub.cons rfl (Sub.cons rfl (Sub.cons rfl (Sub.cons rfl (Sub.cons rfl (Sub.cons (slotI rfl (by rw [isEmpty_f g1]; simp)) Sub.nil)))))))))))))) (hk5))
     · refine Gs 1 rfl (G.meet (()) (Sub.cons rfl (Sub.cons rfl (Sub.cons rfl (Sub.cons rfl (Sub.cons rfl (Sub.cons rfl (Sub.cons rfl (Sub.cons rfl (Sub.cons rfl (Sub.cons rfl (Sub.cons rfl (Sub.cons rfl (Sub.cons rfl (Sub.cons (slotI rfl (by rw [isEmpty_t g1]; simp)) Sub.nil)))))))))))))) (Keep.refl _ _))
    rintro u w6 hk5
    have hE5 := hE.ext hk5
    have ho5 := own_keep ho hk5 (fun _ _ h => h)
    have hBc5 := hk5.blk hBc (fun h => h)
    refine Gs 7 rfl (G.ops1 rfl rfl (R.build (v := .agg #[.int .i64 3, .int .i64 A, .int .i64 (if s.thn.isEmpty then X else N + 1 : Nat), .int .i64 (if s.els.isEmpty then X else N + 1 + widL s.thn : Nat)]) [(0, _), (1, _), (2, _), (3, _)] rfl (fun _ => by kernel_rfl)) (G.mem rfl rfl (M.buildSlice (cs := encN ⟨3, A, (if s.thn.isEmpty then X else N + 1 : Nat), (if s.els.isEmpty then X else N + 1 + widL s.thn : Nat)⟩) [(0, _)] Tryz.runUnderlying29 Tryz.sizeOf40 Tryz.zeroValue40 (by decide) rfl (by kernel_rfl)) ?_))
    rintro _ w6 ⟨g6, rfl, hg6, hs6, hB6, hk6⟩
    have hE6 := hE5.ext hk6
    have ho6 := own_keep ho5 hk6 (fun _ _ h => h)
    have hBc6 := hk6.blk hBc5 (fun h => h)
    refine G.mem rfl rfl (M.append Tryz.underlying29 Tryz.el40 rfl (by decide) rfl rfl ho6 rfl (Cells.add hB6.cells) (encN_one _) (by omega) (by omega)) ?_
    rintro vo7 w7 ⟨ho7, hf7, hk7, _⟩
    obtain ⟨hE7, hfr7⟩ := app_ext hE6 hf hk7 hf7 ho6
    have hBc7 := app_blk ho6 hk7 hBc6 (by decide)
    have hA7 : Above w.heap.size w1 w7 := Above.then (Above.of_ext ((hk3.ext hk4).ext (hk5.ext hk6))) (Above.of_keep hk7 hf)
    refine Gs 7 rfl (G.ld rfl Tryz.isAgg24 (hBc7.cells 7 _ rfl) (Ga 5 rfl (by omega) (G.call rfl Tryz.call69 ((ih s hm).1 _ D w7 (A + 1) (N + 1) X (hA7.sl stable_st q2 hDw) (by omega) (by omega) (by omega)) ?_)))
    rintro r8 w8 ⟨hr8, hrf8, hk8⟩
    have hE8 := hE7.ext hk8
    have ho8 := own_keep ho7 hk8 (fun _ _ h => h)
    have hBc8 := hk8.blk hBc7 (fun h => h)
    have hll8 := lay_len_le s.thn (A + 1) (N + 1) X
    refine G.mem rfl rfl (M.appendO Tryz.underlying29 Tryz.el40 rfl (by decide) rfl rfl ho8 hr8 (encNs_one _) (by omega) (by omega)) ?_
    rintro vo9 w9 ⟨ho9, hf9, hk9⟩
    obtain ⟨hE9, hfr9⟩ := app_ext hE8 hfr7 hk9 hf9 ho8
    have hBc9 := app_blk ho8 hk9 hBc8 (by decide)
    have hA9 := Above.then (hA7.ext' hk8) (Above.of_keep hk9 hfr7)
    refine Gs 3 rfl (Dw (fun q => Blk q c [.int .i64 s.act, .int .i64 s.cost, .int .i64 s.var, .int .i64 s.n, .int .i64 s.term.op, .int .i64 s.term.n, v1, .slice p2 s.thn.length n2, .slice p3 s.els.length n3, v4] 86) [] (fun x0 xk0 _ => ?_))
    have xE0 := hE9.ext xk0
    have xA0 := hA9.ext' xk0
    have xo0 := own_keep ho9 xk0 (fun _ _ h => h)
    have xB0 := xk0.blk hBc9 (fun h => h)
    refine Ds [0, 1] (by kernel_rfl) rfl (WD.take 2 rfl (by kernel_rfl) rfl rfl rfl xB0 (fun w1 hw1 => R.load Tryz.isAgg24 rfl (hw1.cells 8 _ rfl)) (Da [3, 4, 5] (by kernel_rfl) rfl (by omega) (WD.take 6 rfl (by kernel_rfl) rfl rfl rfl xB0 (fun w1 hw1 => R.load Tryz.isAgg24 rfl (hw1.cells 7 _ rfl)) (Da [9, 10, 11] (by kernel_rfl) rfl (by omega) (WD.take 12 rfl (by kernel_rfl) rfl rfl rfl xB0 (fun w1 hw1 => R.load Tryz.isAgg24 rfl (hw1.cells 7 _ rfl)) (Ds [15] (by kernel_rfl) rfl (WD.call 7 rfl (by kernel_rfl) rfl rfl rfl (F.call (vs := [_]) Tryz.call23 rfl) (refSize_ok s.thn _ D x0 (xA0.sl stable_st q2 hDw) (by omega)) ?_)))))))
    rintro _ x1 ⟨rfl, xk1⟩
    have xE1 := xE0.ext xk1
    have xA1 := xA0.ext' xk1
    have xo1 := own_keep xo0 xk1 (fun _ _ h => h)
    have xB1 := xk1.blk xB0 (fun h => h)
    refine ⟨fun _ => xB1, ?_⟩
    refine Da [8] (by kernel_rfl) rfl (by omega) (WD.call 13 rfl (by kernel_rfl) rfl rfl rfl (F.call (vs := [_]) Tryz.call68 rfl) (width_ok s.thn _ D x1 (xA1.sl stable_st q2 hDw) (by omega)) ?_)
    rintro _ x2 ⟨rfl, xk2⟩
    have xE2 := xE1.ext xk2
    have xA2 := xA1.ext' xk2
    have xo2 := own_keep xo1 xk2 (fun _ _ h => h)
    have xB2 := xk2.blk xB1 (fun h => h)
    refine ⟨fun _ => xB2, ?_⟩
    refine Da [14] (by kernel_rfl) rfl (by omega) (WD.call 16 rfl (by kernel_rfl) rfl rfl rfl (F.call (vs := [_, _, _, _]) Tryz.call69 rfl) ((ih s hm).2 _ D x2 (A + 1 + ssize s.thn) (N + 1 + widL s.thn) X (xA2.sl stable_st q3 hDw) (by omega) (by omega) (by omega)) ?_)
    rintro r3 x3 ⟨xr3, xrf3, xk3⟩
    have xE3 := xE2.ext xk3
    have xo3 := own_keep xo2 xk3 (fun _ _ h => h)
    have xB3 := xk3.blk xB2 (fun h => h)
    refine ⟨fun _ => xB3, ?_⟩
    have hll3 := lay_len_le s.els (A + 1 + ssize s.thn) (N + 1 + widL s.thn) X
    refine WD.mem 17 rfl (by kernel_rfl) rfl rfl rfl (M.appendO Tryz.underlying29 Tryz.el40 rfl (by decide) rfl rfl xo3 xr3 (encNs_one _) (by omega) (by omega)) ?_
    rintro vo4 x4 ⟨xo4, xf4, xk4⟩
    obtain ⟨xE4, xfr4⟩ := app_ext xE3 hfr9 xk4 xf4 xo3
    have xB4 := app_blk xo3 xk4 xB3 (by decide)
    refine ⟨fun _ => xB4, ?_⟩
    refine Ds [18] (by kernel_rfl) rfl (G.done (by kernel_rfl) ?_ _)
    have e5 : pre ++ s.lay A N X = pre ++ [⟨3, A, (if s.thn.isEmpty then X else N + 1 : Nat), (if s.els.isEmpty then X else N + 1 + widL s.thn : Nat)⟩] ++ layL s.thn (A + 1) (N + 1) X ++ layL s.els (A + 1 + ssize s.thn) (N + 1 + widL s.thn) X := by
     rw [s.lay_eq, if_pos a3]
     simp only [List.append_assoc, List.cons_append, List.nil_append, apply_ite (Nat.cast (R := Int))]
    have e6 : (pre ++ s.lay A N X).length = pre.length + 1 + (layL s.thn (A + 1) (N + 1) X).length + (layL s.els (A + 1 + ssize s.thn) (N + 1 + widL s.thn) X).length := by rw [e5]; simp only [List.length_append, List.length_singleton]
    refine G.meet (vo4) (Sub.of rfl) (⟨?_, by rw [e6]; omega, xfr4, xE4⟩)
    rw [e6, e5, List.flatMap_append, List.flatMap_append, List.flatMap_append, flatN1]
    exact xo4
   ·
    refine Gs 6 rfl (G.ite rfl (fun a4 => ?_) (fun a4 => ?_))
    ·
     rw [if_pos a4] at hwe
     refine Ga 11 rfl (by omega) (G.ld rfl Tryz.isAgg24 (hBc.cells 7 _ rfl) (Gs 4 rfl (G.cut (σ := Unit) (fun u => [(0, .slice av l.length cv), (1, .int .i64 A), (2, .int .i64 N), (3, .int .i64 after), (9, vo), (10, .int .i64 i), (11, .pointer (some ⟨c, 0, none⟩)), (12, .int .i64 ((N : Int) + s.wid)), (13, .int .i64 X), (17, .slice av l.length cv), (18, .int .i64 l.length), (19, .int .i64 i), (16, .int .i64 (if s.thn.isEmpty then N + 1 else N + 2 : Nat))]) (fun u => fun w' => w' = w4') ?_ ?_)))
     ·
      refine G.ite rfl (fun g1 => ?_) (fun g1 => ?_)
      · refine Ga 5 rfl (by omega) (G.meet (()) (Sub.cons rfl (Sub.cons rfl (Sub.cons rfl (Sub.cons rfl (Sub.cons rfl (Sub.cons rfl (Sub.cons rfl (Sub.cons rfl (Sub.cons rfl (Sub.cons rfl (Sub.cons rfl (Sub.cons rfl (Sub.cons (slotI rfl (by rw [isEmpty_f g1]; simp)) Sub.nil))))))))))))) (rfl))
      · refine Gs 1 rfl (G.meet (()) (Sub.cons rfl (Sub.cons rfl (Sub.cons rfl (Sub.cons rfl (Sub.cons rfl (Sub.cons rfl (Sub.cons rfl (Sub.cons rfl (Sub.cons rfl (Sub.cons rfl (Sub.cons rfl (Sub.cons rfl (Sub.cons (slotI rfl (by rw [isEmpty_t g1]; simp)) Sub.nil))))))))))))) (rfl))
     rintro u w5 hw5
     subst hw5
     refine Ga 7 rfl (by omega) (G.ops1 rfl rfl (R.build (v := .agg #[.int .i64 4, .int .i64 A, .int .i64 ((N : Int) + 1), .int .i64 (-1)]) [(0, _), (1, _), (2, _), (3, _)] rfl (fun _ => by kernel_rfl)) (Gs 3 rfl (G.ops1 rfl rfl (R.build (v := .agg #[.int .i64 5, .int .i64 A, .int .i64 (if s.thn.isEmpty then N + 1 else N + 2 : Nat), .int .i64 X]) [(0, _), (1, _), (2, _), (3, _)] rfl (fun _ => by kernel_rfl)) (G.mem rfl rfl (M.buildSlice (cs := [(⟨4, A, (N + 1 : Nat), -1⟩ : Nd), ⟨5, A, (if s.thn.isEmpty then N + 1 else N + 2 : Nat), X⟩].flatMap encN) [(0, _), (1, _)] Tryz.runUnderlying29 Tryz.sizeOf40 Tryz.zeroValue40 (by decide) rfl (by kernel_rfl)) ?_))))
     rintro _ w6 ⟨g6, rfl, hg6, hs6, hB6, hk6⟩
     have hE6 := hE.ext hk6
     have ho6 := own_keep ho hk6 (fun _ _ h => h)
     have hBc6 := hk6.blk hBc (fun h => h)
     refine G.mem rfl rfl (M.append Tryz.underlying29 Tryz.el40 rfl (by decide) rfl rfl ho6 rfl (Cells.add hB6.cells) (encNs_one _) (by omega) (by omega)) ?_
     rintro vo7 w7 ⟨ho7, hf7, hk7, _⟩
     obtain ⟨hE7, hfr7⟩ := app_ext hE6 hf hk7 hf7 ho6
     have hBc7 := app_blk ho6 hk7 hBc6 (by decide)
     have hA7 : Above w.heap.size w1 w7 := Above.then (Above.of_ext ((hk3.ext hk4).ext hk6)) (Above.of_keep hk7 hf)
     refine Gs 6 rfl (G.ld rfl Tryz.isAgg24 (hBc7.cells 7 _ rfl) (Ga 6 rfl (by omega) (G.call rfl Tryz.call69 ((ih s hm).1 _ D w7 (A + 1) (N + 2) (N + 1) (hA7.sl stable_st q2 hDw) (by omega) (by omega) (by omega)) ?_)))
     rintro r8 w8 ⟨hr8, hrf8, hk8⟩
     have hE8 := hE7.ext hk8
     have ho8 := own_keep ho7 hk8 (fun _ _ h => h)
     have hll8 := lay_len_le s.thn (A + 1) (N + 2) (N + 1)
     refine G.mem rfl rfl (M.appendO Tryz.underlying29 Tryz.el40 rfl (by decide) rfl rfl ho8 hr8 (encNs_one _) (by omega) (by omega)) ?_
     rintro vo9 w9 ⟨ho9, hf9, hk9⟩
     obtain ⟨hE9, hfr9⟩ := app_ext hE8 hfr7 hk9 hf9 ho8
     refine Gs 2 rfl ?_
     have e5 : pre ++ s.lay A N X = pre ++ [⟨4, A, (N + 1 : Nat), -1⟩, ⟨5, A, (if s.thn.isEmpty then N + 1 else N + 2 : Nat), X⟩] ++ layL s.thn (A + 1) (N + 2) (N + 1) := by
      rw [s.lay_eq, if_neg a3, if_pos a4]
      simp only [List.append_assoc, List.cons_append, List.nil_append, apply_ite (Nat.cast (R := Int))]
     have e6 : (pre ++ s.lay A N X).length = pre.length + 2 + (layL s.thn (A + 1) (N + 2) (N + 1)).length := by rw [e5]; simp only [List.length_append, List.length_cons, List.length_nil]
     refine G.meet (vo9) (Sub.of rfl) (⟨?_, by rw [e6]; omega, hfr9, hE9⟩)
     rw [e6, e5, List.flatMap_append, List.flatMap_append]
     exact ho9
    ·
     rw [if_neg a4] at hwe
     refine Gs 4 rfl (G.ops1 rfl rfl (R.build (v := .agg #[.int .i64 2, .int .i64 A, .int .i64 X, .int .i64 (-1)]) [(0, _), (1, _), (2, _), (3, _)] rfl (fun _ => by kernel_rfl)) (G.mem rfl rfl (M.buildSlice (cs := encN ⟨2, A, X, -1⟩) [(0, _)] Tryz.runUnderlying29 Tryz.sizeOf40 Tryz.zeroValue40 (by decide) rfl (by kernel_rfl)) ?_))
     rintro _ w6 ⟨g6, rfl, hg6, hs6, hB6, hk6⟩
     have hE6 := hE.ext hk6
     have ho6 := own_keep ho hk6 (fun _ _ h => h)
     refine G.mem rfl rfl (M.append Tryz.underlying29 Tryz.el40 rfl (by decide) rfl rfl ho6 rfl (Cells.add hB6.cells) (encN_one _) (by omega) (by omega)) ?_
     rintro vo7 w7 ⟨ho7, hf7, hk7, _⟩
     obtain ⟨hE7, hfr7⟩ := app_ext hE6 hf hk7 hf7 ho6
     refine Gs 2 rfl ?_
     have e5 : pre ++ s.lay A N X = pre ++ [⟨2, A, X, -1⟩] := by rw [s.lay_eq, if_neg a3, if_neg a4]
     have e6 : (pre ++ s.lay A N X).length = pre.length + 1 := by rw [e5]; simp
     refine G.meet (vo7) (Sub.of rfl) (⟨?_, by rw [e6]; omega, hfr7, hE7⟩)
     rw [e6, e5, List.flatMap_append, flatN1]
     exact ho7
  ·
   rintro vo' w5 ⟨ho5, hpl5, hf5, hE5⟩
   show G _ _ _ _ _ [(0, .slice av l.length cv), (1, .int .i64 A), (2, .int .i64 N), (3, .int .i64 after), (9, vo'), (10, .int .i64 i), (11, .pointer (some ⟨c, 0, none⟩)), (12, .int .i64 ((N : Int) + s.wid)), (17, .slice av l.length cv), (18, .int .i64 l.length), (19, .int .i64 i)] _
   have hl5 := hl0.ext stable_st hE5
   refine Ga 9 rfl (by omega) (G.ops1 rfl rfl (R.sliceLH Tryz.runUnderlying24 Tryz.sizeOf86 rfl rfl rfl (by omega) (by omega)) (G.call rfl Tryz.call23 (refSize_ok [s] _ D _ (SlR.mid hl5 he) (by simp only [ssize]; omega)) ?_))
   rintro _ w6 ⟨rfl, hk6⟩
   have hz1 : ssize [s] = s.size := by simp [ssize]
   rw [hz1]
   refine Ga 14 rfl (by omega) (G.back ((i + 1, vo')) (Sub.cons rfl (Sub.cons (slotI rfl (by omega)) (Sub.cons (slotI rfl (by omega)) (Sub.of rfl)))) (⟨by omega, ⟨pre ++ s.lay A N X, own_keep ho5 hk6 (fun _ _ h => h), hpl5, ?_⟩, hf5, hE5.ext hk6⟩) (by first | omega | (dsimp only; omega)))
   rw [← hpre, List.append_assoc, show at_ + ssize (l.take (i + 1)) = A + s.size by omega, show node + widL (l.take (i + 1)) = N + s.wid by omega]
 ·
  have hii : i = l.length := by omega
  subst hii
  rw [List.drop_length, layL, List.append_nil] at hpre
  refine Gs 12 rfl (G.ret1 Tryz.results69 rfl ⟨_, rfl, by rw [← hpre]; exact ho, hf, hE⟩)
theorem refBuild_ok (f : Fl) (v1 v2 v3 : Value) (D : Nat → Prop) (w : World) (hf : RFl D w f v1 v2 v3) (hsz : ssize f.body ≤ 10000) :
  Calls Tryz.prog 20 #[.agg #[v1, v2, v3]] w (Ret fun r w' => (∃ nv, r = .agg #[nv] ∧ SlR 4 RNd (fun b => w.heap.size ≤ b) w' nv (cfgN f)) ∧ Ext w w') := by
 have hwl := widL_le f.body
 have hll := lay_len_le f.body 0 1 (1 + widL f.body)
 refine G.in1 Tryz.func20 rfl Tryz.ntmps20 rfl (Gs 2 rfl (G.mem rfl rfl (M.box rfl rfl) ?_))
 rintro _ w1 ⟨c, rfl, hc, hs1, hBc, hk1⟩
 refine G.mem rfl rfl (M.alloc (cs := [.slice none 0 0]) Tryz.zeroValue31 rfl) ?_
 rintro _ w2 ⟨r, rfl, hr, hs2, hBr, hk2⟩
 replace hBc := hk2.blk hBc (fun h => h)
 have hE2 := hk1.ext hk2
 refine Gs 5 rfl (G.ld rfl Tryz.isAgg24 (hBc.cells 2 _ rfl) (G.call rfl Tryz.call68 (width_ok f.body _ D w2 (hf.body.ext stable_st hE2) (by omega)) ?_))
 rintro _ w3 ⟨rfl, hk3⟩
 replace hBc := hk3.blk hBc (fun h => h)
 replace hBr := hk3.blk hBr (fun h => h)
 have hE3 := hE2.ext hk3
 refine Ga 6 rfl (by omega) (G.ops1 rfl rfl (R.build (v := .agg #[.int .i64 0, .int .i64 (-1), .int .i64 1, .int .i64 (-1)]) [(0, _), (1, _), (2, _), (3, _)] rfl (fun _ => by kernel_rfl)) (G.mem rfl rfl (M.buildSlice (cs := encN ⟨0, -1, 1, -1⟩) [(0, _)] Tryz.runUnderlying29 Tryz.sizeOf40 Tryz.zeroValue40 (by decide) rfl (by kernel_rfl)) ?_))
 rintro _ w4 ⟨g4, rfl, hg4, hs4, hB4, hk4⟩
 replace hBc := hk4.blk hBc (fun h => h)
 replace hBr := hk4.blk hBr (fun h => h)
 have hE4 := hE3.ext hk4
 have ho4 : w4.ownsRow 0 40 4 (.slice (some ⟨g4, 0, none⟩) 1 1) 1 (encN ⟨0, -1, 1, -1⟩) := own_blk (k := 4) (n := 1) (cap := 1) hB4 (Nat.le_refl _) (by decide) rfl
 have hf4 : ∀ g, Value.ownBlock (.slice (some ⟨g4, 0, none⟩) 1 1) = some g → w.heap.size ≤ g := fun g hg => by
  obtain rfl : g4 = g := Option.some.inj hg
  have := hE3.size; omega
 refine Gs 7 rfl (G.ld rfl Tryz.isAgg24 (hBc.cells 2 _ rfl) (Gs 1 rfl (G.call rfl Tryz.call69 (lay_ok f.body _ D w4 0 1 (1 + widL f.body) (hf.body.ext stable_st hE4) hsz (by omega) (by omega)) ?_)))
 rintro r5 w5 ⟨hr5, hrf5, hk5⟩
 replace hBr := hk5.blk hBr (fun h => h)
 have hE5 := hE4.ext hk5
 have ho5 := own_keep ho4 hk5 (fun _ _ h => h)
 refine G.mem rfl rfl (M.appendO Tryz.underlying29 Tryz.el40 rfl (by decide) rfl rfl ho5 hr5 (encNs_one _) (by omega) (by omega)) ?_
 rintro v6 w6 ⟨ho6, hf6, hk6⟩
 obtain ⟨hE6, hfr6⟩ := app_ext hE5 hf4 hk6 hf6 ho5
 replace hBr := app_blk ho5 hk6 hBr (by decide)
 refine Gs 6 rfl (G.ops1 rfl rfl (R.build (v := .agg #[.int .i64 1, .int .i64 (-1), .int .i64 (-1), .int .i64 (-1)]) [(0, _), (1, _), (2, _), (3, _)] rfl (fun _ => by kernel_rfl)) (G.mem rfl rfl (M.buildSlice (cs := encN ⟨1, -1, -1, -1⟩) [(0, _)] Tryz.runUnderlying29 Tryz.sizeOf40 Tryz.zeroValue40 (by decide) rfl (by kernel_rfl)) ?_))
 rintro _ w7 ⟨g7, rfl, hg7, hs7, hB7, hk7⟩
 replace hBr := hk7.blk hBr (fun h => h)
 have hE7 := hE6.ext hk7
 have ho7 := own_keep ho6 hk7 (fun _ _ h => h)
 refine G.mem rfl rfl (M.append Tryz.underlying29 Tryz.el40 rfl (by decide) rfl rfl ho7 rfl (Cells.add hB7.cells) (encN_one _) (by omega) (by omega)) ?_
 rintro v8 w8 ⟨ho8, hf8, hk8, _⟩
 obtain ⟨hE8, hfr8⟩ := app_ext hE7 hfr6 hk8 hf8 ho7
 replace hBr := app_blk ho7 hk8 hBr (by decide)
 obtain ⟨av, cv, rfl⟩ := own_form ho8
 refine G.ops1 rfl rfl (R.build (v := .agg #[.slice av (1 + (layL f.body 0 1 (1 + widL f.body)).length + 1) cv]) [(0, _)] rfl (fun _ => by kernel_rfl)) (G.mem0 rfl (M.storeK Tryz.sizeOf31 rfl rfl rfl rfl (by simp [Value.oneCell']) hBr (by simp)) ?_)
 rintro wf ⟨_, hBf, hkf⟩
 have hown' := own_keep ho8 hkf (fun g hg h => by
  obtain ⟨cs', hb'⟩ := own_blkty ho8 hg
  exact hb'.ne hBr (by decide) h)
 refine Gs 3 rfl (G.retC Tryz.results20 rfl (run_loadK Tryz.isAgg31 Tryz.sizeOf31 rfl hBf.cells) ?_)
 refine ⟨_, rfl, ⟨_, rfl, ?_⟩, hE8.trans hkf (fun q hq h => by have h : q = r := h; have := hk1.size; omega)⟩
 refine SlR.ofRowK (by decide) encN encN_len (fun _ _ => rfl) (n := 1 + (layL f.body 0 1 (1 + widL f.body)).length + 1) (e := 40) ?_ hfr8
 unfold cfgN
 rw [List.flatMap_cons, List.flatMap_append, flatN1, ← List.append_assoc]
 exact hown'
end Go.Proofs.YtldhllpogdikdaaGreat
namespace Go.GL
instance {α : Type} {k : Nat} {R : Rel α} [h : Dt R] [hk : NeZero k] : Dt (RSl k R) := ⟨stable_sl h.s, fun _ _ _ _ ⟨v, h1, h2⟩ => ⟨v, h1, h2.narrow (Nat.pos_of_ne_zero hk.out) h.n⟩⟩
end Go.GL
namespace Go.Proofs.YtldhllpogdikdaaGreat
open Go.GL
theorem mem_take1 {α : Type} {l : List α} {k : Nat} {x y : α} (hx : l[k]? = some x) : y ∈ l.take (k + 1) ↔ y ∈ l.take k ∨ y = x := by
 rw [List.take_add_one, hx]
 simp
theorem index1_ok (l : List Int) (x : Int) (v : Value) (D : Nat → Prop) (W : World) (hv : SlR 1 RInt D W v l) : Calls Tryz.prog 85 #[v, .int .i64 x] W (Ret fun r w' => (∃ i : Int, r = .int .i64 i ∧ (0 ≤ i ↔ x ∈ l)) ∧ Ext W w') := by
 obtain ⟨av, cv, rfl⟩ := hv.form
 have hmx := hv.max
 refine G.in2 Tryz.func85 rfl Tryz.ntmps85 rfl (V.inn ?_)
 refine Vs 14 rfl ?_
 refine V.loopK (σ := Nat) [0, 1, 7] [] [] rfl (fun e k => (8, .int .i64 k) :: e) (fun e k => e) (fun k => k ≤ l.length ∧ x ∉ l.take k) (fun k => l.length - k) (0) (Sub.of rfl) (Has.of rfl) (fun _ => rfl) (fun _ => rfl) (fun _ => rfl) (⟨Nat.zero_le _, by simp⟩) ?_
 rintro k ⟨hk, hn⟩
 refine Vs 6 rfl ?_
 refine V.ite rfl (fun hlt => ?_) (fun hlt => ?_)
 ·
  refine Vs 15 rfl ?_
  obtain ⟨y, he_y⟩ : ∃ z_, l[k]? = some z_ := ⟨_, List.getElem?_eq_getElem (by omega)⟩
  have hm_y := List.mem_of_getElem? he_y
  obtain ⟨b_y, o_y, c_y, ha_y, _, hc_y, hR_y⟩ := hv.at he_y
  obtain rfl := hR_y
  refine V.fr 1000 0 rfl rfl hc_y ?_
  refine V.ix 1000 Tryz.runUnderlying50 Tryz.sizeOf3 rfl ha_y (by omega) (_) (rfl) rfl ?_
  refine Vs 4 rfl ?_
  refine V.ite rfl (fun he => ?_) (fun he => ?_)
  ·
   refine Vs 12 rfl ?_
   refine V.ret1 Tryz.results85 rfl (fun w hI => ⟨_, rfl, ⟨_, rfl, by rw [he]; exact ⟨fun _ => hm_y, fun _ => by omega⟩⟩, hI.k0⟩)
  ·
   refine Va 7 rfl (by omega) ?_
   refine V.back (k + 1) (Sub.of rfl) (Has.of rfl) (⟨by omega, fun h => ((mem_take1 he_y).1 h).elim hn he⟩) (by first | omega | (dsimp only; omega)) 0 rfl rfl
 ·
  have : k = l.length := by omega
  subst this
  rw [List.take_length] at hn
  refine Vs 11 rfl ?_
  refine V.ret1 Tryz.results85 rfl (fun w hI => ⟨_, rfl, ⟨_, rfl, ⟨fun h => by omega, fun h => absurd h hn⟩⟩, hI.k0⟩)
theorem contains1_ok (l : List Int) (x : Int) (v : Value) (D : Nat → Prop) (W : World) (hv : SlR 1 RInt D W v l) : Calls Tryz.prog 38 #[v, .int .i64 x] W (Ret fun r w' => r = .bool (decide (x ∈ l)) ∧ Ext W w') := by
 refine G.in2 Tryz.func38 rfl Tryz.ntmps38 rfl (V.inn ?_)
 refine Vs 9 rfl ?_
 refine V.call2 Tryz.call85 rfl (fun w hI => index1_ok l x v D w (Tr1 hI.k0 hv)) ?_
 rintro r w1 w2 hI1 hk12 ⟨i, rfl, hi⟩ hlow
 refine Vs 5 rfl ?_
 refine V.ret1 Tryz.results38 rfl (fun w hI => ⟨_, rfl, by simp [hi], hI.k1⟩)
theorem indexF_ok (vs : List Int) (vv : Value) (D : Nat → Prop) (w : World) (hvs : SlR 1 RInt D w vv vs) (p : Int → Bool) (g : FuncId) (cp : Value) (hf : ∀ args w, (callFunc g args).run Tryz.prog w = .ok (.enter g args) w)
  (hc : ∀ x ∈ vs, ∀ w', Ext w w' → Calls Tryz.prog g #[.int .i64 x, cp] w' (Ret fun r w'' => r = .bool (p x) ∧ Ext w' w'')) :
  Calls Tryz.prog 84 #[vv, .func (.func g) #[] #[cp]] w (Ret fun r w' => (∃ i : Int, r = .int .i64 i ∧ (0 ≤ i ↔ vs.any p = true)) ∧ Ext w w') := by
 have hmx := hvs.max
 obtain ⟨av, nv, rfl⟩ := hvs.form
 refine G.in2 Tryz.func84 rfl Tryz.ntmps84 rfl (Gs 14 rfl (G.loop (σ := Nat) (fun i => [(0, .slice av vs.length nv), (1, .func (.func g) #[] #[cp]), (7, .int .i64 vs.length), (8, .int .i64 i)]) (fun i => fun w' => i ≤ vs.length ∧ (vs.take i).any p = false ∧ Ext w w') (fun i => vs.length - i) (0) (Sub.of rfl) (⟨Nat.zero_le _, rfl, Keep.refl _ _⟩) ?_))
 rintro i w1 ⟨hi, hno, hL1⟩
 replace hvs := Tr1 hL1 hvs
 refine Gs 6 rfl (G.ite rfl (fun hlt => ?_) (fun hlt => ?_))
 ·
  obtain ⟨x, he_x⟩ : ∃ x, vs[i]? = some x := ⟨_, List.getElem?_eq_getElem (by omega)⟩
  have hm_x := List.mem_of_getElem? he_x
  obtain ⟨b_x, o_x, c_x, ha_x, _, hc_x, hR_x⟩ := hvs.at he_x
  obtain rfl := hR_x
  have hlt_x : b_x < _ := World.block_lt_of_cell? _ _ (hc_x 0 _ rfl)
  refine Gs 15 rfl (G.ops1 rfl rfl (R.indexS Tryz.runUnderlying50 Tryz.sizeOf3 rfl rfl ha_x (by omega)) (G.ld rfl Tryz.isAgg3 (hc_x 0 _ rfl) (G.callV rfl hf (hc x hm_x _ hL1) ?_)))
  rintro _ wz1 ⟨rfl, hz1⟩
  obtain ⟨hvs, hL1, hc_x⟩ := Tr3 hz1 hvs hL1 hc_x
  refine Gs 2 rfl (G.bool rfl (fun hp => ?_) (fun hp => ?_))
  · refine Gs 12 rfl (G.ret1 Tryz.results84 rfl ⟨_, rfl, ⟨_, rfl, by rw [any_at hm_x hp]; simp⟩, hL1⟩)
  · refine Ga 7 rfl (by omega) (G.back (i + 1) (Sub.of rfl) (⟨by omega, any_take_all he_x hno hp, hL1⟩) (by first | omega | (dsimp only; omega)))
 ·
  have : i = vs.length := by omega
  subst this
  rw [List.take_length] at hno
  refine Gs 11 rfl (G.ret1 Tryz.results84 rfl ⟨_, rfl, ⟨_, rfl, by rw [hno]; simp⟩, hL1⟩)
theorem containsF_ok (vs : List Int) (vv : Value) (D : Nat → Prop) (w : World) (hvs : SlR 1 RInt D w vv vs) (p : Int → Bool) (g : FuncId) (cp : Value) (hf : ∀ args w, (callFunc g args).run Tryz.prog w = .ok (.enter g args) w)
  (hc : ∀ x ∈ vs, ∀ w', Ext w w' → Calls Tryz.prog g #[.int .i64 x, cp] w' (Ret fun r w'' => r = .bool (p x) ∧ Ext w' w'')) :
  Calls Tryz.prog 36 #[vv, .func (.func g) #[] #[cp]] w (Ret fun r w' => r = .bool (vs.any p) ∧ Ext w w') := by
 have hE := Keep.refl (fun _ => False) w
 refine G.in2 Tryz.func36 rfl Tryz.ntmps36 rfl (Gs 9 rfl (G.call rfl Tryz.call84 (indexF_ok vs vv D w hvs p g cp hf hc) ?_))
 rintro _ wz1 ⟨⟨i, rfl, hi⟩, hz1⟩
 replace hE := Tr1 hz1 hE
 refine Gs 5 rfl (G.ret1 Tryz.results36 rfl ⟨_, rfl, by cases h : vs.any p <;> simp [h] at hi ⊢ <;> omega, hE⟩)
theorem lastC_ok (x : Int) (rows : List (List Int)) (row : List Int) (c : Nat) (v : Value) (D : Nat → Prop) (w : World) (hB : Blk w c [v] 70) (hr : SlR 1 (RSl 1 RInt) D w v rows) (hne : rows[rows.length - 1]? = some row) :
  Calls Tryz.prog 37 #[.int .i64 x, .pointer (some ⟨c, 0, none⟩)] w (Ret fun r w' => r = .bool (decide (¬ x ∈ row)) ∧ Ext w w') := by
 have hlen := (List.getElem?_eq_some_iff.1 hne).1
 have hmx := hr.max
 obtain ⟨av, cv, rfl⟩ := hr.form
 obtain ⟨b, o, cs, hao, _, hcs, u, rfl, hu⟩ := hr.at hne
 obtain ⟨au, cu, rfl⟩ := hu.form
 have hE := Keep.refl (fun _ => False) w
 refine G.in2 Tryz.func37 rfl Tryz.ntmps37 rfl (Gs 7 rfl (G.ld rfl Tryz.isAgg70 (hB.cells 0 _ rfl) (G.ld rfl Tryz.isAgg70 (hB.cells 0 _ rfl) (Ga 2 rfl (by omega) (G.ops1 rfl rfl (R.indexS Tryz.runUnderlying70 Tryz.sizeOf50 rfl rfl hao (by omega)) (G.ld rfl Tryz.isAgg50 (by rw [show (((rows.length : Nat) : Int) - 1).toNat = rows.length - 1 by omega]; exact hcs 0 _ rfl) (Gs 1 rfl (G.call rfl Tryz.call38 (contains1_ok row x _ D w hu) ?_))))))))
 rintro _ w1 ⟨rfl, hk1⟩
 refine G.ops1 rfl rfl (R.notU rfl (by first | exact not_decide_eq | rfl)) (Gs 4 rfl (G.ret1 Tryz.results37 rfl ⟨_, rfl, rfl, hk1⟩))
theorem Valid.away {f : Fl} (V : Valid f) {i : Nat} {x : Nd} (hx : (cfgN f)[i]? = some x) : (∀ to, to = x.next ∨ to = x.other → to = -1 ∨ 1 ≤ to) ∧ (x.kind = 0 → i = 0) := by
 obtain ⟨k1, _⟩ := lay_loops f.body V.plain 0 1 (1 + widL f.body) (.inr (Nat.le_refl _))
 unfold cfgN at hx
 cases i with
 | zero => simp at hx; subst hx; exact ⟨fun to h => by dsimp only at h; omega, fun _ => rfl⟩
 | succ i =>
  rw [List.getElem?_cons_succ] at hx
  rcases List.mem_append.1 (List.mem_of_getElem? hx) with hm | hm
  ·
   refine ⟨fun to h => by have := k1 x hm to h; omega, fun h => ?_⟩
   have := lay_kinds _ _ _ _ x hm
   omega
  ·
   rw [List.mem_singleton] at hm
   subst hm
   exact ⟨fun to h => by dsimp only at h; omega, fun h => by (cases h)⟩
theorem defN_var {f : Fl} (V : Valid f) {i : Nat} {x : Nd} (hx : (cfgN f)[i]? = some x) (h : asgB f x = true) : x.kind = 2 ∧ 0 ≤ x.at_ ∧ x.at_ < (preL f.body).length ∧ 0 ≤ (stAt f x.at_).var ∧ (stAt f x.at_).var < f.vars.length ∧ defN f x = (stAt f x.at_).var := by
 have h0 := h
 unfold asgB at h
 simp only [Bool.and_eq_true, Bool.or_eq_true, decide_eq_true_eq] at h
 obtain ⟨k2, ha⟩ := h
 obtain ⟨a1, a2⟩ := (V.edge hx).2 k2
 obtain ⟨s, hs⟩ : ∃ s, (preL f.body)[x.at_.toNat]? = some s := ⟨_, List.getElem?_eq_getElem (by omega)⟩
 have e : stAt f x.at_ = s := by unfold stAt; rw [hs]; rfl
 have hv := (V.step s (List.mem_of_getElem? hs)).1.var (e ▸ ha)
 rw [← e] at hv
 exact ⟨k2, a1, a2, hv.1, hv.2, by unfold defN; rw [if_pos h0]⟩
def defL (f : Fl) (la : List Int) (x : Nd) : List Int := if 0 ≤ defN f x then la.set (defN f x).toNat x.at_ else la
structure LaInv (f : Fl) (r : Ins) (i : Nat) (la : List Int) : Prop where
 len : la.length = f.vars.length
 ok : ∀ (v : Nat) d, la[v]? = some d → (i = 0 → d = ((preL f.body).length : Int) + v) ∧ (0 < i → Rch f (cfgN f) (mcAt f r i).at_ d ∧ varD f d = v)
theorem LaInv.next {f : Fl} {r : Ins} (V : Valid f) {K i n : Nat} {x : Nd} {la : List Int} (hg : GoesAll f r K) (h : LaInv f r i la) (hw : OnWalk f r K i n x) (hi : i < K) : LaInv f r (i + 1) (defL f la x) := by
 obtain ⟨n', x', hw'⟩ := onWalk V hg (show i + 1 ≤ K by omega)
 have hto := pass_to f (hatsOf f r) x (stAt f x.at_) (mcAt f r i).σ (mcAt f r i).rd
 have ha : (mcAt f r (i + 1)).at_ = (passN f (hatsOf f r) x (stAt f x.at_) (mcAt f r i).σ (mcAt f r i).rd).1 := by rw [(hw.go hi).1]
 rw [← ha] at hto
 have h0 : 0 ≤ (mcAt f r (i + 1)).at_ := by rw [hw'.at_]; omega
 have hstep : ∀ d, GenD f x d ∨ (Rch f (cfgN f) (n : Int) d ∧ ThruD f x d) → Rch f (cfgN f) (mcAt f r (i + 1)).at_ d := fun d hd => Rch.step hw.nd hto h0 hd
 have hlen := h.len
 by_cases i0 : i = 0
 ·
  subst i0
  have hn : n = 0 := by
   have h1 : (mcAt f r 0).at_ = 0 := rfl
   have := hw.at_
   omega
  subst hn
  have hx0 : x = ⟨0, -1, 1, -1⟩ := by
   have : (cfgN f)[0]? = some (⟨0, -1, 1, -1⟩ : Nd) := rfl
   rw [hw.nd] at this
   exact Option.some.inj this
  subst hx0
  have hd : defL f la ⟨0, -1, 1, -1⟩ = la := by
   unfold defL
   rw [if_neg]
   show ¬ 0 ≤ (if asgB f ⟨0, -1, 1, -1⟩ = true then _ else (-1 : Int))
   rw [if_neg (by simp [asgB])]
   decide
  rw [hd]
  refine ⟨hlen, fun v d hv => ⟨fun h => by omega, fun _ => ?_⟩⟩
  have h1 := (h.ok v d hv).1 rfl
  have hvl := (List.getElem?_eq_some_iff.1 hv).1
  subst h1
  exact ⟨hstep _ (.inl (.inl ⟨rfl, by omega, by omega⟩)), by unfold varD; rw [if_pos (by omega)]; omega⟩
 ·
  have hk0 : x.kind ≠ 0 := by
   intro hk
   have hn := (V.away hw.nd).2 hk
   obtain ⟨m, y, hy⟩ := onWalk V hg (show i - 1 ≤ K by omega)
   have hto' := pass_to f (hatsOf f r) y (stAt f y.at_) (mcAt f r (i - 1)).σ (mcAt f r (i - 1)).rd
   have ha' : (mcAt f r (i - 1 + 1)).at_ = (passN f (hatsOf f r) y (stAt f y.at_) (mcAt f r (i - 1)).σ (mcAt f r (i - 1)).rd).1 := by rw [(hy.go (by omega)).1]
   rw [← ha', show i - 1 + 1 = i by omega] at hto'
   have := (V.away hy.nd).1 _ hto'
   have := hw.at_
   omega
  by_cases hb : asgB f x = true
  ·
   obtain ⟨k2, a1, a2, v1, v2, hd⟩ := defN_var V hw.nd hb
   have hdl : defL f la x = la.set (stAt f x.at_).var.toNat x.at_ := by unfold defL; rw [hd, if_pos v1]
   rw [hdl]
   refine ⟨by rw [List.length_set, hlen], fun v d hv => ⟨fun h => by omega, fun _ => ?_⟩⟩
   by_cases hvv : (stAt f x.at_).var.toNat = v
   ·
    subst hvv
    rw [List.getElem?_set_self (by omega)] at hv
    cases hv
    exact ⟨hstep _ (.inl (.inr ⟨hk0, hb, rfl⟩)), by unfold varD; rw [if_neg (by omega)]; omega⟩
   ·
    rw [List.getElem?_set_ne hvv] at hv
    obtain ⟨h1, h2⟩ := (h.ok v d hv).2 (by omega)
    rw [hw.at_] at h1
    exact ⟨hstep _ (.inr ⟨h1, hk0, fun _ => by omega⟩), h2⟩
  ·
   have hdl : defL f la x = la := by
    unfold defL
    rw [if_neg]
    unfold defN
    rw [if_neg hb]
    decide
   rw [hdl]
   refine ⟨hlen, fun v d hv => ⟨fun h => by omega, fun _ => ?_⟩⟩
   obtain ⟨h1, h2⟩ := (h.ok v d hv).2 (by omega)
   rw [hw.at_] at h1
   exact ⟨hstep _ (.inr ⟨h1, hk0, fun h => absurd h hb⟩), h2⟩
def fillL (S n i : Nat) : List Int := (List.range n).map fun v => if v < i then (S : Int) + v else 0
theorem fillL_set {S n i : Nat} (hi : i < n) : (fillL S n i).set i ((S : Int) + i) = fillL S n (i + 1) := by
 apply List.ext_getElem?
 intro j
 unfold fillL
 rw [List.getElem?_set]
 by_cases h : i = j
 ·
  subst h
  rw [if_pos rfl, List.length_map, List.length_range, if_pos hi, List.getElem?_map, List.getElem?_range hi]
  simp
 ·
  rw [if_neg h, List.getElem?_map, List.getElem?_map]
  by_cases hj : j < n
  ·
   rw [List.getElem?_range hj]
   simp only [Option.map_some, Option.some.injEq]
   by_cases h2 : j < i
   · rw [if_pos h2, if_pos (by omega)]
   · rw [if_neg h2, if_neg (by omega)]
  · rw [List.getElem?_eq_none (by simp; omega)]; rfl
theorem fillL_zero (S n : Nat) : fillL S n 0 = List.replicate n 0 := by
 apply List.ext_getElem?
 intro j
 unfold fillL
 rw [List.getElem?_map, List.getElem?_replicate]
 by_cases hj : j < n
 · rw [List.getElem?_range hj, if_pos hj]; rfl
 · rw [List.getElem?_eq_none (by simp; omega), if_neg hj]; rfl
theorem fillL_len (S n i : Nat) : (fillL S n i).length = n := by simp [fillL]
theorem LaInv.start (f : Fl) (r : Ins) : LaInv f r 0 (fillL (preL f.body).length f.vars.length f.vars.length) := by
 refine ⟨by simp [fillL], fun v d hv => ⟨fun _ => ?_, fun h => by omega⟩⟩
 have hl := (List.getElem?_eq_some_iff.1 hv).1
 simp only [fillL, List.length_map, List.length_range] at hl
 unfold fillL at hv
 rw [List.getElem?_map, List.getElem?_range hl] at hv
 simp only [Option.map_some, Option.some.injEq] at hv
 rw [if_pos hl] at hv
 exact hv.symm
theorem lawLast_ok (f : Fl) (r : Ins) (v1 v2 v3 s1 s2 s3 : Value) (D : Nat → Prop) (W : World) (hf : RFl D W f v1 v2 v3) (hi1 : SlR 1 RInt D W s1 r.secret) (hi2 : SlR 1 RInt D W s2 r.pub) (hi3 : SlR 1 RInt D W s3 r.random) :
  Calls Tryz.prog 8 #[.agg #[v1, v2, v3], .agg #[s1, s2, s3]] W (Ret fun r w' => r = .bool true ∧ Ext W w') := by
 obtain ⟨avs, cvs, rfl⟩ := hf.vars.form
 refine G.in2 Tryz.func8 rfl Tryz.ntmps8 rfl (V.inn ?_)
 refine Vs 2 rfl ?_
 refine V.box 2 rfl rfl (fun b2 => ?_)
 refine V.box 3 rfl rfl (fun b3 => ?_)
 refine Vs 6 rfl ?_
 refine V.call1 Tryz.call14 rfl (fun w hI => known_ok w) ?_
 refine V.ops1 rfl (fun w hI => R.notU rfl (by first | exact not_decide_eq | rfl)) ?_
 refine Vs 2 rfl ?_
 refine V.bool rfl (fun k0 => ?_) (fun k0 => ?_)
 · cases k0
 ·
  refine Vs 6 rfl ?_
  refine V.call2 Tryz.call26 rfl (fun w hI => fit_ok f 4096 4096 256 _ v2 v3 D w (Tr1 hI.k0 hf)) ?_
  rintro rr w1 w2 hI1 hk12 ⟨q, rfl, hq⟩ hlow
  refine V.ops1 rfl (fun w hI => R.notU rfl (by first | exact not_decide_eq | rfl)) ?_
  refine Vs 2 rfl ?_
  refine V.bool rfl (fun q0 => ?_) (fun q0 => ?_)
  ·
   refine Vs 7 rfl ?_
   refine V.ret1 Tryz.results8 rfl (fun w hI => ⟨_, rfl, rfl, hI.k1⟩)
  ·
   have vd : Valid f := valid_of (hq (by simpa using q0))
   have hss := vd.ssize
   have hl := vd.lens
   have hlen := cfgN_len f vd.plain
   have hwl := widL_le f.body
   have hpre := preL_len f.body
   refine Vs 8 rfl ?_
   refine V.call2 Tryz.call28 rfl (fun w hI => refStart_ok f.vars r _ s1 s2 s3 D D D D w (Tr1 hI.k1 hf.vars) (by omega) vd.kinds (Tr1 hI.k1 hi1) (Tr1 hI.k1 hi2) (Tr1 hI.k1 hi3)) ?_
   rintro rr w3 w4 hI3 hk34 ⟨u, rfl, _, _⟩ hlow2
   refine Vs 13 rfl ?_
   refine V.ite rfl (fun e0 => ?_) (fun e0 => ?_)
   ·
    refine Vs 7 rfl ?_
    refine V.ret1 Tryz.results8 rfl (fun w hI => ⟨_, rfl, rfl, hI.k2⟩)
   ·
    have e0' : startCode f.vars r = 0 := by omega
    refine Vs 5 rfl ?_
    refine V.call2 Tryz.call16 rfl (fun w hI => cfgBuild_ok f _ v2 v3 D w (Tr1 hI.k2 hf) vd.size vd.bulk) ?_
    rintro rr w5 w6 hI5 hk56 ⟨nv, rfl, hnv⟩ hlow3
    rw [show graphOf f = cfgN f from if_pos vd.ok] at hnv
    obtain ⟨an, cn, rfl⟩ := hnv.form
    refine Vs 3 rfl ?_
    refine V.alloc 7 Tryz.zeroValue31 rfl rfl (fun b7 => ?_)
    refine Vs 5 rfl ?_
    refine V.dat 900 0 rfl rfl rfl (hnv) (fun b hb _ hs => by have := hlow3 b hs; omega) ?_
    refine Vs 4 rfl ?_
    refine V.call2 Tryz.call27 rfl (fun w hI => cfgWalk_ok f (cfgN f) r _ v2 v3 _ s1 s2 s3 D _ w (Tr1 hI.k3 hf) (hI.at 900 rfl).1 (Tr1 hI.k3 hi1) (Tr1 hI.k3 hi2) (Tr1 hI.k3 hi3) vd.size vd.bulk) ?_
    rintro rr w7 w8 hI7 hk78 ⟨pv, rfl, _, p2⟩ hlow4
    obtain ⟨K, hK, hpv⟩ := p2 (by rw [walkCode_own vd r]; exact e0')
    obtain ⟨ap, cp, rfl⟩ := hpv.form
    have hpl := path_len f r K
    obtain ⟨hK1, hK2⟩ := goes_le vd hK
    refine Vs 8 rfl ?_
    refine V.dat 901 0 rfl rfl rfl (hpv) (fun b hb _ hs => by have := hlow4 b hs; omega) ?_
    refine Vs 3 rfl ?_
    refine V.call2 Tryz.call34 rfl (fun w hI => reaching_ok f (cfgN f) _ v2 v3 _ D _ w (Tr1 hI.k4 hf) (hI.at 900 rfl).1 vd.size vd.bulk) ?_
    rintro rr w9 w10 hI9 hk90 ⟨rv, rfl, _, p3⟩ hlow5
    have hgc : gcheckN f (cfgN f) = 0 := by unfold gcheckN; simp [vd.ok]
    obtain ⟨rows, ⟨hrl, hrows⟩, hrv⟩ := p3 hgc
    obtain ⟨ar, cr, rfl⟩ := hrv.form
    refine Vs 3 rfl ?_
    refine V.alloc 11 Tryz.zeroValue70 rfl rfl (fun b11 => ?_)
    refine Vs 6 rfl ?_
    refine V.dat 902 0 rfl rfl rfl (hrv) (fun b hb _ hs => by have := hlow5 b hs; omega) ?_
    refine Vw [2, 3, 7, 11] [] rfl ?_
    refine Vd [0, 1, 2] 0 (by kernel_rfl) rfl rfl rfl ?_
    refine VD.sp 53 rfl (fun a1 => ?_) (fun a1 => ?_)
    · exact absurd vd.ok a1
    ·
     refine Vd [3, 4, 5, 6] 0 (by kernel_rfl) rfl rfl rfl ?_
     refine VD.sp 57 rfl (fun a2 => ?_) (fun a2 => ?_)
     · exact absurd ((walkCode_own vd r).trans e0') a2
     ·
      refine Vd [7, 8, 9, 10] 0 (by kernel_rfl) rfl rfl rfl ?_
      refine VD.sp 61 rfl (fun a3 => ?_) (fun a3 => ?_)
      · exact absurd hgc a3
      ·
       refine Vd [11, 12, 13, 14, 15, 16, 17, 18] 0 (by kernel_rfl) rfl rfl rfl ?_
       refine VD.sp 69 rfl (fun a4 => ?_) (fun a4 => ?_)
       · omega
       ·
        refine Vd [19, 20, 21, 22, 23] 0 (by kernel_rfl) rfl rfl rfl ?_
        refine VD.sp 74 rfl (fun a5 => ?_) (fun a5 => ?_)
        · omega
        ·
         refine Vd [24, 25, 26] 0 (by kernel_rfl) rfl rfl rfl ?_
         refine VD.call2 27 0 Tryz.call20 rfl (by kernel_rfl) rfl rfl (fun w hI => refBuild_ok f _ v2 v3 D w (Tr1 hI.k5 hf) (by omega)) ?_
         rintro rr w11 w12 hI11 hk112 ⟨nv2, rfl, hnv2⟩ hlow6
         obtain ⟨an2, cn2, rfl⟩ := hnv2.form
         refine VD.ops1 28 1 rfl (by kernel_rfl) rfl rfl (fun w hI => R.field Tryz.runUnderlying31 rfl Tryz.isAgg29 rfl rfl) ?_
         refine VD.call1 29 1 Tryz.call19 rfl (by kernel_rfl) rfl rfl (fun w hI => eqNodes_ok (cfgN f) (cfgN f) _ _ _ _ w (hI.at 900 rfl).1 (hnv2.keep stable_nd hI.k0 fun b hb _ hs => by have := hlow6 b hs; omega)) ?_
         refine VD.ops1 30 1 rfl (by kernel_rfl) rfl rfl (fun w hI => R.notU rfl not_decide_eq) ?_
         refine Vd [31] 1 (by kernel_rfl) rfl rfl rfl ?_
         refine VD.done (by kernel_rfl) ?_
         refine Vs 1 rfl ?_
         refine V.ite rfl (fun a6 => ?_) (fun a6 => ?_)
         · exact absurd rfl a6
         ·
          refine Vs 6 rfl ?_
          refine V.call1 Tryz.call23 rfl (fun w hI => refSize_ok f.body v3 D w (Tr1 hI.k6 hf.body) (by omega)) ?_
          refine Vs 8 rfl ?_
          refine V.make 89 Tryz.underlying50 Tryz.el3 rfl (by omega) (by omega) (zs := List.replicate f.vars.length (.int .i64 0)) (made1 _ _ rfl) (by simp) (fun b89 => ?_)
          refine V.heq 89 rfl (e' := .row 3 1 (.slice (some ⟨b89, 0, none⟩) f.vars.length f.vars.length) f.vars.length ((fillL (ssize f.body) f.vars.length 0).map encI1)) (by rw [fillL_zero, List.map_replicate]) ?_
          refine Vs 12 rfl ?_
          refine V.loopK (σ := Nat) [2, 7, 9, 11, 13, 14, 91] [2, 7, 11, 900, 901, 902] [2, 7, 11] rfl (fun e i => (92, .int .i64 i) :: e) (fun e i => (89, .row 3 1 (.slice (some ⟨b89, 0, none⟩) f.vars.length f.vars.length) f.vars.length ((fillL (ssize f.body) f.vars.length i).map encI1)) :: e) (fun i => i ≤ f.vars.length) (fun i => f.vars.length - i) (0) (Sub.of rfl) (Has.of rfl) (fun _ => rfl) (fun _ => rfl) (fun _ => rfl) (Nat.zero_le _) ?_
          rintro i hi
          refine Vs 6 rfl ?_
          refine V.ite rfl (fun hlt => ?_) (fun hlt => ?_)
          ·
           refine Va 17 rfl (by omega) ?_
           refine V.rs 89 (i) Tryz.sizeOf3 rfl (by omega) (by simp [fillL_len]; omega) ?_
           refine V.heq 89 rfl (e' := .row 3 1 (.slice (some ⟨b89, 0, none⟩) f.vars.length f.vars.length) f.vars.length ((fillL (ssize f.body) f.vars.length (i + 1)).map encI1)) (by rw [← fillL_set (by omega), List.map_set] <;> rfl) ?_
           refine Va 7 rfl (by omega) ?_
           refine V.back (i + 1) (Sub.of rfl) (Has.of rfl) (by omega) (by first | omega | (dsimp only; omega)) 0 rfl rfl
          ·
           have hii : i = f.vars.length := by omega
           subst hii
           have hla0 : LaInv f r 0 (fillL (ssize f.body) f.vars.length f.vars.length) := hpre ▸ LaInv.start f r
           refine Vs 14 rfl ?_
           refine V.loopK (σ := Nat × List Int) [2, 7, 11, 14, 102, 103] [2, 7, 11, 900, 901, 902] [2, 7, 11] rfl (fun e ⟨i, la⟩ => (104, .int .i64 i) :: e) (fun e ⟨i, la⟩ => (89, .row 3 1 (.slice (some ⟨b89, 0, none⟩) f.vars.length f.vars.length) f.vars.length (la.map encI1)) :: e) (fun ⟨i, la⟩ => i ≤ K + 1 ∧ (i ≤ K → LaInv f r i la) ∧ (i = K + 1 → LaInv f r K la) ∧ la.length = f.vars.length) (fun ⟨i, la⟩ => K + 1 - i) ((0, fillL (ssize f.body) f.vars.length f.vars.length)) (Sub.of rfl) (Has.of rfl) (fun _ => rfl) (fun _ => rfl) (fun _ => rfl) (⟨Nat.zero_le _, fun _ => hla0, fun h => by omega, fillL_len _ _ _⟩) ?_
           rintro ⟨i, la⟩ ⟨hi2, hla, hfin, hll⟩
           show V _ _ _ _ _ ((104, .int .i64 i) :: _) _ ((89, .row 3 1 (.slice (some ⟨b89, 0, none⟩) f.vars.length f.vars.length) f.vars.length (la.map encI1)) :: _) _
           refine Vs 6 rfl ?_
           refine V.ite rfl (fun hlt2 => ?_) (fun hlt2 => ?_)
           ·
            obtain ⟨n, x, hw⟩ := onWalk vd hK (show i ≤ K by omega)
            have hlai := hla (by omega)
            have hnl := (List.getElem?_eq_some_iff.1 hw.nd).1
            refine Vs 6 rfl ?_
            obtain ⟨k, he_k⟩ : ∃ z_, (pathOf f r K)[i]? = some z_ := ⟨_, List.getElem?_eq_getElem (by omega)⟩
            have hm_k := List.mem_of_getElem? he_k
            obtain ⟨b_k, o_k, c_k, ha_k, hd_k, hc_k, hR_k⟩ := hpv.atD he_k
            obtain rfl := hR_k
            refine V.frS 1000 2 rfl rfl (fun h_ => by have h1_ := hlow4 _ h_; have h2_ := hd_k; omega) hc_k ?_
            refine V.ix 1000 Tryz.runUnderlying50 Tryz.sizeOf3 rfl ha_k (by omega) (_) (rfl) rfl ?_
            obtain rfl : k = (n : Int) := by rw [path_get (by omega)] at he_k; cases he_k; exact hw.at_
            refine Vs 10 rfl ?_
            refine V.sp 110 rfl (fun b1 => ?_) (fun b1 => ?_)
            · omega
            ·
             refine Vs 8 rfl ?_
             refine V.ite rfl (fun b2 => ?_) (fun b2 => ?_)
             · omega
             ·
              refine Vs 7 rfl ?_
              refine V.call1 Tryz.call35 rfl (fun w hI => defines_ok f (cfgN f) n x _ v2 v3 _ D _ w (Tr1 hI.k6 hf) (hI.at 900 rfl).1 hw.nd (vd.edge hw.nd).2 (by omega)) ?_
              refine Vs 9 rfl ?_
              refine V.ite rfl (fun c1 => ?_) (fun c1 => ?_)
              ·
               have hb : asgB f x = true := by
                by_cases hb : asgB f x = true
                · exact hb
                · exfalso; unfold defN at c1; rw [if_neg hb] at c1; exact absurd c1 (by decide)
               obtain ⟨k2, g1, g2, g3, g4, g5⟩ := defN_var vd hw.nd hb
               have hiK : i < K := by
                rcases Nat.lt_or_ge i K with h | h
                · exact h
                · have := (hw.fin (by omega)).2; omega
               have hnx := hlai.next vd hK hw hiK
               rw [show defL f la x = la.set (defN f x).toNat x.at_ from if_pos c1] at hnx
               refine Vs 6 rfl ?_
               obtain ⟨y, he_y⟩ : ∃ z_, (cfgN f)[n]? = some z_ := ⟨_, List.getElem?_eq_getElem (by omega)⟩
               have hm_y := List.mem_of_getElem? he_y
               obtain ⟨b_y, o_y, c_y, ha_y, hd_y, hc_y, hR_y⟩ := hnv.atD he_y
               obtain rfl := hR_y
               refine V.frS 2000 3 rfl rfl (fun h_ => by have h1_ := hlow3 _ h_; have h2_ := hd_y; omega) hc_y ?_
               refine V.ix 2000 Tryz.runUnderlying29 Tryz.sizeOf40 rfl ha_y (by omega) (_) (rfl) rfl ?_
               obtain rfl : x = y := by have h := hw.nd; rw [he_y] at h; cases h; rfl
               refine Va 3 rfl (by omega) ?_
               refine V.rs 89 ((defN f x).toNat) Tryz.sizeOf3 rfl (by omega) (by simp; omega) ?_
               refine V.heq 89 rfl (e' := .row 3 1 (.slice (some ⟨b89, 0, none⟩) f.vars.length f.vars.length) f.vars.length ((la.set (defN f x).toNat x.at_).map encI1)) (by rw [List.map_set] <;> rfl) ?_
               refine Va 7 rfl (by omega) ?_
               refine V.back (⟨i + 1, la.set (defN f x).toNat x.at_⟩) (Sub.of rfl) (Has.of rfl) (⟨by omega, fun _ => hnx, fun h => by omega, by rw [List.length_set, hll]⟩) (by first | omega | (dsimp only; omega)) 0 rfl rfl
              ·
               refine Va 7 rfl (by omega) ?_
               refine V.back (⟨i + 1, la⟩) (Sub.of rfl) (Has.of rfl) (⟨by omega, fun h => (if_neg c1 : defL f la x = la) ▸ hlai.next vd hK hw (by omega), fun h => (show i = K by omega) ▸ hlai, hll⟩) (by first | omega | (dsimp only; omega)) 0 rfl rfl
           ·
            have hend := hfin (by omega)
            obtain ⟨n, x, hw⟩ := onWalk vd hK (Nat.le_refl K)
            obtain ⟨row, hrow⟩ : ∃ row, rows[rows.length - 1]? = some row := ⟨_, List.getElem?_eq_getElem (by omega)⟩
            have hany : la.any (fun x => decide (¬ x ∈ row)) = false := by
             rw [List.any_eq_false]
             intro d hd
             obtain ⟨v, hv⟩ := List.mem_iff_getElem?.1 hd
             have h1 := ((hend.ok v d hv).2 (by omega)).1
             rw [hw.at_] at h1
             have h2 := (hw.fin rfl).1
             rw [show (n : Int) = ((rows.length - 1 : Nat) : Int) by omega] at h1
             have h3 := ((hrows _ row hrow).2 d).2 h1
             simp [h3]
            refine Vs 9 rfl ?_
            refine V.call1 Tryz.call36 rfl (fun w hI => containsF_ok la _ (fun _ => True) w (SlR.ofRow1 encI1 (fun _ _ => rfl) (hI.at 89 rfl) (fun _ _ => trivial)) (fun x => decide (¬ x ∈ row)) 37 (.pointer (some ⟨b11, 0, none⟩)) Tryz.call37 (fun x _ w' hk => lastC_ok x rows row b11 _ _ w' (Tr1 hk (show Blk w b11 [.slice ar rows.length cr] 70 from hI.at 11 rfl)) (Tr1 hk (hI.at 902 rfl).1) hrow)) ?_
            rw [hany]
            refine V.ops1 rfl (fun w hI => R.notU rfl (by first | exact not_decide_eq | rfl)) ?_
            refine Vs 4 rfl ?_
            refine V.ret1 Tryz.results8 rfl (fun w hI => ⟨_, rfl, rfl, hI.k6⟩)
end Go.Proofs.YtldhllpogdikdaaGreat
