/-
  Contracts and the mathematics that the proof needs. Nothing here is a claim.
-/
import Derived.Test.YtldhllpogdikdaaGreatKS5
namespace Go.Proofs.YtldhllpogdikdaaGreat
open Go.GL
theorem known_ok (w : World) : Calls Tryz.prog 14 #[] w (Ret fun r w' => r = .bool true ∧ Ext w w') := by
 have hE := Keep.refl (fun _ => False) w
 refine G.in0 Tryz.func14 rfl Tryz.ntmps14 (Gs 7 rfl (G.call rfl Tryz.call56 (example20_ok _) ?_))
 rintro _ w1 ⟨⟨v1, v2, v3, rfl, hf⟩, hk1⟩
 replace hE := Tr1 hk1 hE
 obtain ⟨a1, n1, rfl⟩ := hf.vars.form
 obtain ⟨a2, n2, rfl⟩ := hf.hatches.form
 obtain ⟨a3, n3, rfl⟩ := hf.body.form
 refine G.mem rfl rfl (M.alloc (cs := _) Tryz.zeroValue26 rfl) ?_
 rintro _ wa1 ⟨bf, rfl, hg_bf, hs_bf, hB_bf, hk_bf⟩
 refine G.mem0 rfl (M.storeK Tryz.sizeOf26 rfl rfl rfl rfl (by simp [Value.oneCell']) hB_bf (by simp)) ?_
 rintro w_bf ⟨_, hB_bf, hkk_bf⟩
 replace hk_bf := hk_bf.trans hkk_bf (fun q hq h => by have h : q = bf := h; omega)
 have hge_bf : _ ≤ bf := Nat.le_trans hE.size (Nat.le_of_eq hg_bf.symm)
 obtain ⟨hE, hf⟩ := Tr2 hk_bf hE hf
 refine Gs 4 rfl (G.ldK rfl Tryz.isAgg26 Tryz.sizeOf26 hB_bf.cells rfl (G.call rfl Tryz.call16 (cfgBuild_ok exF20 _ _ _ _ _ hf ex_size ex_bulk) ?_))
 rintro _ w2 ⟨⟨nv, rfl, hg⟩, hk2⟩
 rw [graphOf, if_pos ex_check, ex_graph] at hg
 rw [ex_check]
 obtain ⟨hE, hf, hB_bf⟩ := Tr3 hk2 hE hf hB_bf
 obtain ⟨ag, cg, rfl⟩ := hg.form
 refine Gs 3 rfl (G.mem rfl rfl (M.alloc (cs := _) Tryz.zeroValue31 rfl) ?_)
 rintro _ wa2 ⟨bg, rfl, hg_bg, hs_bg, hB_bg, hk_bg⟩
 refine G.mem0 rfl (M.storeK Tryz.sizeOf31 rfl rfl rfl rfl (by simp [Value.oneCell']) hB_bg (by simp)) ?_
 rintro w_bg ⟨_, hB_bg, hkk_bg⟩
 replace hk_bg := hk_bg.trans hkk_bg (fun q hq h => by have h : q = bg := h; omega)
 have hn_bf_bg : bf ≠ bg := by have := hB_bf.lt; omega
 have hge_bg : _ ≤ bg := Nat.le_trans hE.size (Nat.le_of_eq hg_bg.symm)
 obtain ⟨hE, hf, hB_bf, hg⟩ := Tr4 hk_bg hE hf hB_bf hg
 refine Gs 5 rfl (G.ldK rfl Tryz.isAgg26 Tryz.sizeOf26 hB_bf.cells rfl (G.call rfl Tryz.call22 (nodeAt_ok exF20 3 _ _ _ _ _ hf ex_size ex_bulk) ?_))
 rintro _ w3 ⟨rfl, hk3⟩
 rw [ex_nodeAt]
 obtain ⟨hE, hf, hB_bf, hg, hB_bg⟩ := Tr5 hk3 hE hf hB_bf hg hB_bg
 refine Gs 9 rfl (G.ldK rfl Tryz.isAgg26 Tryz.sizeOf26 hB_bf.cells rfl (G.ldK rfl Tryz.isAgg31 Tryz.sizeOf31 hB_bg.cells rfl (G.mem rfl rfl (M.buildSlice (cs := [.int .i64 1]) [(0, _)] Tryz.runUnderlying50 Tryz.sizeOf3 Tryz.zeroValue3 (by decide) rfl (by kernel_rfl)) ?_)))
 rintro _ w4 ⟨g4, rfl, hg4, hs4, hB4, hk4⟩
 obtain ⟨hE, hf, hB_bf, hg, hB_bg⟩ := Tr5 hk4 hE hf hB_bf hg hB_bg
 have hi1 : SlR 1 RInt (fun _ => True) w4 (.slice (some ⟨g4, 0, none⟩) 1 1) exI20.secret := SlR.ofRow1 encI1 (fun x _ => rfl) (own_blk (k := 1) (n := 1) (cap := 1) hB4 (Nat.le_refl _) (by decide) rfl) (fun _ _ => trivial)
 refine G.ops1 rfl rfl (R.build (v := .agg #[.slice (some ⟨g4, 0, none⟩) 1 1, .slice none 0 0, .slice none 0 0]) [(0, _)] rfl (fun _ => by kernel_rfl)) (G.call rfl Tryz.call27 (cfgWalk_ok exF20 exG20 exI20 _ _ _ _ _ _ _ (fun _ => True) _ _ (rflWide hf (fun _ _ => trivial)) hg hi1 SlR.nil SlR.nil ex_size ex_bulk) ?_)
 rintro _ w5 ⟨⟨pv, rfl, _, hp⟩, hk5⟩
 rw [ex_walkCode]
 obtain ⟨K, hK, hpv⟩ := hp ex_walkCode
 obtain rfl := hK.unique ex_goes
 rw [ex_path] at hpv
 obtain ⟨ap, cp, rfl⟩ := hpv.form
 obtain ⟨hE, hf, hB_bf, hg, hB_bg⟩ := Tr5 hk5 hE hf hB_bf hg hB_bg
 refine Gs 9 rfl (G.ldK rfl Tryz.isAgg26 Tryz.sizeOf26 hB_bf.cells rfl (G.ldK rfl Tryz.isAgg31 Tryz.sizeOf31 hB_bg.cells rfl (G.call rfl Tryz.call34 (reaching_ok exF20 exG20 _ _ _ _ _ _ _ hf hg ex_size ex_bulk) ?_)))
 rintro _ w6 ⟨⟨rv, rfl, _, hr⟩, hk6⟩
 rw [ex_gcheck]
 obtain ⟨rows, hrows, hrv⟩ := hr ex_gcheck
 rw [ex_graph] at hrows
 obtain ⟨r4, hr4, e4⟩ := ex_row hrows
 have hrl : rows.length = 7 := hrows.1
 obtain ⟨ar, cr, rfl⟩ := hrv.form
 obtain ⟨rb, ro, rc, hra, _, hrc, r4v, rfl, hr4s⟩ := hrv.at hr4
 obtain ⟨xa, xc, rfl⟩ := hr4s.form
 rw [hrl] at hrv ⊢
 obtain ⟨hE, hf, hB_bf, hg, hB_bg, hpv⟩ := Tr6 hk6 hE hf hB_bf hg hB_bg hpv
 refine Ga 18 rfl (by omega) (G.sp 43 rfl (fun q1 => ?_) (fun q1 => ?_))
 ·
  refine Gs 1 rfl (G.ld rfl Tryz.isAgg29 (hB_bg.cells 0 _ rfl) (Gs 4 rfl (G.sp 49 rfl (fun q2 => ?_) (fun q2 => ?_))))
  ·
   have he4 : exG20[4]? = some ⟨5, 2, 5, 6⟩ := rfl
   obtain ⟨eb, eo, ec, hea, _, hec, rfl⟩ := hg.at he4
   refine Gs 1 rfl (G.ld rfl Tryz.isAgg29 (hB_bg.cells 0 _ rfl) (G.ops1 rfl rfl (R.indexS Tryz.runUnderlying29 Tryz.sizeOf40 rfl rfl hea (by decide)) (G.ldK rfl Tryz.isAgg40 Tryz.sizeOf40 hec rfl (G.ops1 rfl rfl (R.build (v := .agg #[.int .i64 5, .int .i64 2, .int .i64 5, .int .i64 6]) [(0, _), (1, _), (2, _), (3, _)] rfl (fun _ => by kernel_rfl)) (G.ops1 rfl rfl (eqNd (a := ⟨5, 2, 5, 6⟩) (b := ⟨5, 2, 5, 6⟩) rfl rfl) (Gs 2 rfl (G.sp 57 rfl (fun q3 => ?_) (fun q3 => ?_))))))))
   ·
    refine Gs 4 rfl (G.sp 61 rfl (fun q4 => ?_) (fun q4 => ?_))
    ·
     refine Gs 1 rfl (G.mem rfl rfl (M.buildSlice (cs := [.int .i64 0, .int .i64 1, .int .i64 2, .int .i64 3, .int .i64 4, .int .i64 5, .int .i64 4, .int .i64 5, .int .i64 4, .int .i64 6]) [(0, _), (1, _), (2, _), (3, _), (4, _), (5, _), (6, _), (7, _), (8, _), (9, _)] Tryz.runUnderlying50 Tryz.sizeOf3 Tryz.zeroValue3 (by decide) rfl (by kernel_rfl)) ?_)
     rintro _ w7 ⟨g7, rfl, hg7, hs7, hB7, hk7⟩
     obtain ⟨hE, hf, hB_bf, hg, hB_bg, hpv, hrc⟩ := Tr7 hk7 hE hf hB_bf hg hB_bg hpv hrc
     replace hr4s := Tr1 hk7 hr4s
     have hc7 : SlR 1 RInt (fun _ => True) w7 (.slice (some ⟨g7, 0, none⟩) 10 10) [0, 1, 2, 3, 4, 5, 4, 5, 4, 6] := SlR.ofRow1 encI1 (fun x _ => rfl) (own_blk (k := 1) (n := 10) (cap := 10) hB7 (Nat.le_refl _) (by decide) rfl) (fun _ _ => trivial)
     refine G.call rfl Tryz.call30 (equal_ok [0, 1, 2, 3, 4, 5, 4, 5, 4, 6] [0, 1, 2, 3, 4, 5, 4, 5, 4, 6] _ _ _ _ _ hpv hc7) ?_
     rintro _ wz3 ⟨rfl, hz3⟩
     obtain ⟨hE, hf, hB_bf, hg, hB_bg, hpv, hrc⟩ := Tr7 hz3 hE hf hB_bf hg hB_bg hpv hrc
     replace hr4s := Tr1 hz3 hr4s
     refine Gs 2 rfl (G.sp 66 rfl (fun q5 => ?_) (fun q5 => ?_))
     ·
      refine Gs 5 rfl (G.sp 71 rfl (fun q6 => ?_) (fun q6 => ?_))
      ·
       refine Gs 1 rfl (G.ops1 rfl rfl (R.indexS Tryz.runUnderlying70 Tryz.sizeOf50 rfl rfl hra (by decide)) (G.ld rfl Tryz.isAgg50 (hrc 0 _ rfl) (G.mem rfl rfl (M.buildSlice (cs := [.int .i64 1, .int .i64 4, .int .i64 5]) [(0, _), (1, _), (2, _)] Tryz.runUnderlying50 Tryz.sizeOf3 Tryz.zeroValue3 (by decide) rfl (by kernel_rfl)) ?_)))
       rintro _ w8 ⟨g8, rfl, hg8, hs8, hB8, hk8⟩
       obtain ⟨hE, hf, hB_bf, hg, hB_bg, hpv, hrc⟩ := Tr7 hk8 hE hf hB_bf hg hB_bg hpv hrc
       replace hr4s := Tr1 hk8 hr4s
       have hc8 : SlR 1 RInt (fun _ => True) w8 (.slice (some ⟨g8, 0, none⟩) 3 3) [1, 4, 5] := SlR.ofRow1 encI1 (fun x _ => rfl) (own_blk (k := 1) (n := 3) (cap := 3) hB8 (Nat.le_refl _) (by decide) rfl) (fun _ _ => trivial)
       refine G.call rfl Tryz.call30 (equal_ok r4 [1, 4, 5] _ _ _ _ _ hr4s hc8) ?_
       rintro _ wz4 ⟨rfl, hz4⟩
       obtain ⟨hE, hf, hB_bf, hg, hB_bg, hpv, hrc⟩ := Tr7 hz4 hE hf hB_bf hg hB_bg hpv hrc
       replace hr4s := Tr1 hz4 hr4s
       refine Gs 5 rfl (G.ret1 Tryz.results14 rfl ⟨_, rfl, by rw [decide_eq_true e4], hE⟩)
      · exact absurd (by decide) q6
     · exact absurd (by decide) q5
    · exact absurd (by decide) q4
   · exact absurd (by decide) q3
  · exact absurd (by decide) q2
 · exact absurd (by decide) q1
theorem valid_of {f : Fl} (h : ((f.vars.length : Int) ≤ 10 ∧ (f.hatches.length : Int) ≤ 10 ∧ ((sbulk f.body + hnodes f.hatches : Nat) : Int) ≤ 80) ∧ checkN f = 0) : Valid f := by
 obtain ⟨⟨_, _, h1⟩, h2⟩ := h
 have h3 := sbulk_snodes f.body
 exact ⟨h2, by omega, by omega⟩
theorem pass_to (f : Fl) (hs : List Int) (x : Nd) (s : St) (σ : Sg) (rd : Int → Int) : (passN f hs x s σ rd).1 = x.next ∨ (passN f hs x s σ rd).1 = x.other := by
 unfold passN
 split
 · exact .inl rfl
 split
 · exact .inl rfl
 split
 · exact .inl rfl
 split
 · exact .inr rfl
 ·
  dsimp only; split
  · exact .inl rfl
  · exact .inr rfl
structure OnWalk (f : Fl) (r : Ins) (K i : Nat) (n : Nat) (x : Nd) : Prop where
 at_ : (mcAt f r i).at_ = (n : Int)
 nd : (cfgN f)[n]? = some x
 go : i < K → mcAt f r (i + 1) = ⟨(passN f (hatsOf f r) x (stAt f x.at_) (mcAt f r i).σ (mcAt f r i).rd).1, (passN f (hatsOf f r) x (stAt f x.at_) (mcAt f r i).σ (mcAt f r i).rd).2.1, (passN f (hatsOf f r) x (stAt f x.at_) (mcAt f r i).σ (mcAt f r i).rd).2.2⟩ ∧ (x.kind = 0 ∨ x.kind = 2 ∨ x.kind = 3 ∨ x.kind = 4 ∨ x.kind = 5)
 fin : i = K → n + 1 = (cfgN f).length ∧ x.kind = 1
theorem onWalk {f : Fl} {r : Ins} (vd : Valid f) {K : Nat} (hg : GoesAll f r K) {i : Nat} (hi : i ≤ K) : ∃ n x, OnWalk f r K i n x := by
 have hlen := cfgN_len f vd.plain
 rcases Nat.lt_or_ge i K with h | h
 ·
  have h3 : 0 ≤ (mcAt f r i).at_ ∧ (mcAt f r i).at_ < ((cfgN f).length : Int) - 1 := by
   obtain ⟨_, _, h2⟩ := hg
   exact h2 i h
  obtain ⟨h4, h5⟩ := vd.node h3.1 h3.2
  refine ⟨(mcAt f r i).at_.toNat, _, by omega, h4, fun _ => ⟨?_, h5.kind⟩, fun h' => by omega⟩
  rw [show mcAt f r (i + 1) = stepM f (hatsOf f r) (cfgN f) (mcAt f r i) from iterM_succ _ _ _ _ _]
  rfl
 ·
  obtain rfl : i = K := by omega
  obtain ⟨_, h1, _⟩ := hg
  have h1' : mcAt f r i = _ := h1
  refine ⟨(cfgN f).length - 1, ⟨1, -1, -1, -1⟩, by rw [h1']; dsimp only; omega, ?_, fun h' => by omega, fun _ => ⟨by omega, rfl⟩⟩
  obtain ⟨x, hx⟩ : ∃ x, (cfgN f)[(cfgN f).length - 1]? = some x := ⟨_, List.getElem?_eq_getElem (by omega)⟩
  rw [hx, (ends_of vd hx).1 (by omega)]
structure RoInv (f : Fl) (r : Ins) (i : Nat) (ro : List Int) : Prop where
 len : ro.length = (cfgN f).length
 bd : ∀ (k : Nat) v, ro[k]? = some v → 0 ≤ v ∧ v ≤ i
 inn : ∀ (h : Nat) y E, (cfgN f)[h]? = some y → y.kind = 5 → LoopOf f h y E → (h : Int) ≤ (mcAt f r i).at_ → (mcAt f r i).at_ < (E : Int) → ro[h]? = some ((mcAt f r i).rd y.at_) ∧ (mcAt f r i).rd y.at_ ≤ (stAt f y.at_).n
theorem RoInv.start (f : Fl) (r : Ins) : RoInv f r 0 (List.replicate (cfgN f).length 0) :=
 ⟨by simp, fun k v h => by rw [List.getElem?_replicate] at h; split at h <;> cases h; omega, fun h y E hy hk hl h1 h2 => by
  have h0 : (mcAt f r 0).at_ = 0 := rfl
  rw [h0] at h1
  obtain rfl : h = 0 := by omega
  have : (cfgN f)[0]? = some (⟨0, -1, 1, -1⟩ : Nd) := rfl
  rw [hy] at this
  cases this
  cases hk⟩
theorem RoInv.keep {f : Fl} {r : Ins} {i K n : Nat} {x : Nd} {ro : List Int} (h : RoInv f r i ro) (hw : OnWalk f r K i n x) (hi : i < K) (k4 : x.kind ≠ 4) (k5 : x.kind ≠ 5) : RoInv f r (i + 1) ro := by
 obtain ⟨h1, h2⟩ := hw.go hi
 have hrd : (mcAt f r (i + 1)).rd = (mcAt f r i).rd := by
  rw [h1]
  dsimp only
  unfold passN
  rcases h2 with h2 | h2 | h2 | h2 | h2
  · rw [if_pos h2]
  · rw [if_neg (by omega), if_pos h2]
  · rw [if_neg (by omega), if_neg (by omega), if_neg (by omega), if_neg (fun h => k5 h.1), if_neg k5]
  · exact absurd h2 k4
  · exact absurd h2 k5
 have hto := pass_to f (hatsOf f r) x (stAt f x.at_) (mcAt f r i).σ (mcAt f r i).rd
 refine ⟨h.len, fun k v hv => by have := h.bd k v hv; omega, fun q y E hy hk hl h1' h2' => ?_⟩
 rw [hrd]
 have ha : (mcAt f r (i + 1)).at_ = (passN f (hatsOf f r) x (stAt f x.at_) (mcAt f r i).σ (mcAt f r i).rd).1 := by rw [h1]
 rw [ha] at h1' h2'
 rcases hl.only n x hw.nd _ hto h1' h2' with h3 | h3
 · exact h.inn q y E hy hk hl (by rw [hw.at_]; omega) (by rw [hw.at_]; omega)
 · exact absurd h3.2.1 k4
theorem RoInv.enter {f : Fl} {r : Ins} (vd : Valid f) {i K n : Nat} {x : Nd} {ro : List Int} (h : RoInv f r i ro) (hw : OnWalk f r K i n x) (hi : i < K) (k4 : x.kind = 4) : (mcAt f r (i + 1)).at_ = x.next ∧ 0 ≤ x.next ∧ x.next < (cfgN f).length ∧ RoInv f r (i + 1) (ro.set x.next.toNat 0) := by
 obtain ⟨h1, _⟩ := hw.go hi
 have hp : passN f (hatsOf f r) x (stAt f x.at_) (mcAt f r i).σ (mcAt f r i).rd = (x.next, (mcAt f r i).σ, updR (mcAt f r i).rd x.at_ 0) := by unfold passN; rw [if_neg (by omega), if_neg (by omega), if_pos k4]
 rw [hp] at h1
 obtain ⟨h0, y2, hy2, ky2, at2⟩ := (vd.part hw.nd).2.1 k4
 have hlt := (List.getElem?_eq_some_iff.1 hy2).1
 have hlen := h.len
 refine ⟨by rw [h1], h0, by omega, by rw [List.length_set, hlen], fun k v hv => ?_, fun q y E hy hk hl h1' h2' => ?_⟩
 ·
  rw [List.getElem?_set] at hv
  split at hv
  ·
   split at hv
   · cases hv; omega
   · cases hv
  · have := h.bd k v hv; omega
 ·
  rw [h1] at h1' h2' ⊢
  dsimp only at h1' h2' ⊢
  by_cases hq : q = x.next.toNat
  ·
   subst hq
   rw [hy2] at hy
   cases hy
   have hs := vd.step (stAt f y2.at_)
   have h3 := (vd.part hy2).2.2 ky2
   rw [List.getElem?_set_self (by omega)]
   unfold updR
   rw [if_pos at2]
   refine ⟨rfl, ?_⟩
   have h5 := vd.node (k := ((x.next.toNat : Nat) : Int)) (by omega) (by
    have := (ends_of vd hy2).1
    rcases Nat.lt_or_ge (x.next.toNat + 1) (cfgN f).length with h | h
    · omega
    ·
     have := this (by omega); rw [this] at ky2; cases ky2)
   rw [Int.toNat_natCast, hy2] at h5
   have h6 := Option.some.inj h5.1
   obtain ⟨h7, h8, _⟩ := h5.2.step (by rw [← h6]; omega)
   rw [← h6] at h8
   exact ((hs (List.mem_of_getElem? h8)).2.2 h3).1
  ·
   have hne : y.at_ ≠ x.at_ := fun e => hq (vd.heads hy hy2 hk ky2 (by rw [e, at2]))
   rw [List.getElem?_set_ne (fun e => hq e.symm)]
   unfold updR
   rw [if_neg hne]
   rcases hl.only n x hw.nd _ (.inl rfl) h1' h2' with h3 | h3
   · exact h.inn q y E hy hk hl (by rw [hw.at_]; omega) (by rw [hw.at_]; omega)
   · omega
theorem RoInv.head {f : Fl} {r : Ins} (vd : Valid f) {i K n : Nat} {x : Nd} {ro : List Int} (h : RoInv f r i ro) (hw : OnWalk f r K i n x) (k5 : x.kind = 5) : ∃ v : Int, ro[n]? = some v ∧ 0 ≤ v ∧ v ≤ i ∧ v ≤ (stAt f x.at_).n ∧ (i < K → RoInv f r (i + 1) (ro.set n (v + 1))) := by
 obtain ⟨E0, hE0⟩ := vd.loop hw.nd k5
 have hE0' := hE0.lt
 obtain ⟨h1, h2⟩ := h.inn n x E0 hw.nd k5 hE0 (by rw [hw.at_]; omega) (by rw [hw.at_]; omega)
 have hbd := h.bd n _ h1
 have hlt := (List.getElem?_eq_some_iff.1 h1).1
 refine ⟨_, h1, hbd.1, hbd.2, h2, fun hi => ⟨by rw [List.length_set, h.len], fun k v hv => ?_, fun q y E hy hk hl h1' h2' => ?_⟩⟩
 ·
  by_cases e : n = k
  ·
   subst e
   rw [List.getElem?_set_self (by omega)] at hv
   cases hv; omega
  ·
   rw [List.getElem?_set_ne e] at hv
   have := h.bd k v hv; omega
 ·
  obtain ⟨g1, _⟩ := hw.go hi
  have hto := pass_to f (hatsOf f r) x (stAt f x.at_) (mcAt f r i).σ (mcAt f r i).rd
  have ha : (mcAt f r (i + 1)).at_ = (passN f (hatsOf f r) x (stAt f x.at_) (mcAt f r i).σ (mcAt f r i).rd).1 := by rw [g1]
  have hr : (mcAt f r (i + 1)).rd = (passN f (hatsOf f r) x (stAt f x.at_) (mcAt f r i).σ (mcAt f r i).rd).2.2 := by rw [g1]
  rw [ha] at h1' h2'
  rw [hr]
  have hpo : (mcAt f r i).rd x.at_ = (stAt f x.at_).n → passN f (hatsOf f r) x (stAt f x.at_) (mcAt f r i).σ (mcAt f r i).rd = (x.other, (mcAt f r i).σ, (mcAt f r i).rd) := fun e => by
   unfold passN; rw [if_neg (by omega), if_neg (by omega), if_neg (by omega), if_pos ⟨k5, e⟩]
  have hpn : (mcAt f r i).rd x.at_ ≠ (stAt f x.at_).n → (passN f (hatsOf f r) x (stAt f x.at_) (mcAt f r i).σ (mcAt f r i).rd).2.2 = updR (mcAt f r i).rd x.at_ ((mcAt f r i).rd x.at_ + 1) := fun e => by
   unfold passN; rw [if_neg (by omega), if_neg (by omega), if_neg (by omega), if_neg (fun h => e h.2)]
   dsimp only
   rw [if_pos k5]
  by_cases hq : q = n
  ·
   subst hq
   rw [hw.nd] at hy
   cases hy
   by_cases e : (mcAt f r i).rd x.at_ = (stAt f x.at_).n
   ·
    rw [hpo e] at h1' h2'
    have := hl.out
    dsimp only at h1' h2'
    omega
   ·
    rw [hpn e, List.getElem?_set_self (by omega)]
    unfold updR
    rw [if_pos rfl]
    exact ⟨rfl, by omega⟩
  ·
   have hne : y.at_ ≠ x.at_ := fun e => hq (vd.heads hy hw.nd hk k5 e)
   have hrd : (passN f (hatsOf f r) x (stAt f x.at_) (mcAt f r i).σ (mcAt f r i).rd).2.2 y.at_ = (mcAt f r i).rd y.at_ := by
    by_cases e : (mcAt f r i).rd x.at_ = (stAt f x.at_).n
    · rw [hpo e]
    · rw [hpn e]; unfold updR; rw [if_neg hne]
   rw [hrd, List.getElem?_set_ne (fun e => hq e.symm)]
   rcases hl.only n x hw.nd _ hto h1' h2' with h3 | h3
   · exact h.inn q y E hy hk hl (by rw [hw.at_]; omega) (by rw [hw.at_]; omega)
   · omega
theorem Valid.away {f : Fl} (V : Valid f) {i : Nat} {x : Nd} (hx : (cfgN f)[i]? = some x) : (∀ to, to = x.next ∨ to = x.other → to = -1 ∨ 1 ≤ to) ∧ (x.kind = 0 → i = 0) := by
 obtain ⟨k1, _⟩ := lay_loops f.body V.plain 0 1 (1 + widL f.body) (.inr (Nat.le_refl _))
 unfold cfgN at hx
 cases i with
 | zero => simp at hx; subst hx; exact ⟨fun to h => by dsimp only at h; omega, fun _ => rfl⟩
 | succ i =>
  rw [List.getElem?_cons_succ] at hx
  rcases List.mem_append.1 (List.mem_of_getElem? hx) with hm | hm
  ·
   refine ⟨fun to h => by have := k1 x hm to h; omega, fun h => ?_⟩
   have := lay_kinds _ _ _ _ x hm
   omega
  ·
   rw [List.mem_singleton] at hm
   subst hm
   exact ⟨fun to h => by dsimp only at h; omega, fun h => by (cases h)⟩
theorem defN_var {f : Fl} (V : Valid f) {i : Nat} {x : Nd} (hx : (cfgN f)[i]? = some x) (h : asgB f x = true) : x.kind = 2 ∧ 0 ≤ x.at_ ∧ x.at_ < (preL f.body).length ∧ 0 ≤ (stAt f x.at_).var ∧ (stAt f x.at_).var < f.vars.length ∧ defN f x = (stAt f x.at_).var := by
 have h0 := h
 unfold asgB at h
 simp only [Bool.and_eq_true, Bool.or_eq_true, decide_eq_true_eq] at h
 obtain ⟨k2, ha⟩ := h
 obtain ⟨a1, a2⟩ := (V.edge hx).2 k2
 obtain ⟨s, hs⟩ : ∃ s, (preL f.body)[x.at_.toNat]? = some s := ⟨_, List.getElem?_eq_getElem (by omega)⟩
 have e : stAt f x.at_ = s := by unfold stAt; rw [hs]; rfl
 have hv := (V.step s (List.mem_of_getElem? hs)).1.var (e ▸ ha)
 rw [← e] at hv
 exact ⟨k2, a1, a2, hv.1, hv.2, by unfold defN; rw [if_pos h0]⟩
def defL (f : Fl) (la : List Int) (x : Nd) : List Int := if 0 ≤ defN f x then la.set (defN f x).toNat x.at_ else la
structure LaInv (f : Fl) (r : Ins) (i : Nat) (la : List Int) : Prop where
 len : la.length = f.vars.length
 ok : ∀ (v : Nat) d, la[v]? = some d → (i = 0 → d = ((preL f.body).length : Int) + v) ∧ (0 < i → Rch f (cfgN f) (mcAt f r i).at_ d ∧ varD f d = v)
theorem LaInv.next {f : Fl} {r : Ins} (V : Valid f) {K i n : Nat} {x : Nd} {la : List Int} (hg : GoesAll f r K) (h : LaInv f r i la) (hw : OnWalk f r K i n x) (hi : i < K) : LaInv f r (i + 1) (defL f la x) := by
 obtain ⟨n', x', hw'⟩ := onWalk V hg (show i + 1 ≤ K by omega)
 have hto := pass_to f (hatsOf f r) x (stAt f x.at_) (mcAt f r i).σ (mcAt f r i).rd
 have ha : (mcAt f r (i + 1)).at_ = (passN f (hatsOf f r) x (stAt f x.at_) (mcAt f r i).σ (mcAt f r i).rd).1 := by rw [(hw.go hi).1]
 rw [← ha] at hto
 have h0 : 0 ≤ (mcAt f r (i + 1)).at_ := by rw [hw'.at_]; omega
 have hstep : ∀ d, GenD f x d ∨ (Rch f (cfgN f) (n : Int) d ∧ ThruD f x d) → Rch f (cfgN f) (mcAt f r (i + 1)).at_ d := fun d hd => Rch.step hw.nd hto h0 hd
 have hlen := h.len
 by_cases i0 : i = 0
 ·
  subst i0
  have hn : n = 0 := by
   have h1 : (mcAt f r 0).at_ = 0 := rfl
   have := hw.at_
   omega
  subst hn
  have hx0 : x = ⟨0, -1, 1, -1⟩ := by
   have : (cfgN f)[0]? = some (⟨0, -1, 1, -1⟩ : Nd) := rfl
   rw [hw.nd] at this
   exact Option.some.inj this
  subst hx0
  have hd : defL f la ⟨0, -1, 1, -1⟩ = la := by
   unfold defL
   rw [if_neg]
   show ¬ 0 ≤ (if asgB f ⟨0, -1, 1, -1⟩ = true then _ else (-1 : Int))
   rw [if_neg (by simp [asgB])]
   decide
  rw [hd]
  refine ⟨hlen, fun v d hv => ⟨fun h => by omega, fun _ => ?_⟩⟩
  have h1 := (h.ok v d hv).1 rfl
  have hvl := (List.getElem?_eq_some_iff.1 hv).1
  subst h1
  exact ⟨hstep _ (.inl (.inl ⟨rfl, by omega, by omega⟩)), by unfold varD; rw [if_pos (by omega)]; omega⟩
 ·
  have hk0 : x.kind ≠ 0 := by
   intro hk
   have hn := (V.away hw.nd).2 hk
   obtain ⟨m, y, hy⟩ := onWalk V hg (show i - 1 ≤ K by omega)
   have hto' := pass_to f (hatsOf f r) y (stAt f y.at_) (mcAt f r (i - 1)).σ (mcAt f r (i - 1)).rd
   have ha' : (mcAt f r (i - 1 + 1)).at_ = (passN f (hatsOf f r) y (stAt f y.at_) (mcAt f r (i - 1)).σ (mcAt f r (i - 1)).rd).1 := by rw [(hy.go (by omega)).1]
   rw [← ha', show i - 1 + 1 = i by omega] at hto'
   have := (V.away hy.nd).1 _ hto'
   have := hw.at_
   omega
  by_cases hb : asgB f x = true
  ·
   obtain ⟨k2, a1, a2, v1, v2, hd⟩ := defN_var V hw.nd hb
   have hdl : defL f la x = la.set (stAt f x.at_).var.toNat x.at_ := by unfold defL; rw [hd, if_pos v1]
   rw [hdl]
   refine ⟨by rw [List.length_set, hlen], fun v d hv => ⟨fun h => by omega, fun _ => ?_⟩⟩
   by_cases hvv : (stAt f x.at_).var.toNat = v
   ·
    subst hvv
    rw [List.getElem?_set_self (by omega)] at hv
    cases hv
    exact ⟨hstep _ (.inl (.inr ⟨hk0, hb, rfl⟩)), by unfold varD; rw [if_neg (by omega)]; omega⟩
   ·
    rw [List.getElem?_set_ne hvv] at hv
    obtain ⟨h1, h2⟩ := (h.ok v d hv).2 (by omega)
    rw [hw.at_] at h1
    exact ⟨hstep _ (.inr ⟨h1, hk0, fun _ => by omega⟩), h2⟩
  ·
   have hdl : defL f la x = la := by
    unfold defL
    rw [if_neg]
    unfold defN
    rw [if_neg hb]
    decide
   rw [hdl]
   refine ⟨hlen, fun v d hv => ⟨fun h => by omega, fun _ => ?_⟩⟩
   obtain ⟨h1, h2⟩ := (h.ok v d hv).2 (by omega)
   rw [hw.at_] at h1
   exact ⟨hstep _ (.inr ⟨h1, hk0, fun h => absurd h hb⟩), h2⟩
def fillL (S n i : Nat) : List Int := (List.range n).map fun v => if v < i then (S : Int) + v else 0
theorem LaInv.start (f : Fl) (r : Ins) : LaInv f r 0 (fillL (preL f.body).length f.vars.length f.vars.length) := by
 refine ⟨by simp [fillL], fun v d hv => ⟨fun _ => ?_, fun h => by omega⟩⟩
 have hl := (List.getElem?_eq_some_iff.1 hv).1
 simp only [fillL, List.length_map, List.length_range] at hl
 unfold fillL at hv
 rw [List.getElem?_map, List.getElem?_range hl] at hv
 simp only [Option.map_some, Option.some.injEq] at hv
 rw [if_pos hl] at hv
 exact hv.symm
inductive Fld (f : Fl) (g : List Nd) (a : Nat) (v : Int) : Int → Prop
 | start {x : Nd} {to : Int} : g[a]? = some x → (to = x.next ∨ to = x.other) → 0 ≤ to → Fld f g a v to
 | step {i : Nat} {x : Nd} {to : Int} : Fld f g a v i → g[i]? = some x → defN f x ≠ v → (to = x.next ∨ to = x.other) → 0 ≤ to → Fld f g a v to
def SrcD (f : Fl) (g : List Nd) (a : Nat) (v d : Int) : Prop := (a = 0 ∧ 0 ≤ v ∧ v < f.vars.length ∧ d = (preL f.body).length + v) ∨ ∃ x, g[a]? = some x ∧ 0 ≤ defN f x ∧ v = defN f x ∧ d = x.at_
theorem asgB_of {f : Fl} {x : Nd} (h : 0 ≤ defN f x) : asgB f x = true := by
 by_cases hb : asgB f x = true
 · exact hb
 · exfalso; unfold defN at h; rw [if_neg hb] at h; exact absurd h (by decide)
theorem SrcD.varD {f : Fl} (V : Valid f) {a : Nat} {v d : Int} (h : SrcD f (cfgN f) a v d) : varD f d = v ∧ 0 ≤ v := by
 unfold Go.Proofs.YtldhllpogdikdaaGreat.varD
 rcases h with ⟨_, h1, _, h3⟩ | ⟨x, hx, h1, h2, h3⟩
 · rw [if_pos (by omega)]; omega
 ·
  obtain ⟨_, _, g2, _, _, g5⟩ := defN_var V hx (asgB_of h1)
  rw [if_neg (by omega)]
  subst h3
  omega
theorem SrcD.uniq {f : Fl} (V : Valid f) {a b : Nat} {v u d : Int} (h : SrcD f (cfgN f) a v d) (h' : SrcD f (cfgN f) b u d) : a = b ∧ v = u := by
 have h1 := (h.varD V).1
 have h2 := (h'.varD V).1
 refine ⟨?_, by omega⟩
 have key : ∀ {a : Nat} {v d : Int} {x : Nd}, (cfgN f)[a]? = some x → 0 ≤ defN f x → d = x.at_ → x.kind = 2 ∧ 0 ≤ d ∧ d < (preL f.body).length := by
  intro a v d x hx h1 h3
  have := defN_var V hx (asgB_of h1)
  omega
 rcases h with ⟨rfl, g1, g2, g3⟩ | ⟨x, hx, g1, g2, g3⟩
 ·
  rcases h' with ⟨rfl, k1, k2, k3⟩ | ⟨y, hy, k1, k2, k3⟩
  · rfl
  · have := key (v := v) hy k1 k3; omega
 ·
  have p1 := key (v := v) hx g1 g3
  rcases h' with ⟨rfl, k1, k2, k3⟩ | ⟨y, hy, k1, k2, k3⟩
  · omega
  ·
   have p2 := key (v := v) hy k1 k3
   exact V.same hx hy (by omega) (by omega)
structure FldI (f : Fl) (g : List Nd) (a : Nat) (v : Int) (seen : List Bool) (op : List Int) : Prop where
 len : seen.length = g.length
 ok : ∀ (i : Nat), seen[i]? = some true → Fld f g a v i
 opn : ∀ q ∈ op, ∃ i : Nat, q = (i : Int) ∧ i < g.length ∧ (i = a ∨ seen[i]? = some true ∧ ∀ x, g[i]? = some x → defN f x ≠ v)
 cl : ∀ (i : Nat) x, g[i]? = some x → (i = a ∨ seen[i]? = some true ∧ defN f x ≠ v) → (i : Int) ∈ op ∨ ∀ to, to = x.next ∨ to = x.other → 0 ≤ to → seen[to.toNat]? = some true
theorem FldI.start (f : Fl) (g : List Nd) (a : Nat) (v : Int) (ha : a < g.length) : FldI f g a v (List.replicate g.length false) [(a : Int)] := by
 refine ⟨by simp, fun i h => ?_, fun q hq => ?_, fun i x hx h => ?_⟩
 ·
  rw [List.getElem?_replicate] at h
  split at h <;> cases h
 ·
  rw [List.mem_singleton] at hq
  exact ⟨a, hq, ha, .inl rfl⟩
 ·
  rcases h with rfl | ⟨h, _⟩
  · exact .inl (by simp)
  ·
   rw [List.getElem?_replicate] at h
   split at h <;> cases h
theorem FldI.done {f : Fl} {g : List Nd} {a : Nat} {v : Int} {seen : List Bool} (h : FldI f g a v seen []) (_ : ∀ (i : Nat) x, g[i]? = some x → ∀ to, to = x.next ∨ to = x.other → -1 ≤ to ∧ to < g.length) (i : Nat) : seen[i]? = some true ↔ Fld f g a v i := by
 refine ⟨h.ok i, fun hf => ?_⟩
 have key : ∀ {z : Int}, Fld f g a v z → seen[z.toNat]? = some true := by
  intro z hz
  induction hz with
  | @start x to hx ht h0 => exact ((h.cl a x hx (.inl rfl)).resolve_left (by simp)) to ht h0
  | @step i x to hf hx hne ht h0 ih =>
   rw [Int.toNat_natCast] at ih
   exact ((h.cl i x hx (.inr ⟨ih, hne⟩)).resolve_left (by simp)) to ht h0
 simpa using key hf
structure FldE (f : Fl) (g : List Nd) (a : Nat) (v : Int) (n : Nat) (x : Nd) (k : Nat) (seen : List Bool) (op : List Int) : Prop where
 len : seen.length = g.length
 ok : ∀ (i : Nat), seen[i]? = some true → Fld f g a v i
 opn : ∀ q ∈ op, ∃ i : Nat, q = (i : Int) ∧ i < g.length ∧ (i = a ∨ seen[i]? = some true ∧ ∀ x, g[i]? = some x → defN f x ≠ v)
 cl : ∀ (i : Nat) y, g[i]? = some y → (i = a ∨ seen[i]? = some true ∧ defN f y ≠ v) → i = n ∨ (i : Int) ∈ op ∨ ∀ to, to = y.next ∨ to = y.other → 0 ≤ to → seen[to.toNat]? = some true
 nd : g[n]? = some x
 at_ : n = a ∨ Fld f g a v n ∧ defN f x ≠ v
 part : ∀ to, (0 < k ∧ to = x.next ∨ 1 < k ∧ to = x.other) → 0 ≤ to → seen[to.toNat]? = some true
def edk (x : Nd) (k : Nat) : Int := if k = 0 then x.next else x.other
section
variable {f : Fl} {g : List Nd} {a n : Nat} {v : Int} {x : Nd} {k : Nat} {seen : List Bool} {op : List Int}
theorem FldE.skip (h : FldE f g a v n x k seen op) (hk : k < 2) (hs : edk x k < 0 ∨ seen[(edk x k).toNat]? = some true) : FldE f g a v n x (k + 1) seen op :=
 ⟨h.len, h.ok, h.opn, h.cl, h.nd, h.at_, fun to ht h0 => by
  unfold edk at hs
  by_cases hk0 : k = 0
  ·
   subst hk0
   rw [if_pos rfl] at hs
   rcases ht with ht | ht
   ·
    obtain ⟨_, rfl⟩ := ht
    exact hs.resolve_left (by omega)
   · omega
  ·
   rw [if_neg hk0] at hs
   rcases ht with ht | ht
   · exact h.part to (.inl ⟨by omega, ht.2⟩) h0
   ·
    obtain ⟨_, rfl⟩ := ht
    exact hs.resolve_left (by omega)⟩
theorem FldE.add {i : Nat} {y : Nd} (h : FldE f g a v n x k seen op) (hk : k < 2) (he : edk x k = (i : Int)) (hy : g[i]? = some y) : FldE f g a v n x (k + 1) (seen.set i true) (if defN f y ≠ v then op ++ [(i : Int)] else op) := by
 have hi : i < seen.length := by rw [h.len]; exact (List.getElem?_eq_some_iff.1 hy).1
 have hmono : ∀ {j : Nat}, seen[j]? = some true → (seen.set i true)[j]? = some true := by
  intro j hj
  by_cases e : i = j
  · subst e; exact List.getElem?_set_self hi
  · rw [List.getElem?_set_ne e]; exact hj
 have hto : edk x k = x.next ∨ edk x k = x.other := by unfold edk; split <;> simp
 have hfl : Fld f g a v (i : Int) := by
  rcases h.at_ with rfl | ⟨h1, h2⟩
  · rw [he] at hto; exact .start h.nd hto (by omega)
  · rw [he] at hto; exact .step h1 h.nd h2 hto (by omega)
 have hmem : ∀ {q : Int}, q ∈ op → q ∈ (if defN f y ≠ v then op ++ [(i : Int)] else op) := by
  intro q hq
  split
  · exact List.mem_append_left _ hq
  · exact hq
 refine ⟨by rw [List.length_set, h.len], fun j hj => ?_, fun q hq => ?_, fun j z hz hj => ?_, h.nd, h.at_, fun to ht h0 => ?_⟩
 ·
  by_cases e : i = j
  · subst e; exact hfl
  · rw [List.getElem?_set_ne e] at hj; exact h.ok j hj
 ·
  have old : ∀ q ∈ op, ∃ j : Nat, q = (j : Int) ∧ j < g.length ∧ (j = a ∨ (seen.set i true)[j]? = some true ∧ ∀ x, g[j]? = some x → defN f x ≠ v) := fun q hq => by
   obtain ⟨j, h1, h2, h3⟩ := h.opn q hq
   exact ⟨j, h1, h2, h3.imp id fun h3 => ⟨hmono h3.1, h3.2⟩⟩
  split at hq
  ·
   rename_i hd
   rcases List.mem_append.1 hq with hq | hq
   · exact old q hq
   ·
    rw [List.mem_singleton] at hq
    exact ⟨i, hq, (List.getElem?_eq_some_iff.1 hy).1, .inr ⟨List.getElem?_set_self hi, fun z hz => by rw [hy] at hz; cases hz; exact hd⟩⟩
  · exact old q hq
 ·
  by_cases e : i = j
  ·
   subst e
   rw [hy] at hz
   cases hz
   rcases hj with hj | ⟨_, hj⟩
   ·
    rcases h.cl i y hy (.inl hj) with h1 | h1 | h1
    · exact .inl h1
    · exact .inr (.inl (hmem h1))
    · exact .inr (.inr fun to h2 h3 => hmono (h1 to h2 h3))
   · exact .inr (.inl (by rw [if_pos hj]; simp))
  ·
   rw [List.getElem?_set_ne e] at hj
   rcases h.cl j z hz hj with h1 | h1 | h1
   · exact .inl h1
   · exact .inr (.inl (hmem h1))
   · exact .inr (.inr fun to h2 h3 => hmono (h1 to h2 h3))
 ·
  unfold edk at he
  by_cases hk0 : k = 0
  ·
   subst hk0
   rw [if_pos rfl] at he
   rcases ht with ht | ht
   · rw [ht.2, he, Int.toNat_natCast]; exact List.getElem?_set_self hi
   · omega
  ·
   rw [if_neg hk0] at he
   rcases ht with ht | ht
   · exact hmono (h.part to (.inl ⟨by omega, ht.2⟩) h0)
   · rw [ht.2, he, Int.toNat_natCast]; exact List.getElem?_set_self hi
theorem FldE.to (_h : FldE f g a v n x k seen op) (_hk : k < 2) : edk x k = x.next ∨ edk x k = x.other := by unfold edk; split <;> simp
theorem FldE.fin (h : FldE f g a v n x 2 seen op) : FldI f g a v seen op := by
 refine ⟨h.len, h.ok, h.opn, fun i y hy hi => ?_⟩
 rcases h.cl i y hy hi with rfl | h1
 ·
  rw [h.nd] at hy
  cases hy
  exact .inr fun to ht h0 => h.part to (by omega) h0
 · exact h1
end
def rowsIn (rows0 : List (List Int)) (seen : List Bool) (d : Int) (rows : List (List Int)) : Prop := rows.length = rows0.length ∧ ∀ (i : Nat) r b, rows0[i]? = some r → seen[i]? = some b → rows[i]? = some (if b then r ++ [d] else r)
theorem rowsIn.start (rows0 : List (List Int)) (n : Nat) (d : Int) : rowsIn rows0 (List.replicate n false) d rows0 := ⟨rfl, fun i r b hr hb => by
 rw [List.getElem?_replicate] at hb
 split at hb <;> cases hb
 exact hr⟩
theorem rowsIn.set {rows0 rows : List (List Int)} {seen : List Bool} {d : Int} {i : Nat} {r : List Int} (h : rowsIn rows0 seen d rows) (hs : seen[i]? = some false) (hr : rows[i]? = some r) : rowsIn rows0 (seen.set i true) d (rows.set i (r ++ [d])) := by
 refine ⟨by rw [List.length_set, h.1], fun j r' b hr' hb => ?_⟩
 by_cases e : i = j
 ·
  subst e
  rw [List.getElem?_set_self (List.getElem?_eq_some_iff.1 hs).1] at hb
  cases hb
  have := h.2 i r' false hr' hs
  rw [hr] at this
  cases this
  rw [List.getElem?_set_self (List.getElem?_eq_some_iff.1 hr).1]
  rfl
 ·
  rw [List.getElem?_set_ne e] at hb ⊢
  exact h.2 j r' b hr' hb
def FldR (f : Fl) (g : List Nd) (a : Nat) (v d : Int) (rows0 rows : List (List Int)) : Prop := rows.length = rows0.length ∧ ∀ (i : Nat) r, rows0[i]? = some r → Fld f g a v i ∧ rows[i]? = some (r ++ [d]) ∨ ¬ Fld f g a v i ∧ rows[i]? = some r
theorem FldR.of {f : Fl} {g : List Nd} {a : Nat} {v d : Int} {rows0 rows : List (List Int)} {seen : List Bool} (h : rowsIn rows0 seen d rows) (hl : rows0.length = seen.length) (hs : ∀ (i : Nat), seen[i]? = some true ↔ Fld f g a v i) : FldR f g a v d rows0 rows := by
 refine ⟨h.1, fun i r hr => ?_⟩
 obtain ⟨b, hb⟩ : ∃ b, seen[i]? = some b := ⟨_, List.getElem?_eq_getElem (by rw [← hl]; exact (List.getElem?_eq_some_iff.1 hr).1)⟩
 have h1 := h.2 i r b hr hb
 cases b with
 | true => exact .inl ⟨(hs i).1 hb, h1⟩
 | false =>
  refine .inr ⟨fun hf => ?_, h1⟩
  have := (hs i).2 hf
  rw [hb] at this
  cases this
def unseen (seen : List Bool) : Nat := (seen.filter (fun b => !b)).length
theorem unseen_set {seen : List Bool} {i : Nat} (h : seen[i]? = some false) : unseen (seen.set i true) + 1 = unseen seen := by
 unfold unseen
 induction seen generalizing i with
 | nil => simp at h
 | cons b r ih =>
  cases i with
  | zero => simp at h; subst h; simp
  | succ i =>
   have := ih (i := i) (by simpa using h)
   cases b <;> simp_all <;> omega
end Go.Proofs.YtldhllpogdikdaaGreat
namespace Go.GL
theorem RFl.keep {D S : Nat → Prop} {w w' : World} {f : Fl} {v1 v2 v3 : Value} (h : RFl D w f v1 v2 v3) (hk : Keep S w w') (hD : ∀ q, D q → q < w.heap.size → ¬ S q) : RFl D w' f v1 v2 v3 := ⟨h.vars.keep stable_vr hk hD, h.hatches.keep stable_ht hk hD, h.body.keep stable_st hk hD⟩
end Go.GL
namespace Go.Proofs.YtldhllpogdikdaaGreat
open Go.GL
theorem ed_cell {w : World} {b : Nat} {x : Nd} {e : TypeId} {k : Nat} (h : Blk w b [.int .i64 x.next, .int .i64 x.other] e) (hk : k < 2) : w.cell? ⟨b, 0 + (k : Int).toNat * 1, none⟩ = some (.int .i64 (edk x k)) := by
 have h0 := Blk.cells h 0 _ rfl
 have h1 := Blk.cells h 1 _ rfl
 rcases (show k = 0 ∨ k = 1 by omega) with rfl | rfl
 · exact h0
 · exact h1
def edOf (i : Int) (to : Int) : List (Int × Int) := if 0 ≤ to then [(i, to)] else []
def rawTo (g : List Nd) (k : Nat) : List (Int × Int) := (List.range k).flatMap fun i : Nat => edOf i (ndAt g i).next ++ edOf i (ndAt g i).other
theorem rawTo_succ {g : List Nd} {k : Nat} {x : Nd} (h : g[k]? = some x) : rawTo g (k + 1) = rawTo g k ++ (edOf k x.next ++ edOf k x.other) := by
 unfold rawTo
 rw [List.range_succ, List.flatMap_append, List.flatMap_singleton, ndAt_eq h]
theorem edOf_len (i to : Int) : (edOf i to).length ≤ 1 := by unfold edOf; split <;> simp
theorem rawTo_len (g : List Nd) : ∀ k, (rawTo g k).length ≤ 2 * k
 | 0 => by simp [rawTo]
 | k + 1 => by
  have := rawTo_len g k
  have h1 := edOf_len k (ndAt g k).next
  have h2 := edOf_len k (ndAt g k).other
  unfold rawTo at this ⊢
  rw [List.range_succ, List.flatMap_append, List.flatMap_singleton, List.length_append, List.length_append]
  omega
def inL (g : List Nd) (i : Nat) (x : Nd) (q : Nat) : List (Int × Int) := rawTo g i ++ (List.range q).flatMap fun j => edOf i (edk x j)
theorem inL_len (g : List Nd) (i : Nat) (x : Nd) (q : Nat) : (inL g i x q).length ≤ 2 * i + q := by
 have := rawTo_len g i
 have key : ∀ q, ((List.range q).flatMap fun j => edOf i (edk x j)).length ≤ q := by
  intro q
  induction q with
  | zero => simp
  | succ q ih =>
   have h1 := edOf_len i (edk x q)
   rw [List.range_succ, List.flatMap_append, List.flatMap_singleton, List.length_append]
   omega
 have := key q
 unfold inL
 rw [List.length_append]; omega
theorem inL_zero (g : List Nd) (i : Nat) (x : Nd) : inL g i x 0 = rawTo g i := by simp [inL]
theorem inL_succ (g : List Nd) (i : Nat) (x : Nd) (q : Nat) : inL g i x (q + 1) = inL g i x q ++ edOf i (edk x q) := by
 unfold inL
 rw [List.range_succ, List.flatMap_append, List.flatMap_singleton, List.append_assoc]
theorem inL_end {g : List Nd} {i : Nat} {x : Nd} (h : g[i]? = some x) : inL g i x 2 = rawTo g (i + 1) := by
 rw [rawTo_succ h]
 unfold inL
 simp [List.range_succ, edk]
theorem cfgGraph_ok (g : List Nd) (gv : Value) (D : Nat → Prop) (W : World) (hg : SlR 4 RNd D W gv g) :
  Calls Tryz.prog 46 #[.agg #[gv]] W (Ret fun r w' => (∃ m a s c e, r = .tuple #[.agg #[.int .i64 m, .slice a (List.length s) c], .int .i64 e] ∧ (¬ Formed g → e = 1 ∧ m = 0 ∧ s = []) ∧ (Formed g → e = Gr.check g.length (rawTo g g.length) ∧ (e ≠ 0 → m = 0 ∧ s = []) ∧ (e = 0 → m = g.length ∧ Simple (rawTo g g.length) s)) ∧ SlR 2 RPair (fun b => W.heap.size ≤ b) w' (.slice a s.length c) s) ∧ Ext W w') := by
 obtain ⟨ag, cg, rfl⟩ := hg.form
 have hmx := hg.max
 refine G.in1 Tryz.func46 rfl Tryz.ntmps46 rfl (V.inn ?_)
 refine Vs 2 rfl ?_
 refine V.box 1 rfl rfl (fun b1 => ?_)
 refine V.alloc 2 Tryz.zeroValue91 rfl rfl (fun b2 => ?_)
 refine Vs 7 rfl ?_
 refine V.call2 Tryz.call89 rfl (fun w hI => cfgFormed_ok g _ D w (Tr1 hI.k0 hg)) ?_
 rintro rr w1 w2 hI1 hk12 ⟨b, rfl, hb⟩ hlow
 refine V.ops1 rfl (fun w hI => R.notU rfl (by first | exact not_decide_eq | rfl)) ?_
 refine Vs 2 rfl ?_
 refine V.bool rfl (fun q => ?_) (fun q => ?_)
 ·
  have hnf : ¬ Formed g := fun h => by rw [hb.2 h] at q; cases q
  refine Vs 2 rfl ?_
  refine V.bld [Value.int IntKind.i64 0, Value.slice none 0 0] [(0, 1), (1, 1)] [] rfl rfl (fun _ => by kernel_rfl) ?_
  refine Vs 6 rfl ?_
  refine V.retCT Tryz.results46 Tryz.isAgg91 Tryz.sizeOf91 rfl rfl rfl rfl (fun w hI => ⟨_, rfl, ⟨0, none, [], 0, 1, rfl, fun _ => ⟨rfl, rfl, rfl⟩, fun h => absurd h hnf, SlR.nil⟩, hI.k1⟩)
 ·
  have hF : Formed g := hb.1 (by simpa using q)
  have hlo := hF.lo
  have hhi := hF.hi
  refine Vs 7 rfl ?_
  refine V.bld [Value.int IntKind.i64 0, Value.slice none 0 0] [(0, 1), (1, 1)] [(0, _)] rfl rfl (fun _ => by kernel_rfl) ?_
  refine V.alloc 4 Tryz.zeroValue91 rfl rfl (fun b4 => ?_)
  refine Vs 5 rfl ?_
  refine V.nilrow 900 97 2 rfl ?_
  refine Vs 8 rfl ?_
  refine V.loopK (σ := Nat × Value) [2, 4, 18, 19] [2] [2, 4] rfl (fun e ⟨i, rv⟩ => (20, .int .i64 i) :: e) (fun e ⟨i, rv⟩ => (4, .own b4 [.int .i64 g.length, rv] 91) :: (900, .row 97 2 rv (rawTo g i).length ((rawTo g i).flatMap encP)) :: e) (fun ⟨i, rv⟩ => i ≤ g.length) (fun ⟨i, rv⟩ => g.length - i) ((0, _)) (Sub.of rfl) (Has.of rfl) (fun _ => rfl) (fun _ => rfl) (fun _ => rfl) (Nat.zero_le _) ?_
  rintro ⟨i, rv⟩ hi
  show V _ _ _ _ _ ((20, .int .i64 i) :: _) _ ((4, .own b4 [.int .i64 g.length, rv] 91) :: (900, .row 97 2 rv (rawTo g i).length ((rawTo g i).flatMap encP)) :: _) _
  refine Vs 6 rfl ?_
  refine V.ite rfl (fun hlt => ?_) (fun hlt => ?_)
  ·
   refine Vs 7 rfl ?_
   obtain ⟨x, he_x⟩ : ∃ z_, g[i]? = some z_ := ⟨_, List.getElem?_eq_getElem (by omega)⟩
   have hm_x := List.mem_of_getElem? he_x
   obtain ⟨b_x, o_x, c_x, ha_x, _, hc_x, hR_x⟩ := hg.at he_x
   obtain rfl := hR_x
   refine V.fr 1000 1 rfl rfl hc_x ?_
   refine V.ix 1000 Tryz.runUnderlying29 Tryz.sizeOf40 rfl ha_x (by omega) (_) (rfl) rfl ?_
   have hr := inL_end he_x
   refine V.heq 900 rfl (e' := .row 97 2 rv (inL g i x 0).length ((inL g i x 0).flatMap encP)) (by rw [inL_zero]) ?_
   refine Vs 1 rfl ?_
   refine V.alloc 6 Tryz.zeroValue40 rfl rfl (fun b6 => ?_)
   refine Vs 10 rfl ?_
   refine V.bs 29 [(0, _), (1, _)] Tryz.runUnderlying50 Tryz.sizeOf3 Tryz.zeroValue3 (by decide) rfl rfl (by kernel_rfl) (fun b29 => ?_)
   refine Vs 5 rfl ?_
   refine V.loopK (σ := Nat × Value) [2, 4, 5, 18, 19, 20, 29, 30] [2, 29] [2, 4] rfl (fun e ⟨q, rv⟩ => (31, .int .i64 q) :: e) (fun e ⟨q, rv⟩ => (4, .own b4 [.int .i64 g.length, rv] 91) :: (900, .row 97 2 rv (inL g i x q).length ((inL g i x q).flatMap encP)) :: e) (fun ⟨q, rv⟩ => q ≤ 2) (fun ⟨q, rv⟩ => 2 - q) ((0, rv)) (Sub.of rfl) (Has.of rfl) (fun _ => rfl) (fun _ => rfl) (fun _ => rfl) (by omega) ?_
   rintro ⟨q, rv⟩ hq
   show V _ _ _ _ _ ((31, .int .i64 q) :: _) _ ((4, .own b4 [.int .i64 g.length, rv] 91) :: (900, .row 97 2 rv (inL g i x q).length ((inL g i x q).flatMap encP)) :: _) _
   have hil := inL_len g i x q
   have hsu := inL_succ g i x q
   refine Vs 6 rfl ?_
   refine V.ite rfl (fun hq2 => ?_) (fun hq2 => ?_)
   ·
    refine Vs 6 rfl ?_
    refine V.ops1 rfl (fun w hI => R.indexS Tryz.runUnderlying50 Tryz.sizeOf3 rfl rfl rfl (by omega)) ?_
    refine V.ops1 rfl (fun w hI => R.load Tryz.isAgg3 rfl (ed_cell (hI.at 29 rfl) (by omega))) ?_
    refine Vs 9 rfl ?_
    refine V.ite rfl (fun hz => ?_) (fun hz => ?_)
    ·
     rw [show edOf i (edk x q) = [((i : Int), edk x q)] from if_pos hz] at hsu
     refine Vs 5 rfl ?_
     refine V.bld [Value.int IntKind.i64 0, Value.int IntKind.i64 0] [(0, 1), (1, 1)] [(0, _), (1, _)] rfl rfl (fun _ => by kernel_rfl) ?_
     refine V.bs 42 [(0, _)] Tryz.runUnderlying89 Tryz.sizeOf97 Tryz.zeroValue97 (by decide) rfl rfl (by kernel_rfl) (fun b42 => ?_)
     refine V.ap 900 42 Tryz.underlying89 Tryz.el97 rfl (by decide) rfl rfl (by omega) (by omega) (fun u900 => ?_)
     refine Vs 1 rfl ?_
     refine V.opened 900 rfl (by omega) ?_
     rintro b9 c9 rfl hcap_900
     refine Va 8 rfl (by omega) ?_
     refine V.heq 900 rfl (e' := .row 97 2 (.slice (some ⟨b9, 0, none⟩) ((inL g i x q).length + 1) c9) (inL g i x (q + 1)).length ((inL g i x (q + 1)).flatMap encP)) (by rw [hsu, List.length_append, List.flatMap_append]; rfl) ?_
     refine V.back (⟨q + 1, _⟩) (Sub.of rfl) (Has.of rfl) (by omega) (by first | omega | (dsimp only; omega)) 0 rfl rfl
    ·
     rw [show edOf i (edk x q) = [] from if_neg hz, List.append_nil] at hsu
     refine V.heq 900 rfl (e' := .row 97 2 rv (inL g i x (q + 1)).length ((inL g i x (q + 1)).flatMap encP)) (by rw [hsu]) ?_
     refine Va 7 rfl (by omega) ?_
     refine V.back (⟨q + 1, rv⟩) (Sub.of rfl) (Has.of rfl) (by omega) (by first | omega | (dsimp only; omega)) 0 rfl rfl
   ·
    obtain rfl : q = 2 := by omega
    refine V.heq 900 rfl (e' := .row 97 2 rv (rawTo g (i + 1)).length ((rawTo g (i + 1)).flatMap encP)) (by rw [hr]) ?_
    refine Va 10 rfl (by omega) ?_
    refine V.back (⟨i + 1, rv⟩) (Sub.of rfl) (Has.of rfl) (by omega) (by first | omega | (dsimp only; omega)) 0 rfl rfl
  ·
   obtain rfl : i = g.length := by omega
   refine Vs 8 rfl ?_
   refine V.call2 Tryz.call90 rfl (fun w hI => digSimple_ok g.length (rawTo g g.length) rv (fun _ => True) w (SlR.ofRowK (by omega) encP encP_len (fun x _ => rfl) (hI.at 900 rfl) (fun _ _ => trivial))) ?_
   rintro rr w3 w4 hI3 hk34 ⟨m, a, s, c, rfl, h1, h2, hs⟩ hlow2
   have hsz : W.heap.size ≤ w3.heap.size := hI3.k1.size
   refine Vs 7 rfl ?_
   refine V.dat 901 0 rfl rfl rfl (hs) (fun b hb _ hs => by have := hlow2 b hs; omega) ?_
   refine V.retCT Tryz.results46 Tryz.isAgg91 Tryz.sizeOf91 rfl rfl rfl rfl (fun w hI => ⟨_, rfl, ⟨m, a, s, c, _, rfl, fun h => absurd hF h, fun _ => ⟨rfl, fun he => ⟨(h1 he).1, (h1 he).2.2.2⟩, h2⟩, (hI.at 901 rfl).1.wide stable_pair (fun b hb => by omega)⟩, hI.k2⟩)
theorem mem_take1 {α : Type} {l : List α} {k : Nat} {x y : α} (hx : l[k]? = some x) : y ∈ l.take (k + 1) ↔ y ∈ l.take k ∨ y = x := by
 rw [List.take_add_one, hx]
 simp
def mmk (x : Nd) (k : Nat) : Int := if k = 0 then min x.next x.other else max x.next x.other
theorem rawTo_mem {g : List Nd} {i : Nat} {e : Int × Int} (h : e ∈ rawTo g i) : e.1 < i ∧ 0 ≤ e.2 := by
 unfold rawTo at h
 obtain ⟨j, hj, he⟩ := List.mem_flatMap.1 h
 rw [List.mem_range] at hj
 unfold edOf at he
 rcases List.mem_append.1 he with he | he <;> (split at he <;> simp at he; subst he; dsimp only; omega)
structure EdI (g : List Nd) (i : Nat) (x : Nd) (q : Nat) (s : List (Int × Int)) : Prop where
 ord : s.Pairwise lexLt
 mem : ∀ e, e ∈ s ↔ e ∈ rawTo g i ∨ ∃ j, j < q ∧ 0 ≤ mmk x j ∧ e = ((i : Int), mmk x j)
 len : s.length ≤ 2 * i + q
theorem EdI.add {g : List Nd} {i : Nat} {x : Nd} {q : Nat} {s : List (Int × Int)} (h : EdI g i x q s) (hq : q < 2) (h0 : 0 ≤ mmk x q) (hn : ((i : Int), mmk x q) ∉ s) : EdI g i x (q + 1) (s ++ [((i : Int), mmk x q)]) := by
 refine ⟨List.pairwise_append.2 ⟨h.ord, by simp, fun e he z hz => ?_⟩, fun e => ?_, by rw [List.length_append]; have := h.len; simp; omega⟩
 ·
  rw [List.mem_singleton] at hz
  subst hz
  rcases (h.mem e).1 he with h1 | ⟨j, hj, _, rfl⟩
  ·
   have := (rawTo_mem h1).1
   exact .inl (by dsimp only; omega)
  ·
   obtain rfl : j = 0 := by omega
   obtain rfl : q = 1 := by omega
   refine .inr ⟨rfl, ?_⟩
   have hne : mmk x 0 ≠ mmk x 1 := fun e => hn (e ▸ he)
   have : mmk x 0 ≤ mmk x 1 := by unfold mmk; simp; omega
   dsimp only; omega
 ·
  rw [List.mem_append, List.mem_singleton, h.mem e]
  constructor
  ·
   rintro ((h1 | ⟨j, h1, h2⟩) | h1)
   · exact .inl h1
   · exact .inr ⟨j, by omega, h2⟩
   · exact .inr ⟨q, by omega, h0, h1⟩
  ·
   rintro (h1 | ⟨j, h1, h2, h3⟩)
   · exact .inl (.inl h1)
   ·
    by_cases e : j = q
    · subst e; exact .inr h3
    · exact .inl (.inr ⟨j, by omega, h2, h3⟩)
theorem EdI.skip {g : List Nd} {i : Nat} {x : Nd} {q : Nat} {s : List (Int × Int)} (h : EdI g i x q s) (hs : mmk x q < 0 ∨ ((i : Int), mmk x q) ∈ s) : EdI g i x (q + 1) s := by
 refine ⟨h.ord, fun e => ?_, by have := h.len; omega⟩
 rw [h.mem e]
 constructor
 ·
  rintro (h1 | ⟨j, h1, h2⟩)
  · exact .inl h1
  · exact .inr ⟨j, by omega, h2⟩
 ·
  rintro (h1 | ⟨j, h1, h2, h3⟩)
  · exact .inl h1
  ·
   by_cases e : j = q
   ·
    subst e
    rcases hs with hs | hs
    · omega
    · rw [h3]; exact (h.mem _).1 hs
   · exact .inr ⟨j, by omega, h2, h3⟩
theorem EdI.next {g : List Nd} {i : Nat} {x y : Nd} {s : List (Int × Int)} (hx : g[i]? = some x) (h : EdI g i x 2 s) : EdI g (i + 1) y 0 s := by
 refine ⟨h.ord, fun e => ?_, by have := h.len; omega⟩
 rw [h.mem e, rawTo_succ hx, List.mem_append, List.mem_append]
 have key : (∃ j, j < 2 ∧ 0 ≤ mmk x j ∧ e = ((i : Int), mmk x j)) ↔ e ∈ edOf i x.next ∨ e ∈ edOf i x.other := by
  unfold edOf
  constructor
  ·
   rintro ⟨j, hj, h0, rfl⟩
   have : mmk x j = x.next ∨ mmk x j = x.other := by unfold mmk; split <;> omega
   rcases this with e | e
   · rw [e] at h0 ⊢; exact .inl (by rw [if_pos h0]; simp)
   · rw [e] at h0 ⊢; exact .inr (by rw [if_pos h0]; simp)
  ·
   have hm : ∀ to, to = x.next ∨ to = x.other → 0 ≤ to → e = ((i : Int), to) → ∃ j, j < 2 ∧ 0 ≤ mmk x j ∧ e = ((i : Int), mmk x j) := by
    intro to ht h0 he
    by_cases h1 : to = mmk x 0
    · exact ⟨0, by omega, h1 ▸ h0, h1 ▸ he⟩
    ·
     have h2 : to = mmk x 1 := by unfold mmk at h1 ⊢; simp at h1 ⊢; omega
     exact ⟨1, by omega, h2 ▸ h0, h2 ▸ he⟩
   rintro (h1 | h1)
   ·
    split at h1
    · rename_i h0; simp at h1; exact hm _ (.inl rfl) h0 h1
    · cases h1
   ·
    split at h1
    · rename_i h0; simp at h1; exact hm _ (.inr rfl) h0 h1
    · cases h1
 rw [key]
 constructor
 · intro h1; exact .inl h1
 ·
  rintro (h1 | ⟨j, h1, _⟩)
  · exact h1
  · omega
theorem Formed.edge {g : List Nd} (h : Formed g) {i : Nat} {x : Nd} (hx : g[i]? = some x) : ∀ to, to = x.next ∨ to = x.other → 0 ≤ to → to < g.length := by
 have h1 := h.ok i x hx
 have hi := (List.getElem?_eq_some_iff.1 hx).1
 have := h.lo
 intro to ht h0
 rcases ht with rfl | rfl
 ·
  by_cases e : (i : Int) = g.length - 1
  · have := h1.n0 e; omega
  · have := h1.n1 (by omega); omega
 ·
  by_cases e : x.kind = 3 ∨ x.kind = 5
  · have := h1.o1 e; omega
  · have := h1.o0 e; omega
theorem rawTo_ok {g : List Nd} (hg : ∀ (i : Nat) x, g[i]? = some x → ∀ to, to = x.next ∨ to = x.other → 0 ≤ to → to < g.length) {e : Int × Int} (h : e ∈ rawTo g g.length) : (0 ≤ e.1 ∧ e.1 < g.length) ∧ 0 ≤ e.2 ∧ e.2 < g.length := by
 unfold rawTo at h
 obtain ⟨j, hj, he⟩ := List.mem_flatMap.1 h
 rw [List.mem_range] at hj
 have hx : g[j]? = some g[j] := List.getElem?_eq_getElem hj
 have h1 := hg j _ hx
 rw [ndAt_eq hx] at he
 unfold edOf at he
 rcases List.mem_append.1 he with he | he <;> (split at he <;> simp at he; subst he; rename_i h0; dsimp only)
 · have := h1 _ (.inl rfl) h0; omega
 · have := h1 _ (.inr rfl) h0; omega
theorem raw_check {g : List Nd} (hl : g.length ≤ 2050) (hg : ∀ (i : Nat) x, g[i]? = some x → ∀ to, to = x.next ∨ to = x.other → 0 ≤ to → to < g.length) : Gr.check g.length (rawTo g g.length) = 0 := by
 have := rawTo_len g g.length
 unfold Gr.check
 rw [if_neg (by omega), if_neg (by omega), if_pos]
 rw [List.all_eq_true]
 intro e he
 have := rawTo_ok hg he
 unfold Gr.okE
 simp
 omega
theorem lay_nds (l : List St) : ∀ (a n e N : Nat), 1 ≤ n → 1 ≤ e → n + widL l ≤ N → e < N → ∀ x ∈ layL l a n e, (2 ≤ x.kind ∧ x.kind ≤ 5) ∧ (1 ≤ x.next ∧ x.next < N) ∧ (x.kind = 3 ∨ x.kind = 5 → 1 ≤ x.other ∧ x.other < N) ∧ (¬ (x.kind = 3 ∨ x.kind = 5) → x.other = -1) ∧ 0 ≤ x.at_ := by
 induction l using Sts.ind with
 | h l ih =>
 have key : ∀ r : List St, (∀ x ∈ r, x ∈ l) → ∀ (a n e N : Nat), 1 ≤ n → 1 ≤ e → n + widL r ≤ N → e < N → ∀ x ∈ layL r a n e, (2 ≤ x.kind ∧ x.kind ≤ 5) ∧ (1 ≤ x.next ∧ x.next < N) ∧ (x.kind = 3 ∨ x.kind = 5 → 1 ≤ x.other ∧ x.other < N) ∧ (¬ (x.kind = 3 ∨ x.kind = 5) → x.other = -1) ∧ 0 ≤ x.at_ := by
  intro r
  induction r with
  | nil => intro _ a n e N _ _ _ _ x hx; simp [layL] at hx
  | cons s r ihr =>
   intro hm a n e N h1n h1e hN he x hx
   have h1 := (ih s (hm s (List.mem_cons_self ..))).1
   have h2 := (ih s (hm s (List.mem_cons_self ..))).2
   have hw := s.wid_eq
   simp only [widL] at hN
   rw [layL, List.mem_append] at hx
   rcases hx with hx | hx
   ·
    have he' : 1 ≤ (if r.isEmpty then e else n + s.wid) ∧ (if r.isEmpty then e else n + s.wid) < N := by
     cases hr : r.isEmpty
     · have := lay_pos hr; simp; omega
     · simp; omega
    generalize (if r.isEmpty then e else n + s.wid) = e' at hx he'
    rw [s.lay_eq] at hx
    split at hx
    ·
     rename_i a3
     rw [if_neg (show ¬ s.act = 4 by omega)] at hw
     rw [List.mem_cons, List.mem_append] at hx
     rcases hx with rfl | hx | hx
     ·
      dsimp only
      have c1 : ∀ z : Bool, (z = false → 1 ≤ widL s.thn) → 1 ≤ (if z then (e' : Int) else (n + 1 : Nat)) ∧ (if z then (e' : Int) else (n + 1 : Nat)) < N := by
       intro z hz; cases z
       · have := hz rfl; simp; omega
       · simp; omega
      have c2 : ∀ z : Bool, (z = false → 1 ≤ widL s.els) → 1 ≤ (if z then (e' : Int) else (n + 1 + widL s.thn : Nat)) ∧ (if z then (e' : Int) else (n + 1 + widL s.thn : Nat)) < N := by
       intro z hz; cases z
       · have := hz rfl; simp; omega
       · simp; omega
      exact ⟨by omega, c1 _ lay_pos, fun _ => c2 _ lay_pos, fun h => absurd (.inl rfl) h, by omega⟩
     · exact h1 _ _ _ N (by omega) (by omega) (by omega) he'.2 x hx
     · exact h2 _ _ _ N (by omega) (by omega) (by omega) he'.2 x hx
    ·
     split at hx
     ·
      rename_i a4
      rw [if_pos a4] at hw
      rw [List.mem_cons, List.mem_cons] at hx
      rcases hx with rfl | rfl | hx
      ·
       dsimp only
       exact ⟨by omega, by omega, fun h => by omega, fun _ => rfl, by omega⟩
      ·
       dsimp only
       refine ⟨by omega, ?_, fun _ => by omega, fun h => absurd (.inr rfl) h, by omega⟩
       cases hr : s.thn.isEmpty
       · have := lay_pos hr; simp; omega
       · simp; omega
      · exact h1 _ _ _ N (by omega) (by omega) (by omega) (by omega) x hx
     ·
      rw [List.mem_singleton] at hx
      subst hx
      dsimp only
      exact ⟨by omega, by omega, fun h => by omega, fun _ => rfl, by omega⟩
   · exact ihr (fun y hy => hm y (List.mem_cons_of_mem _ hy)) _ _ _ N (by omega) h1e (by omega) he x hx
 exact key l (fun x h => h)
theorem formed_cfg {f : Fl} (V : Valid f) : Formed (cfgN f) := by
 have hlen := cfgN_len f V.plain
 have hll := layL_len f.body V.plain 0 1 (1 + widL f.body)
 have hss := V.ssize
 have hwl := widL_le f.body
 refine ⟨by omega, by omega, fun j x hx => ?_⟩
 have hj := (List.getElem?_eq_some_iff.1 hx).1
 unfold cfgN at hx
 rw [List.getElem?_cons] at hx
 split at hx
 ·
  rename_i j0
  cases hx
  exact ⟨fun _ => rfl, fun h => by omega, fun h => by omega, fun h => by omega, fun _ => by dsimp only; omega, fun h => by (rcases h with h | h <;> cases h), fun _ => rfl, fun _ => rfl, fun h => by omega⟩
 ·
  rename_i j0
  by_cases hl : j - 1 < widL f.body
  ·
   rw [List.getElem?_append_left (by omega)] at hx
   obtain ⟨h1, h2, h3, h4, h5⟩ := lay_nds f.body 0 1 (1 + widL f.body) (cfgN f).length (by omega) (by omega) (by omega) (by omega) x (List.mem_of_getElem? hx)
   exact ⟨fun h => by omega, fun h => by omega, fun _ => h1, fun h => by omega, fun _ => by omega, fun h => by have := h3 h; omega, h4, fun h => by omega, fun _ => h5⟩
  ·
   rw [List.getElem?_append_right (by omega), hll, show j - 1 - widL f.body = 0 by omega] at hx
   cases hx
   exact ⟨fun h => by omega, fun _ => rfl, fun h => by omega, fun _ => rfl, fun h => by omega, fun h => by (rcases h with h | h <;> cases h), fun _ => rfl, fun _ => rfl, fun h => by omega⟩
theorem unseen_mono : ∀ {l l' : List Bool}, l.length = l'.length → (∀ (i : Nat), l[i]? = some true → l'[i]? = some true) → unseen l' ≤ unseen l ∧ ((∃ i : Nat, l[i]? = some false ∧ l'[i]? = some true) → unseen l' < unseen l)
 | [], [], _, _ => ⟨Nat.le_refl _, fun ⟨i, h, _⟩ => by simp at h⟩
 | [], _ :: _, h, _ => by simp at h
 | _ :: _, [], h, _ => by simp at h
 | x :: r, y :: s, hl, h => by
  obtain ⟨h1, h2⟩ := unseen_mono (l := r) (l' := s) (by simpa using hl) (fun i hi => by simpa using h (i + 1) (by simpa using hi))
  have h0 : x = true → y = true := fun hx => by simpa using h 0 (by simp [hx])
  have hx : unseen (x :: r) = unseen r + (if x then 0 else 1) := by unfold unseen; cases x <;> simp
  have hy : unseen (y :: s) = unseen s + (if y then 0 else 1) := by unfold unseen; cases y <;> simp
  refine ⟨?_, ?_⟩
  ·
   rw [hx, hy]
   cases x <;> cases y <;> simp_all <;> omega
  ·
   rintro ⟨i, g1, g2⟩
   rw [hx, hy]
   cases i with
   | zero => simp at g1 g2; subst g1; subst g2; simp; omega
   | succ i =>
    have := h2 ⟨i, by simpa using g1, by simpa using g2⟩
    cases x <;> cases y <;> simp_all <;> omega
theorem unseen_zero {l : List Bool} (h : unseen l = 0) : false ∉ l := by
 intro hm
 unfold unseen at h
 have := List.eq_nil_of_length_eq_zero h
 have h2 : false ∈ l.filter (fun b => !b) := List.mem_filter.2 ⟨hm, rfl⟩
 rw [this] at h2
 cases h2
theorem unseen_pos {l : List Bool} (h : 0 < unseen l) : ∃ i : Nat, l[i]? = some false := by
 unfold unseen at h
 obtain ⟨b, hb⟩ := List.exists_mem_of_length_pos h
 rw [List.mem_filter] at hb
 have : b = false := by simpa using hb.2
 subst this
 exact List.mem_iff_getElem?.1 hb.1
theorem unseen_rep (n : Nat) : unseen (List.replicate n false) = n := by
 unfold unseen
 induction n with
 | zero => rfl
 | succ n ih => simp [List.replicate_succ] at ih ⊢
theorem Pth.leave {G : List Nd} {l : List Bool} (hl : l.length = G.length) (hG : ∀ (i : Nat) x, G[i]? = some x → ∀ to, to = x.next ∨ to = x.other → -1 ≤ to ∧ to < G.length) {i j : Nat} (h : Pth G i j) (hi : l[i]? = some true) (hj : l[j]? = some false) : ∃ (a b : Nat) (x : Nd), G[a]? = some x ∧ ((b : Int) = x.next ∨ (b : Int) = x.other) ∧ l[a]? = some true ∧ l[b]? = some false := by
 induction h with
 | refl => rw [hi] at hj; cases hj
 | @step i j k x hx he _ ih =>
  obtain ⟨b, hb⟩ : ∃ b, l[j]? = some b := ⟨_, List.getElem?_eq_getElem (by have := hG i x hx _ he; omega)⟩
  cases b with
  | true => exact ih hb hj
  | false => exact ⟨i, j, x, hx, he, hi, hb⟩
theorem Pth.enter {G : List Nd} {l : List Bool} (hl : l.length = G.length) (hG : ∀ (i : Nat) x, G[i]? = some x → ∀ to, to = x.next ∨ to = x.other → -1 ≤ to ∧ to < G.length) {i j : Nat} (h : Pth G i j) (hi : l[i]? = some false) (hj : l[j]? = some true) : ∃ (a b : Nat) (x : Nd), G[a]? = some x ∧ ((b : Int) = x.next ∨ (b : Int) = x.other) ∧ l[a]? = some false ∧ l[b]? = some true := by
 induction h with
 | refl => rw [hi] at hj; cases hj
 | @step i j k x hx he _ ih =>
  obtain ⟨b, hb⟩ : ∃ b, l[j]? = some b := ⟨_, List.getElem?_eq_getElem (by have := hG i x hx _ he; omega)⟩
  cases b with
  | true => exact ⟨i, j, x, hx, he, hi, hb⟩
  | false => exact ih hb hj
theorem rawTo_of {g : List Nd} {a b : Nat} {x : Nd} (hx : g[a]? = some x) (h : (b : Int) = x.next ∨ (b : Int) = x.other) : ((a : Int), (b : Int)) ∈ rawTo g g.length := by
 unfold rawTo
 refine List.mem_flatMap.2 ⟨a, List.mem_range.2 (List.getElem?_eq_some_iff.1 hx).1, ?_⟩
 rw [ndAt_eq hx, List.mem_append]
 unfold edOf
 rcases h with h | h
 · exact .inl (by rw [← h, if_pos (by omega)]; simp)
 · exact .inr (by rw [← h, if_pos (by omega)]; simp)
theorem rawTo_inv {g : List Nd} {e : Int × Int} (h : e ∈ rawTo g g.length) : ∃ (a b : Nat) (x : Nd), e = ((a : Int), (b : Int)) ∧ g[a]? = some x ∧ ((b : Int) = x.next ∨ (b : Int) = x.other) := by
 unfold rawTo at h
 obtain ⟨j, hj, he⟩ := List.mem_flatMap.1 h
 rw [List.mem_range] at hj
 have hx : g[j]? = some g[j] := List.getElem?_eq_getElem hj
 rw [ndAt_eq hx] at he
 unfold edOf at he
 rcases List.mem_append.1 he with he | he <;> (split at he <;> simp at he; rename_i h0)
 · exact ⟨j, (g[j]).next.toNat, _, by rw [he, Int.toNat_of_nonneg h0], hx, .inl (Int.toNat_of_nonneg h0)⟩
 · exact ⟨j, (g[j]).other.toNat, _, by rw [he, Int.toNat_of_nonneg h0], hx, .inr (Int.toNat_of_nonneg h0)⟩
structure Rd (es : List (Int × Int)) (k : Nat) (l l' : List Bool) (way : Int × Int → Nat × Nat) : Prop where
 len : l'.length = l.length
 mono : ∀ (i : Nat), l[i]? = some true → l'[i]? = some true
 got : ∀ (j : Nat) e, j < k → es[j]? = some e → l[(way e).1]? = some true → l'[(way e).2]? = some true
def orAt (l : List Bool) (b a : Nat) : List Bool := l.set b (l.getD b false || l.getD a false)
theorem orAt_mono {l : List Bool} {b a i : Nat} (h : l[i]? = some true) : (orAt l b a)[i]? = some true := by
 unfold orAt
 by_cases e : b = i
 ·
  subst e
  rw [List.getElem?_set_self (List.getElem?_eq_some_iff.1 h).1]
  simp [h]
 · rw [List.getElem?_set_ne e]; exact h
theorem Rd.start (es : List (Int × Int)) (l : List Bool) (way : Int × Int → Nat × Nat) : Rd es 0 l l way := ⟨rfl, fun _ h => h, fun _ _ h => absurd h (Nat.not_lt_zero _)⟩
theorem Rd.next {es : List (Int × Int)} {k : Nat} {l l' : List Bool} {way : Int × Int → Nat × Nat} {e : Int × Int} (h : Rd es k l l' way) (he : es[k]? = some e) (hb : (way e).2 < l.length) : Rd es (k + 1) l (orAt l' (way e).2 (way e).1) way := by
 refine ⟨by unfold orAt; rw [List.length_set]; exact h.len, fun i hi => orAt_mono (h.mono i hi), fun j q hj hq hl => ?_⟩
 by_cases hjk : j < k
 · exact orAt_mono (h.got j q hjk hq hl)
 ·
  obtain rfl : j = k := by omega
  rw [he] at hq
  cases hq
  unfold orAt
  rw [List.getElem?_set_self (by rw [h.len]; exact hb)]
  have := h.mono _ hl
  simp [this]
def wayOf (back : Bool) (e : Int × Int) : Nat × Nat := if back then (e.2.toNat, e.1.toNat) else (e.1.toNat, e.2.toNat)
theorem Rd.less {f : Fl} (V : Valid f) {s : List (Int × Int)} (hs : ∀ e, e ∈ s ↔ e ∈ rawTo (cfgN f) (cfgN f).length) {l l' : List Bool} (hl : l.length = (cfgN f).length) {back : Bool} (h : Rd s s.length l l' (wayOf back)) (h0 : if back then l[(cfgN f).length - 1]? = some true else l[0]? = some true) : unseen l' ≤ unseen l - 1 := by
 obtain ⟨h1, h2⟩ := unseen_mono h.len.symm h.mono
 rcases Nat.eq_zero_or_pos (unseen l) with hz | hp
 · omega
 ·
  obtain ⟨i, hi⟩ := unseen_pos hp
  have hil := (List.getElem?_eq_some_iff.1 hi).1
  have hw := (V.ways.1 i (by omega))
  have key : ∃ (a b : Nat) (x : Nd), (cfgN f)[a]? = some x ∧ ((b : Int) = x.next ∨ (b : Int) = x.other) ∧ (if back then l[a]? = some false ∧ l[b]? = some true else l[a]? = some true ∧ l[b]? = some false) := by
   cases back with
   | true =>
    obtain ⟨a, b, x, g1, g2, g3, g4⟩ := hw.2.enter hl (fun i x hx => (V.edge hx).1) hi h0
    exact ⟨a, b, x, g1, g2, g3, g4⟩
   | false =>
    obtain ⟨a, b, x, g1, g2, g3, g4⟩ := hw.1.leave hl (fun i x hx => (V.edge hx).1) h0 hi
    exact ⟨a, b, x, g1, g2, g3, g4⟩
  obtain ⟨a, b, x, g1, g2, g3⟩ := key
  obtain ⟨k, hk⟩ := List.mem_iff_getElem?.1 ((hs _).2 (rawTo_of g1 g2))
  have hg := h.got k _ (List.getElem?_eq_some_iff.1 hk).1 hk
  have := h2 (by
   cases back with
   | true => exact ⟨a, g3.1, by simpa [wayOf] using hg (by simpa [wayOf] using g3.2)⟩
   | false => exact ⟨b, g3.2, by simpa [wayOf] using hg (by simpa [wayOf] using g3.1)⟩)
  omega
theorem indexB_ok (l : List Bool) (x : Bool) (v : Value) (D : Nat → Prop) (W : World) (hv : SlR 1 RBool D W v l) : Calls Tryz.prog 98 #[v, .bool x] W (Ret fun r w' => (∃ i : Int, r = .int .i64 i ∧ (0 ≤ i ↔ x ∈ l)) ∧ Ext W w') := by
 obtain ⟨a, c, rfl⟩ := hv.form
 have hmx := hv.max
 refine G.in2 Tryz.func98 rfl Tryz.ntmps98 rfl (V.inn ?_)
 refine Vs 14 rfl ?_
 refine V.loopK (σ := Nat) [0, 1, 7] [] [] rfl (fun e k => (8, .int .i64 k) :: e) (fun e k => e) (fun k => k ≤ l.length ∧ x ∉ l.take k) (fun k => l.length - k) (0) (Sub.of rfl) (Has.of rfl) (fun _ => rfl) (fun _ => rfl) (fun _ => rfl) (⟨Nat.zero_le _, by simp⟩) ?_
 rintro k ⟨hk, hn⟩
 refine Vs 6 rfl ?_
 refine V.ite rfl (fun hlt => ?_) (fun hlt => ?_)
 ·
  refine Vs 15 rfl ?_
  obtain ⟨y, he_y⟩ : ∃ z_, l[k]? = some z_ := ⟨_, List.getElem?_eq_getElem (by omega)⟩
  have hm_y := List.mem_of_getElem? he_y
  obtain ⟨b_y, o_y, c_y, ha_y, _, hc_y, hR_y⟩ := hv.at he_y
  obtain rfl := hR_y
  refine V.fr 1000 0 rfl rfl hc_y ?_
  refine V.ix 1000 Tryz.runUnderlying104 Tryz.sizeOf4 rfl ha_y (by omega) (_) (rfl) rfl ?_
  refine Vs 4 rfl ?_
  refine V.ite rfl (fun he => ?_) (fun he => ?_)
  ·
   refine Vs 12 rfl ?_
   refine V.ret1 Tryz.results98 rfl (fun w hI => ⟨_, rfl, ⟨_, rfl, by simp; rw [he]; exact List.mem_of_getElem? he_y⟩, hI.k0⟩)
  ·
   refine Va 7 rfl (by omega) ?_
   refine V.back (k + 1) (Sub.of rfl) (Has.of rfl) (⟨by omega, fun h => ((mem_take1 he_y).1 h).elim hn he⟩) (by first | omega | (dsimp only; omega)) 0 rfl rfl
 ·
  obtain rfl : k = l.length := by omega
  rw [List.take_length] at hn
  refine Vs 11 rfl ?_
  refine V.ret1 Tryz.results98 rfl (fun w hI => ⟨_, rfl, ⟨_, rfl, by simp [hn]⟩, hI.k0⟩)
theorem containsB_ok (l : List Bool) (x : Bool) (v : Value) (D : Nat → Prop) (W : World) (hv : SlR 1 RBool D W v l) : Calls Tryz.prog 55 #[v, .bool x] W (Ret fun r w' => r = .bool (decide (x ∈ l)) ∧ Ext W w') := by
 refine G.in2 Tryz.func55 rfl Tryz.ntmps55 rfl (V.inn ?_)
 refine Vs 9 rfl ?_
 refine V.call2 Tryz.call98 rfl (fun w hI => indexB_ok l x v D w (Tr1 hI.k0 hv)) ?_
 rintro rr w1 w2 hI1 hk12 ⟨i, rfl, hi⟩ hlow
 refine Vs 5 rfl ?_
 refine V.ret1 Tryz.results55 rfl (fun w hI => ⟨_, rfl, by congr 1; rw [decide_eq_decide]; exact hi, hI.k1⟩)
theorem lawConnected_ok (f : Fl) (v1 v2 v3 : Value) (D : Nat → Prop) (W : World) (hf : RFl D W f v1 v2 v3) :
  Calls Tryz.prog 13 #[.agg #[v1, v2, v3]] W (Ret fun r w' => r = .bool true ∧ Ext W w') := by
 refine G.in1 Tryz.func13 rfl Tryz.ntmps13 rfl (V.inn ?_)
 refine Vs 2 rfl ?_
 refine V.box 1 rfl rfl (fun b1 => ?_)
 refine Vs 6 rfl ?_
 refine V.call1 Tryz.call14 rfl (fun w hI => known_ok w) ?_
 refine V.ops1 rfl (fun w hI => R.notU rfl (by first | exact not_decide_eq | rfl)) ?_
 refine Vs 2 rfl ?_
 refine V.bool rfl (fun k0 => ?_) (fun k0 => ?_)
 · cases k0
 ·
  refine Vs 6 rfl ?_
  refine V.call2 Tryz.call26 rfl (fun w hI => fit_ok f 4096 4096 256 v1 v2 v3 D w (Tr1 hI.k0 hf)) ?_
  rintro rr w1 w2 hI1 hk12 ⟨q, rfl, hq⟩ hlow
  refine V.ops1 rfl (fun w hI => R.notU rfl (by first | exact not_decide_eq | rfl)) ?_
  refine Vs 2 rfl ?_
  refine V.bool rfl (fun q0 => ?_) (fun q0 => ?_)
  ·
   refine Vs 7 rfl ?_
   refine V.ret1 Tryz.results13 rfl (fun w hI => ⟨_, rfl, rfl, hI.k1⟩)
  ·
   have vd : Valid f := valid_of (hq (by simpa using q0))
   have hss := vd.ssize
   have hl := vd.lens
   have hlen := cfgN_len f vd.plain
   have hwl := widL_le f.body
   refine Vs 5 rfl ?_
   refine V.call2 Tryz.call16 rfl (fun w hI => cfgBuild_ok f v1 v2 v3 D w (Tr1 hI.k1 hf) vd.size vd.bulk) ?_
   rintro rr w5 w6 hI5 hk56 ⟨nv, rfl, hnv⟩ hlow3
   rw [show graphOf f = cfgN f from if_pos vd.ok] at hnv
   obtain ⟨an, cn, rfl⟩ := hnv.form
   refine Vs 3 rfl ?_
   refine V.alloc 3 Tryz.zeroValue31 rfl rfl (fun b3 => ?_)
   refine Vs 5 rfl ?_
   refine V.dat 900 0 rfl rfl rfl (hnv) (fun b hb _ hs => by have := hlow3 b hs; omega) ?_
   refine Vs 2 rfl ?_
   refine V.call2 Tryz.call46 rfl (fun w hI => cfgGraph_ok (cfgN f) _ _ w (hI.at 900 rfl).1) ?_
   rintro rr w7 w8 hI7 hk78 ⟨m, a, s, c, e, rfl, h1, h2, hs⟩ hlow4
   have hF : Formed (cfgN f) := formed_cfg vd
   obtain ⟨he, h3, h4⟩ := h2 hF
   rw [raw_check (by omega) fun i x hx to ht h0 => ((vd.edge hx).1 to ht).2] at he
   subst he
   obtain ⟨rfl, hS⟩ := h4 rfl
   obtain ⟨hs1, hs2, hs3⟩ := hS
   have hsl := rawTo_len (cfgN f) (cfgN f).length
   refine Vs 3 rfl ?_
   refine V.alloc 5 Tryz.zeroValue91 rfl rfl (fun b5 => ?_)
   refine Vs 6 rfl ?_
   refine V.dat 901 0 rfl rfl rfl (hs) (fun b hb _ hs => by have := hlow4 b hs; omega) ?_
   refine Vs 4 rfl ?_
   refine V.sp 28 rfl (fun a1 => ?_) (fun a1 => ?_)
   · exact absurd vd.ok a1
   ·
    refine Vs 4 rfl ?_
    refine V.sp 32 rfl (fun a2 => ?_) (fun a2 => ?_)
    · exact absurd rfl a2
    ·
     refine Vs 8 rfl ?_
     refine V.sp 40 rfl (fun a3 => ?_) (fun a3 => ?_)
     · exact absurd rfl a3
     ·
      refine Vs 6 rfl ?_
      refine V.ite rfl (fun a4 => ?_) (fun a4 => ?_)
      · omega
      ·
       refine Vs 3 rfl ?_
       refine V.cutK (σ := Nat × Nat) [3, 5] [3, 5, 900, 901] [3, 5] rfl (fun e ⟨b47, b50⟩ => (7, .slice (some ⟨b47, 0, none⟩) (cfgN f).length (cfgN f).length) :: (8, .slice (some ⟨b50, 0, none⟩) (cfgN f).length (cfgN f).length) :: e) (fun e ⟨b47, b50⟩ => (47, .row 4 1 (.slice (some ⟨b47, 0, none⟩) (cfgN f).length (cfgN f).length) (cfgN f).length (List.replicate (cfgN f).length (Value.bool false))) :: (50, .row 4 1 (.slice (some ⟨b50, 0, none⟩) (cfgN f).length (cfgN f).length) (cfgN f).length (List.replicate (cfgN f).length (Value.bool false))) :: e) (fun ⟨b47, b50⟩ => True) (fun _ => rfl) (fun _ => rfl) ?_ ?_
       ·
        refine Vw [1, 3, 5] [] rfl ?_
        refine Vd [0, 1, 3, 4] 0 (by kernel_rfl) rfl rfl rfl ?_
        refine VD.make2 2 5 47 50 0 Tryz.underlying104 Tryz.el4 Tryz.underlying104 Tryz.el4 rfl (by kernel_rfl) rfl rfl rfl rfl (⟨by omega, by omega, by omega, by omega⟩) ((by exact made1 _ _ rfl : madeCells _ _ = (List.replicate (cfgN f).length (Value.bool false)).toArray)) ((by exact made1 _ _ rfl : madeCells _ _ = (List.replicate (cfgN f).length (Value.bool false)).toArray)) (by simp) (fun b47 => ?_) (fun b50 => ?_)
        ·
         refine Vd [6] 0 (by kernel_rfl) rfl rfl rfl ?_
         refine VD.make 5 50 0 Tryz.underlying104 Tryz.el4 rfl (by kernel_rfl) rfl rfl (by omega) (by omega) ((by exact made1 _ _ rfl : madeCells _ _ = (List.replicate (cfgN f).length (Value.bool false)).toArray)) (by simp) (fun b50 => ?_)
         refine Vd [7] 0 (by kernel_rfl) rfl rfl rfl ?_
         refine VD.done (by kernel_rfl) ?_
         refine V.meet (⟨b47, b50⟩) (Sub.of rfl) (Has.of rfl) (trivial) 0 rfl rfl
        ·
         refine VD.make 2 47 0 Tryz.underlying104 Tryz.el4 rfl (by kernel_rfl) rfl rfl (by omega) (by omega) ((by exact made1 _ _ rfl : madeCells _ _ = (List.replicate (cfgN f).length (Value.bool false)).toArray)) (by simp) (fun b47 => ?_)
         refine Vd [6, 7] 0 (by kernel_rfl) rfl rfl rfl ?_
         refine VD.done (by kernel_rfl) ?_
         refine V.meet (⟨b47, b50⟩) (Sub.of rfl) (Has.of rfl) (trivial) 0 rfl rfl
       rintro ⟨b47, b50⟩ _
       show V _ _ _ _ _ ((7, .slice (some ⟨b47, 0, none⟩) (cfgN f).length (cfgN f).length) :: (8, .slice (some ⟨b50, 0, none⟩) (cfgN f).length (cfgN f).length) :: _) _ ((47, .row 4 1 (.slice (some ⟨b47, 0, none⟩) (cfgN f).length (cfgN f).length) (cfgN f).length (List.replicate (cfgN f).length (Value.bool false))) :: (50, .row 4 1 (.slice (some ⟨b50, 0, none⟩) (cfgN f).length (cfgN f).length) (cfgN f).length (List.replicate (cfgN f).length (Value.bool false))) :: _) _
       refine Vs 2 rfl ?_
       refine Vw [3, 5] [] rfl ?_
       refine Vb [0, 1, 2, 3, 4, 5] 0 (by kernel_rfl) rfl rfl rfl (by omega) ?_
       refine VD.rs 6 47 0 (0) Tryz.sizeOf4 rfl (by kernel_rfl) rfl rfl (rfl) (by simp; omega) ?_
       refine Vb [7] 0 (by kernel_rfl) rfl rfl rfl (by omega) ?_
       refine VD.rs 8 50 0 ((cfgN f).length - 1) Tryz.sizeOf4 rfl (by kernel_rfl) rfl rfl (by omega) (by simp; omega) ?_
       refine VD.done (by kernel_rfl) ?_
       refine Vs 10 rfl ?_
       refine V.heq 47 rfl (e' := .row 4 1 (.slice (some ⟨b47, 0, none⟩) (cfgN f).length (cfgN f).length) (cfgN f).length (((List.replicate (cfgN f).length false).set 0 true).map Value.bool)) (by rw [List.map_set, List.map_replicate]) ?_
       refine V.heq 50 rfl (e' := .row 4 1 (.slice (some ⟨b50, 0, none⟩) (cfgN f).length (cfgN f).length) (cfgN f).length (((List.replicate (cfgN f).length false).set ((cfgN f).length - 1) true).map Value.bool)) (by rw [List.map_set, List.map_replicate]) ?_
       have hu1 := unseen_set (seen := List.replicate (cfgN f).length false) (i := 0) (by rw [List.getElem?_replicate, if_pos (by omega)])
       have hu2 := unseen_set (seen := List.replicate (cfgN f).length false) (i := (cfgN f).length - 1) (by rw [List.getElem?_replicate, if_pos (by omega)])
       rw [unseen_rep] at hu1 hu2
       refine V.loopK (σ := Nat × List Bool × List Bool) [3, 5, 7, 8, 59] [3, 5, 900, 901] [3, 5] rfl (fun e ⟨r, fr, tb⟩ => (60, .int .i64 r) :: e) (fun e ⟨r, fr, tb⟩ => (47, .row 4 1 (.slice (some ⟨b47, 0, none⟩) (cfgN f).length (cfgN f).length) (cfgN f).length ((fr).map Value.bool)) :: (50, .row 4 1 (.slice (some ⟨b50, 0, none⟩) (cfgN f).length (cfgN f).length) (cfgN f).length ((tb).map Value.bool)) :: e) (fun ⟨r, fr, tb⟩ => r ≤ (cfgN f).length ∧ (fr.length = (cfgN f).length ∧ tb.length = (cfgN f).length) ∧ (fr[0]? = some true ∧ tb[(cfgN f).length - 1]? = some true) ∧ (unseen fr = 0 ∨ unseen fr + r + 1 ≤ (cfgN f).length) ∧ (unseen tb = 0 ∨ unseen tb + r + 1 ≤ (cfgN f).length)) (fun ⟨r, fr, tb⟩ => (cfgN f).length - r) ((0, _, _)) (Sub.of rfl) (Has.of rfl) (fun _ => rfl) (fun _ => rfl) (fun _ => rfl) (⟨Nat.zero_le _, ⟨by simp, by simp⟩, ⟨by rw [List.getElem?_set_self (by simp; omega)], by rw [List.getElem?_set_self (by simp; omega)]⟩, .inr (by omega), .inr (by omega)⟩) ?_
       rintro ⟨r, fr, tb⟩ ⟨hr, ⟨hfl, htl⟩, ⟨hf0, ht0⟩, huf, hut⟩
       show V _ _ _ _ _ ((60, .int .i64 r) :: _) _ ((47, .row 4 1 (.slice (some ⟨b47, 0, none⟩) (cfgN f).length (cfgN f).length) (cfgN f).length ((fr).map Value.bool)) :: (50, .row 4 1 (.slice (some ⟨b50, 0, none⟩) (cfgN f).length (cfgN f).length) (cfgN f).length ((tb).map Value.bool)) :: _) _
       refine Vs 6 rfl ?_
       refine V.ite rfl (fun hlt => ?_) (fun hlt => ?_)
       ·
        refine Vs 13 rfl ?_
        refine V.loopK (σ := Nat × List Bool × List Bool) [3, 5, 7, 8, 59, 60, 63, 64] [3, 5, 900, 901] [3, 5] rfl (fun e ⟨k, fr', tb'⟩ => (65, .int .i64 k) :: e) (fun e ⟨k, fr', tb'⟩ => (47, .row 4 1 (.slice (some ⟨b47, 0, none⟩) (cfgN f).length (cfgN f).length) (cfgN f).length ((fr').map Value.bool)) :: (50, .row 4 1 (.slice (some ⟨b50, 0, none⟩) (cfgN f).length (cfgN f).length) (cfgN f).length ((tb').map Value.bool)) :: e) (fun ⟨k, fr', tb'⟩ => k ≤ s.length ∧ Rd s k fr fr' (wayOf false) ∧ Rd s k tb tb' (wayOf true)) (fun ⟨k, fr', tb'⟩ => s.length - k) ((0, fr, tb)) (Sub.of rfl) (Has.of rfl) (fun _ => rfl) (fun _ => rfl) (fun _ => rfl) (⟨Nat.zero_le _, Rd.start .., Rd.start ..⟩) ?_
        rintro ⟨k, fr', tb'⟩ ⟨hk, hRf, hRt⟩
        show V _ _ _ _ _ ((65, .int .i64 k) :: _) _ ((47, .row 4 1 (.slice (some ⟨b47, 0, none⟩) (cfgN f).length (cfgN f).length) (cfgN f).length ((fr').map Value.bool)) :: (50, .row 4 1 (.slice (some ⟨b50, 0, none⟩) (cfgN f).length (cfgN f).length) (cfgN f).length ((tb').map Value.bool)) :: _) _
        have hfl' := hRf.len
        have htl' := hRt.len
        refine Vs 6 rfl ?_
        refine V.ite rfl (fun hk2 => ?_) (fun hk2 => ?_)
        ·
         obtain ⟨e, he_e⟩ : ∃ z_, s[k]? = some z_ := ⟨_, List.getElem?_eq_getElem (by omega)⟩
         have hm_e := List.mem_of_getElem? he_e
         obtain ⟨b_e, o_e, c_e, ha_e, hd_e, hc_e, hR_e⟩ := hs.atD he_e
         obtain rfl := hR_e
         refine V.frS 1000 0 rfl rfl (fun h_ => by have h1_ := hlow4 _ h_; have h2_ := hd_e; first | omega | exact h1_ h2_) hc_e ?_
         obtain ⟨a, b, x, rfl, hx, hab⟩ := rawTo_inv ((hs2 _).1 hm_e)
         have hal := (List.getElem?_eq_some_iff.1 hx).1
         have hbl := (vd.edge hx).1 _ hab
         have hRf2 := hRf.next he_e (by show b < _; omega)
         have hRt2 := hRt.next he_e (by show a < _; omega)
         refine Vs 6 rfl ?_
         refine V.ix 1000 Tryz.runUnderlying89 Tryz.sizeOf97 rfl ha_e (by omega) (k) (by omega) rfl ?_
         refine Vs 1 rfl ?_
         refine V.alloc 10 Tryz.zeroValue97 rfl rfl (fun b10 => ?_)
         refine Vs 13 rfl ?_
         refine V.sp 75 rfl (fun z1 => ?_) (fun z1 => ?_)
         · omega
         ·
          refine Vs 11 rfl ?_
          refine V.ite rfl (fun z2 => ?_) (fun z2 => ?_)
          · omega
          ·
           refine Vs 3 rfl ?_
           refine V.cutK (σ := Unit) [3, 5, 7, 8, 10, 59, 60, 63, 64, 65] [3, 5, 10, 50, 900, 901] [3, 5, 10] rfl (fun e u => e) (fun e u => (47, .row 4 1 (.slice (some ⟨b47, 0, none⟩) (cfgN f).length (cfgN f).length) (cfgN f).length ((orAt fr' b a).map Value.bool)) :: e) (fun u => True) (fun _ => rfl) (fun _ => rfl) ?_ ?_
           ·
            obtain ⟨q1, hq1⟩ : ∃ q1, fr'[b]? = some q1 := ⟨_, List.getElem?_eq_getElem (by omega)⟩
            obtain ⟨q2, hq2⟩ : ∃ q2, fr'[a]? = some q2 := ⟨_, List.getElem?_eq_getElem (by omega)⟩
            refine Vw [3, 5, 47, 1000, 10] [16] rfl ?_
            refine Vb [0, 1, 2, 3, 4, 5, 6] 0 (by kernel_rfl) rfl rfl rfl (by omega) ?_
            refine VD.ldH 7 rfl (by kernel_rfl) rfl 0 rfl rfl (fun w hI => R.load Tryz.isAgg4 rfl (row_cell (hI.at 47 rfl) (show _ = some (Value.bool q1) by rw [List.getElem?_map, hq1]; rfl))) ?_
            refine Vd [8] 0 (by kernel_rfl) rfl rfl rfl ?_
            refine VD.sb 93 rfl (fun c => ?_) (fun c => ?_)
            ·
             subst c
             refine Vb [9, 10, 11, 12, 13, 14, 15] 0 (by kernel_rfl) rfl rfl rfl (by omega) ?_
             refine VD.rsL 16 47 (b) Tryz.sizeOf4 rfl (by kernel_rfl) rfl (by omega) (by simp; omega) ?_
             refine VDx.done (by kernel_rfl) ?_
             refine V.heq 47 rfl (e' := .row 4 1 (.slice (some ⟨b47, 0, none⟩) (cfgN f).length (cfgN f).length) (cfgN f).length ((orAt fr' b a).map Value.bool)) (by unfold orAt; rw [List.map_set]; simp [hq1]) ?_
             refine V.meet (()) (Sub.of rfl) (Has.of rfl) (trivial) 0 rfl rfl
            ·
             subst c
             refine Vb [9, 10, 11, 12] 0 (by kernel_rfl) rfl rfl rfl (by omega) ?_
             refine VD.ldH 13 rfl (by kernel_rfl) rfl 0 rfl rfl (fun w hI => R.load Tryz.isAgg4 rfl (row_cell (hI.at 47 rfl) (show _ = some (Value.bool q2) by rw [List.getElem?_map, hq2]; rfl))) ?_
             refine Vb [14, 15] 0 (by kernel_rfl) rfl rfl rfl (by omega) ?_
             refine VD.rsL 16 47 (b) Tryz.sizeOf4 rfl (by kernel_rfl) rfl (by omega) (by simp; omega) ?_
             refine VDx.done (by kernel_rfl) ?_
             refine V.heq 47 rfl (e' := .row 4 1 (.slice (some ⟨b47, 0, none⟩) (cfgN f).length (cfgN f).length) (cfgN f).length ((orAt fr' b a).map Value.bool)) (by unfold orAt; rw [List.map_set]; simp [hq1, hq2]) ?_
             refine V.meet (()) (Sub.of rfl) (Has.of rfl) (trivial) 0 rfl rfl
           rintro u _
           refine Vs 2 rfl ?_
           refine V.cutK (σ := Unit) [3, 5, 7, 8, 10, 59, 60, 63, 64, 65] [3, 5, 10, 47, 900, 901] [3, 5, 10] rfl (fun e u => e) (fun e u => (50, .row 4 1 (.slice (some ⟨b50, 0, none⟩) (cfgN f).length (cfgN f).length) (cfgN f).length ((orAt tb' a b).map Value.bool)) :: e) (fun u => True) (fun _ => rfl) (fun _ => rfl) ?_ ?_
           ·
            obtain ⟨q1, hq1⟩ : ∃ q1, tb'[a]? = some q1 := ⟨_, List.getElem?_eq_getElem (by omega)⟩
            obtain ⟨q2, hq2⟩ : ∃ q2, tb'[b]? = some q2 := ⟨_, List.getElem?_eq_getElem (by omega)⟩
            refine Vw [3, 5, 10, 50] [16] rfl ?_
            refine Vb [0, 1, 2, 3, 4, 5, 6] 0 (by kernel_rfl) rfl rfl rfl (by omega) ?_
            refine VD.ldH 7 rfl (by kernel_rfl) rfl 0 rfl rfl (fun w hI => R.load Tryz.isAgg4 rfl (row_cell (hI.at 50 rfl) (show _ = some (Value.bool q1) by rw [List.getElem?_map, hq1]; rfl))) ?_
            refine Vd [8] 0 (by kernel_rfl) rfl rfl rfl ?_
            refine VD.sb 109 rfl (fun c => ?_) (fun c => ?_)
            ·
             subst c
             refine Vb [9, 10, 11, 12, 13, 14, 15] 0 (by kernel_rfl) rfl rfl rfl (by omega) ?_
             refine VD.rsL 16 50 (a) Tryz.sizeOf4 rfl (by kernel_rfl) rfl (by omega) (by simp; omega) ?_
             refine VDx.done (by kernel_rfl) ?_
             refine V.heq 50 rfl (e' := .row 4 1 (.slice (some ⟨b50, 0, none⟩) (cfgN f).length (cfgN f).length) (cfgN f).length ((orAt tb' a b).map Value.bool)) (by unfold orAt; rw [List.map_set]; simp [hq1]) ?_
             refine V.meet (()) (Sub.of rfl) (Has.of rfl) (trivial) 0 rfl rfl
            ·
             subst c
             refine Vb [9, 10, 11, 12] 0 (by kernel_rfl) rfl rfl rfl (by omega) ?_
             refine VD.ldH 13 rfl (by kernel_rfl) rfl 0 rfl rfl (fun w hI => R.load Tryz.isAgg4 rfl (row_cell (hI.at 50 rfl) (show _ = some (Value.bool q2) by rw [List.getElem?_map, hq2]; rfl))) ?_
             refine Vb [14, 15] 0 (by kernel_rfl) rfl rfl rfl (by omega) ?_
             refine VD.rsL 16 50 (a) Tryz.sizeOf4 rfl (by kernel_rfl) rfl (by omega) (by simp; omega) ?_
             refine VDx.done (by kernel_rfl) ?_
             refine V.heq 50 rfl (e' := .row 4 1 (.slice (some ⟨b50, 0, none⟩) (cfgN f).length (cfgN f).length) (cfgN f).length ((orAt tb' a b).map Value.bool)) (by unfold orAt; rw [List.map_set]; simp [hq1, hq2]) ?_
             refine V.meet (()) (Sub.of rfl) (Has.of rfl) (trivial) 0 rfl rfl
           rintro u _
           refine Vs 9 rfl ?_
           refine V.sp 122 rfl (fun z3 => ?_) (fun z3 => ?_)
           ·
            refine Vs 4 rfl ?_
            obtain ⟨y, he_y⟩ : ∃ z_, (cfgN f)[b]? = some z_ := ⟨_, List.getElem?_eq_getElem (by omega)⟩
            have hm_y := List.mem_of_getElem? he_y
            obtain ⟨b_y, o_y, c_y, ha_y, hd_y, hc_y, hR_y⟩ := hnv.atD he_y
            obtain rfl := hR_y
            refine V.frS 2000 1 rfl rfl (fun h_ => by have h1_ := hlow3 _ h_; have h2_ := hd_y; first | omega | exact h1_ h2_) hc_y ?_
            refine V.ix 2000 Tryz.runUnderlying29 Tryz.sizeOf40 rfl ha_y (by omega) (_) (rfl) rfl ?_
            refine Vs 6 rfl ?_
            refine V.ite rfl (fun z4 => ?_) (fun z4 => ?_)
            ·
             obtain ⟨y', hy', hk'⟩ := vd.ways.2 a x hx b hab (by omega)
             rw [he_y] at hy'
             cases hy'
             exact absurd hk' z4
            ·
             refine Va 7 rfl (by omega) ?_
             refine V.back (⟨k + 1, orAt fr' b a, orAt tb' a b⟩) (Sub.of rfl) (Has.of rfl) (⟨by omega, hRf2, hRt2⟩) (by first | omega | (dsimp only; omega)) 0 rfl rfl
           ·
            refine Va 19 rfl (by omega) ?_
            refine V.back (⟨k + 1, orAt fr' b a, orAt tb' a b⟩) (Sub.of rfl) (Has.of rfl) (⟨by omega, hRf2, hRt2⟩) (by first | omega | (dsimp only; omega)) 0 rfl rfl
        ·
         obtain rfl : k = s.length := by omega
         have g1 := hRf.less vd hs2 (by omega) (by exact hf0)
         have g2 := hRt.less vd hs2 (by omega) (by exact ht0)
         refine Va 10 rfl (by omega) ?_
         refine V.back (⟨r + 1, fr', tb'⟩) (Sub.of rfl) (Has.of rfl) (⟨by omega, ⟨by omega, by omega⟩, ⟨hRf.mono _ hf0, hRt.mono _ ht0⟩, by omega, by omega⟩) (by first | omega | (dsimp only; omega)) 0 rfl rfl
       ·
        have hf1 : false ∉ fr := unseen_zero (by omega)
        have ht1 : false ∉ tb := unseen_zero (by omega)
        refine Vs 8 rfl ?_
        refine V.call1 Tryz.call55 rfl (fun w hI => containsB_ok fr false _ (fun _ => True) w (SlR.ofRow1 Value.bool (fun _ _ => rfl) (hI.at 47 rfl) (fun _ _ => trivial))) ?_
        refine V.ops1 rfl (fun w hI => R.notU rfl (by first | exact not_decide_eq | rfl)) ?_
        refine Vs 1 rfl ?_
        refine V.sp 137 rfl (fun c1 => ?_) (fun c1 => ?_)
        ·
         refine Vs 1 rfl ?_
         refine V.call1 Tryz.call55 rfl (fun w hI => containsB_ok tb false _ (fun _ => True) w (SlR.ofRow1 Value.bool (fun _ _ => rfl) (hI.at 50 rfl) (fun _ _ => trivial))) ?_
         refine V.ops1 rfl (fun w hI => R.notU rfl (by first | exact not_decide_eq | rfl)) ?_
         refine Vs 5 rfl ?_
         refine V.ret1 Tryz.results13 rfl (fun w hI => ⟨_, rfl, by simp [ht1], hI.k3⟩)
        · exact absurd hf1 c1
end Go.Proofs.YtldhllpogdikdaaGreat
