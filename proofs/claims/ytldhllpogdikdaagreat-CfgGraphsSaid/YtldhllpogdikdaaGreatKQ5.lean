/-
  Contracts and the mathematics that the proof needs. Nothing here is a claim.
-/
import Derived.Test.YtldhllpogdikdaaGreatKQ4
namespace Go.Proofs.YtldhllpogdikdaaGreat
open Go.GL
def exG20 : List Nd := [⟨0, -1, 1, -1⟩, ⟨3, 0, 2, 3⟩, ⟨2, 1, 3, -1⟩, ⟨4, 2, 4, -1⟩, ⟨5, 2, 5, 6⟩, ⟨2, 3, 4, -1⟩, ⟨1, -1, -1, -1⟩]
def exI20 : Ins := ⟨[1], [], []⟩
theorem ex_check : checkN exF20 = 0 := by decide +kernel
theorem ex_graph : cfgN exF20 = exG20 := by rfl
theorem ex_size : snodes exF20.body + hnodes exF20.hatches ≤ 1024 := by decide +kernel
theorem ex_bulk : sbulk exF20.body ≤ 1000000 := by decide +kernel
theorem ex_nodeAt : nodeAtN exF20 3 = (5, 0) := by decide +kernel
theorem ex_start : startCode exF20.vars exI20 = 0 := by decide +kernel
theorem ex_gcheck : gcheckN exF20 exG20 = 0 := by
 unfold gcheckN
 rw [if_neg (by rw [ex_check]; exact fun h => h rfl), if_pos ex_graph]
theorem ex_walkCode : walkCode exF20 exG20 exI20 = 0 := by
 unfold walkCode
 rw [if_neg (by rw [ex_gcheck]; exact fun h => h rfl), ex_start]
theorem ex_goes : GoesAll exF20 exI20 9 := by
 refine ⟨(iterM exF20 (hatsOf exF20 exI20) (cfgN exF20) 9 (mcOf exF20 exI20)).rd, ?_, ?_⟩
 · rfl
 ·
  have h : ∀ j : Fin 9, 0 ≤ (iterM exF20 (hatsOf exF20 exI20) (cfgN exF20) j.1 (mcOf exF20 exI20)).at_ ∧ (iterM exF20 (hatsOf exF20 exI20) (cfgN exF20) j.1 (mcOf exF20 exI20)).at_ < ((cfgN exF20).length : Int) - 1 := by decide +kernel
  exact fun j hj => h ⟨j, hj⟩
theorem ex_path : pathOf exF20 exI20 9 = [0, 1, 2, 3, 4, 5, 4, 5, 4, 6] := by decide +kernel
def exT20 : List (List Int) := [[], [4, 5], [4, 5], [1, 4, 5], [1, 4, 5], [1, 4, 5], [1, 4, 5]]
def thruB (f : Fl) (x : Nd) (d : Int) : Bool := decide (x.kind ≠ 0) && (!asgB f x || decide (varD f d ≠ (stAt f x.at_).var))
theorem thruB_of {f : Fl} {x : Nd} {d : Int} (h : ThruD f x d) : thruB f x d = true := by
 unfold thruB
 cases ha : asgB f x with
 | false => simp [h.1]
 | true => simp [h.1, h.2 ha]
def genB (f : Fl) (x : Nd) (d : Int) : Bool := (decide (x.kind = 0) && decide (((preL f.body).length : Int) ≤ d) && decide (d < (preL f.body).length + f.vars.length)) || (decide (x.kind ≠ 0) && asgB f x && decide (d = x.at_))
theorem genB_iff {f : Fl} {x : Nd} {d : Int} : GenD f x d ↔ genB f x d = true := by
 unfold genB GenD
 simp only [Bool.or_eq_true, Bool.and_eq_true, decide_eq_true_eq]
 constructor
 ·
  rintro (h | h)
  · exact .inl ⟨⟨h.1, h.2.1⟩, h.2.2⟩
  · exact .inr ⟨⟨h.1, h.2.1⟩, h.2.2⟩
 ·
  rintro (h | h)
  · exact .inl ⟨h.1.1, h.1.2, h.2⟩
  · exact .inr ⟨h.1.1, h.1.2, h.2⟩
def tabOk (f : Fl) (g : List Nd) (T : List (List Int)) : Bool := (List.range g.length).all fun i => [(ndAt g i).next, (ndAt g i).other].all fun to => decide (to < 0) ||
 (((List.range ((preL f.body).length + f.vars.length)).all fun d : Nat => !genB f (ndAt g i) d || ((T[to.toNat]?.getD []).contains (d : Int))) && ((T[i]?.getD []).all fun d => !thruB f (ndAt g i) d || ((T[to.toNat]?.getD []).contains d)))
theorem gen_range {f : Fl} {x : Nd} {d : Int} (h : GenD f x d) (hx : x.kind = 2 → 0 ≤ x.at_ ∧ x.at_ < (preL f.body).length) : 0 ≤ d ∧ d < (preL f.body).length + f.vars.length := by
 rcases h with h | h
 · omega
 ·
  have h2 : x.kind = 2 := by have := h.2.1; unfold asgB at this; simp at this; exact this.1
  have := hx h2
  omega
theorem tab_all {f : Fl} {g : List Nd} {T : List (List Int)} (hT : tabOk f g T = true) (hx : ∀ (i : Nat) x, g[i]? = some x → x.kind = 2 → 0 ≤ x.at_ ∧ x.at_ < (preL f.body).length) {to d : Int} (h : Rch f g to d) : d ∈ T[to.toNat]?.getD [] := by
 unfold tabOk at hT
 rw [List.all_eq_true] at hT
 induction h with
 | @gen i x to d he ht h0 hg =>
  have h1 := hT i (List.mem_range.2 (List.getElem?_eq_some_iff.1 he).1)
  rw [ndAt_eq he, List.all_eq_true] at h1
  have h2 := h1 to (by simpa using ht)
  rw [decide_eq_false (by omega), Bool.false_or, Bool.and_eq_true, List.all_eq_true] at h2
  have hr := gen_range hg (hx i x he)
  have h3 := h2.1 d.toNat (List.mem_range.2 (by omega))
  rw [show ((d.toNat : Nat) : Int) = d by omega, genB_iff.1 hg] at h3
  simpa using h3
 | @thru i x to d he ht h0 _ hk ih =>
  have h1 := hT i (List.mem_range.2 (List.getElem?_eq_some_iff.1 he).1)
  rw [ndAt_eq he, List.all_eq_true] at h1
  have h2 := h1 to (by simpa using ht)
  rw [decide_eq_false (by omega), Bool.false_or, Bool.and_eq_true, List.all_eq_true] at h2
  have h4 := List.all_eq_true.1 h2.2 d (by simpa using ih)
  rw [thruB_of hk] at h4
  simpa using h4
theorem ex_tab : tabOk exF20 exG20 exT20 = true := by decide +kernel
theorem ex_row {rows : List (List Int)} (h : RchRows exF20 exG20 rows) : ∃ r, rows[4]? = some r ∧ r = [1, 4, 5] := by
 obtain ⟨r, hr⟩ : ∃ r, rows[4]? = some r := ⟨_, List.getElem?_eq_getElem (by rw [h.1]; decide)⟩
 refine ⟨r, hr, ?_⟩
 obtain ⟨hs, hm⟩ := h.2 4 r hr
 have hg : ∀ d : Int, d = 4 ∨ d = 5 → Rch exF20 exG20 1 d := fun d hd => Rch.gen (i := 0) rfl (.inl rfl) (by decide) (genB_iff.2 (by rcases hd with rfl | rfl <;> decide +kernel))
 have hthru : ∀ (x : Nd) d, x.kind ≠ 0 → asgB exF20 x = false → ThruD exF20 x d := fun x d h1 h2 => ⟨h1, fun h => by rw [h2] at h; cases h⟩
 have h3 : ∀ d : Int, d = 1 ∨ d = 4 ∨ d = 5 → Rch exF20 exG20 3 d := fun d hd => by
  rcases hd with rfl | hd
  · exact Rch.gen (i := 2) rfl (.inl rfl) (by decide) (genB_iff.2 (by decide +kernel))
  · exact Rch.thru (i := 1) rfl (.inr rfl) (by decide) (hg d hd) (hthru _ _ (by decide) (by decide +kernel))
 have h4 : ∀ d : Int, d = 1 ∨ d = 4 ∨ d = 5 → Rch exF20 exG20 4 d := fun d hd => Rch.thru (i := 3) rfl (.inl rfl) (by decide) (h3 d hd) (hthru _ _ (by decide) (by decide +kernel))
 have hx : ∀ (i : Nat) x, exG20[i]? = some x → x.kind = 2 → 0 ≤ x.at_ ∧ x.at_ < ((preL exF20.body).length : Int) := by
  have hh : ∀ x ∈ exG20, x.kind = 2 → 0 ≤ x.at_ ∧ x.at_ < ((preL exF20.body).length : Int) := by
   have : ∀ x ∈ exG20.map (fun x => (x.kind, x.at_)), x.1 = 2 → 0 ≤ x.2 ∧ x.2 < ((preL exF20.body).length : Int) := by decide +kernel
   exact fun x hx => this _ (List.mem_map_of_mem hx)
  exact fun i x h => hh x (List.mem_of_getElem? h)
 refine strict_ext hs (by decide) (fun d => ?_)
 rw [hm]
 constructor
 ·
  intro h5
  exact tab_all ex_tab hx h5
 ·
  intro h5
  exact h4 d (by simpa using h5)
theorem equal_ok (xs ys : List Int) (u v : Value) (D D' : Nat → Prop) (w : World) (hx : SlR 1 RInt D w u xs) (hy : SlR 1 RInt D' w v ys) : Calls Tryz.prog 30 #[u, v] w (Ret fun r w' => r = .bool (decide (xs = ys)) ∧ Ext w w') := by
 obtain ⟨ao, cx, rfl, hxc, hxm, hxe⟩ := hx
 obtain ⟨bo, cy, rfl, hyc, hym, hye⟩ := hy
 refine G.in2 Tryz.func30 rfl Tryz.ntmps30 rfl (Gs 15 rfl (G.ite0 rfl (fun hne => ?_) (fun heq => ?_)))
 ·
  refine Gs 7 rfl ?_
  have : ¬ xs = ys := fun h => hne (by rw [h])
  refine G.ret1 Tryz.results30 rfl ⟨_, rfl, by rw [decide_eq_false this], Keep.refl _ _⟩
 ·
  have hl : xs.length = ys.length := by omega
  refine Gs 11 rfl (G.loop (σ := Nat) (fun k => [(0, .slice ao xs.length cx), (1, .slice bo ys.length cy), (11, .slice ao xs.length cx), (12, .int .i64 xs.length), (13, .int .i64 k)]) (fun k => fun w' => k ≤ xs.length ∧ xs.take k = ys.take k ∧ Ext w w') (fun k => xs.length - k) (0) (Sub.of rfl) (⟨Nat.zero_le _, rfl, Keep.refl _ _⟩) ?_)
  rintro k w1 ⟨hkl, htk, hk1⟩
  refine Gs 6 rfl (G.ite0 rfl (fun hlt => ?_) (fun hge => ?_))
  ·
   obtain ⟨x, hx⟩ : ∃ x, xs[k]? = some x := ⟨_, List.getElem?_eq_getElem (by omega)⟩
   obtain ⟨y, hy⟩ : ∃ y, ys[k]? = some y := ⟨_, List.getElem?_eq_getElem (by omega)⟩
   obtain ⟨b1, o1, c1, hao, _, hcl1, hcs1, rfl⟩ := hxe k x hx
   obtain ⟨b2, o2, c2, hbo, _, hcl2, hcs2, rfl⟩ := hye k y hy
   have hcs1' := hk1.cells hcs1 (fun h => h)
   have hcs2' := hk1.cells hcs2 (fun h => h)
   refine Gs 11 rfl (Qt (by kernel_rfl) (Gs 2 rfl (G.opQ rfl rfl (fun w1 hw1 => R.indexS Tryz.runUnderlying50 Tryz.sizeOf3 rfl rfl hao (by omega)) (G.ldQ rfl Tryz.isAgg3 (fun w1 hw1 => (hw1.cell (hcs1' 0 _ rfl) (fun h => h))) (Gs 2 rfl (G.opQ rfl rfl (fun w1 hw1 => R.indexS Tryz.runUnderlying50 Tryz.sizeOf3 rfl rfl hbo (by omega)) (G.ldQ rfl Tryz.isAgg3 (fun w1 hw1 => (hw1.cell (hcs2' 0 _ rfl) (fun h => h))) (Gs 1 rfl (G.nilQ (fun w2 hk2 => ?_))))))))))
   refine Gs 1 rfl (G.ite0 rfl (fun hd => ?_) (fun he => ?_))
   ·
    have : ¬ xs = ys := by
     rintro rfl
     rw [hx] at hy
     exact hd (Option.some.inj hy)
    refine Gs 11 rfl (G.ret1 Tryz.results30 rfl ⟨_, rfl, by rw [decide_eq_false this], hk1.ext hk2⟩)
   ·
    have hxy : x = y := Decidable.not_not.1 he
    refine Ga 7 rfl (by omega) (G.back (k + 1) (Sub.of rfl) (⟨by omega, ?_, hk1.ext hk2⟩) (by first | omega | (dsimp only; omega)))
    obtain ⟨h1, h2⟩ := List.getElem?_eq_some_iff.1 hx
    obtain ⟨h3, h4⟩ := List.getElem?_eq_some_iff.1 hy
    rw [List.take_succ_eq_append_getElem h1, List.take_succ_eq_append_getElem h3, htk, h2, h4, hxy]
  ·
   have hkk : k = xs.length := by omega
   have : xs = ys := by
    rw [hkk, List.take_length] at htk
    rw [hl, List.take_length] at htk
    exact htk
   refine Gs 11 rfl (G.ret1 Tryz.results30 rfl ⟨_, rfl, by rw [decide_eq_true this], hk1⟩)
theorem known_ok (w : World) : Calls Tryz.prog 14 #[] w (Ret fun r w' => r = .bool true ∧ Ext w w') := by
 have hE := Keep.refl (fun _ => False) w
 refine G.in0 Tryz.func14 rfl Tryz.ntmps14 (Gs 7 rfl (G.call rfl Tryz.call56 (example20_ok _) ?_))
 rintro _ w1 ⟨⟨v1, v2, v3, rfl, hf⟩, hk1⟩
 replace hE := Tr1 hk1 hE
 obtain ⟨a1, n1, rfl⟩ := hf.vars.form
 obtain ⟨a2, n2, rfl⟩ := hf.hatches.form
 obtain ⟨a3, n3, rfl⟩ := hf.body.form
 refine G.mem rfl rfl (M.alloc (cs := _) Tryz.zeroValue26 rfl) ?_
 rintro _ wa1 ⟨bf, rfl, hg_bf, hs_bf, hB_bf, hk_bf⟩
 refine G.mem0 rfl (M.storeK Tryz.sizeOf26 rfl rfl rfl rfl (by simp [Value.oneCell']) hB_bf (by simp)) ?_
 rintro w_bf ⟨_, hB_bf, hkk_bf⟩
 replace hk_bf := hk_bf.trans hkk_bf (fun q hq h => by have h : q = bf := h; omega)
 have hge_bf : _ ≤ bf := Nat.le_trans hE.size (Nat.le_of_eq hg_bf.symm)
 obtain ⟨hE, hf⟩ := Tr2 hk_bf hE hf
 refine Gs 4 rfl (G.ldK rfl Tryz.isAgg26 Tryz.sizeOf26 hB_bf.cells rfl (G.call rfl Tryz.call16 (cfgBuild_ok exF20 _ _ _ _ _ hf ex_size ex_bulk) ?_))
 rintro _ w2 ⟨⟨nv, rfl, hg⟩, hk2⟩
 rw [graphOf, if_pos ex_check, ex_graph] at hg
 rw [ex_check]
 obtain ⟨hE, hf, hB_bf⟩ := Tr3 hk2 hE hf hB_bf
 obtain ⟨ag, cg, rfl⟩ := hg.form
 refine Gs 3 rfl (G.mem rfl rfl (M.alloc (cs := _) Tryz.zeroValue31 rfl) ?_)
 rintro _ wa2 ⟨bg, rfl, hg_bg, hs_bg, hB_bg, hk_bg⟩
 refine G.mem0 rfl (M.storeK Tryz.sizeOf31 rfl rfl rfl rfl (by simp [Value.oneCell']) hB_bg (by simp)) ?_
 rintro w_bg ⟨_, hB_bg, hkk_bg⟩
 replace hk_bg := hk_bg.trans hkk_bg (fun q hq h => by have h : q = bg := h; omega)
 have hn_bf_bg : bf ≠ bg := by have := hB_bf.lt; omega
 have hge_bg : _ ≤ bg := Nat.le_trans hE.size (Nat.le_of_eq hg_bg.symm)
 obtain ⟨hE, hf, hB_bf, hg⟩ := Tr4 hk_bg hE hf hB_bf hg
 refine Gs 5 rfl (G.ldK rfl Tryz.isAgg26 Tryz.sizeOf26 hB_bf.cells rfl (G.call rfl Tryz.call22 (nodeAt_ok exF20 3 _ _ _ _ _ hf ex_size ex_bulk) ?_))
 rintro _ w3 ⟨rfl, hk3⟩
 rw [ex_nodeAt]
 obtain ⟨hE, hf, hB_bf, hg, hB_bg⟩ := Tr5 hk3 hE hf hB_bf hg hB_bg
 refine Gs 9 rfl (G.ldK rfl Tryz.isAgg26 Tryz.sizeOf26 hB_bf.cells rfl (G.ldK rfl Tryz.isAgg31 Tryz.sizeOf31 hB_bg.cells rfl (G.mem rfl rfl (M.buildSlice (cs := [.int .i64 1]) [(0, _)] Tryz.runUnderlying50 Tryz.sizeOf3 Tryz.zeroValue3 (by decide) rfl (by kernel_rfl)) ?_)))
 rintro _ w4 ⟨g4, rfl, hg4, hs4, hB4, hk4⟩
 obtain ⟨hE, hf, hB_bf, hg, hB_bg⟩ := Tr5 hk4 hE hf hB_bf hg hB_bg
 have hi1 : SlR 1 RInt (fun _ => True) w4 (.slice (some ⟨g4, 0, none⟩) 1 1) exI20.secret := SlR.ofRow1 encI1 (fun x _ => rfl) (own_blk (k := 1) (n := 1) (cap := 1) hB4 (Nat.le_refl _) (by decide) rfl) (fun _ _ => trivial)
 refine G.ops1 rfl rfl (R.build (v := .agg #[.slice (some ⟨g4, 0, none⟩) 1 1, .slice none 0 0, .slice none 0 0]) [(0, _)] rfl (fun _ => by kernel_rfl)) (G.call rfl Tryz.call27 (cfgWalk_ok exF20 exG20 exI20 _ _ _ _ _ _ _ (fun _ => True) _ _ (rflWide hf (fun _ _ => trivial)) hg hi1 SlR.nil SlR.nil ex_size ex_bulk) ?_)
 rintro _ w5 ⟨⟨pv, rfl, _, hp⟩, hk5⟩
 rw [ex_walkCode]
 obtain ⟨K, hK, hpv⟩ := hp ex_walkCode
 obtain rfl := hK.unique ex_goes
 rw [ex_path] at hpv
 obtain ⟨ap, cp, rfl⟩ := hpv.form
 obtain ⟨hE, hf, hB_bf, hg, hB_bg⟩ := Tr5 hk5 hE hf hB_bf hg hB_bg
 refine Gs 9 rfl (G.ldK rfl Tryz.isAgg26 Tryz.sizeOf26 hB_bf.cells rfl (G.ldK rfl Tryz.isAgg31 Tryz.sizeOf31 hB_bg.cells rfl (G.call rfl Tryz.call34 (reaching_ok exF20 exG20 _ _ _ _ _ _ _ hf hg ex_size ex_bulk) ?_)))
 rintro _ w6 ⟨⟨rv, rfl, _, hr⟩, hk6⟩
 rw [ex_gcheck]
 obtain ⟨rows, hrows, hrv⟩ := hr ex_gcheck
 rw [ex_graph] at hrows
 obtain ⟨r4, hr4, e4⟩ := ex_row hrows
 have hrl : rows.length = 7 := hrows.1
 obtain ⟨ar, cr, rfl⟩ := hrv.form
 obtain ⟨rb, ro, rc, hra, _, hrc, r4v, rfl, hr4s⟩ := hrv.at hr4
 obtain ⟨xa, xc, rfl⟩ := hr4s.form
 rw [hrl] at hrv ⊢
 obtain ⟨hE, hf, hB_bf, hg, hB_bg, hpv⟩ := Tr6 hk6 hE hf hB_bf hg hB_bg hpv
 refine Ga 18 rfl (by omega) (G.sp 43 rfl (fun q1 => ?_) (fun q1 => ?_))
 ·
  refine Gs 1 rfl (G.ld rfl Tryz.isAgg29 (hB_bg.cells 0 _ rfl) (Gs 4 rfl (G.sp 49 rfl (fun q2 => ?_) (fun q2 => ?_))))
  ·
   have he4 : exG20[4]? = some ⟨5, 2, 5, 6⟩ := rfl
   obtain ⟨eb, eo, ec, hea, _, hec, rfl⟩ := hg.at he4
   refine Gs 1 rfl (G.ld rfl Tryz.isAgg29 (hB_bg.cells 0 _ rfl) (G.ops1 rfl rfl (R.indexS Tryz.runUnderlying29 Tryz.sizeOf40 rfl rfl hea (by decide)) (G.ldK rfl Tryz.isAgg40 Tryz.sizeOf40 hec rfl (G.ops1 rfl rfl (R.build (v := .agg #[.int .i64 5, .int .i64 2, .int .i64 5, .int .i64 6]) [(0, _), (1, _), (2, _), (3, _)] rfl (fun _ => by kernel_rfl)) (G.ops1 rfl rfl (eqNd (a := ⟨5, 2, 5, 6⟩) (b := ⟨5, 2, 5, 6⟩) rfl rfl) (Gs 2 rfl (G.sp 57 rfl (fun q3 => ?_) (fun q3 => ?_))))))))
   ·
    refine Gs 4 rfl (G.sp 61 rfl (fun q4 => ?_) (fun q4 => ?_))
    ·
     refine Gs 1 rfl (G.mem rfl rfl (M.buildSlice (cs := [.int .i64 0, .int .i64 1, .int .i64 2, .int .i64 3, .int .i64 4, .int .i64 5, .int .i64 4, .int .i64 5, .int .i64 4, .int .i64 6]) [(0, _), (1, _), (2, _), (3, _), (4, _), (5, _), (6, _), (7, _), (8, _), (9, _)] Tryz.runUnderlying50 Tryz.sizeOf3 Tryz.zeroValue3 (by decide) rfl (by kernel_rfl)) ?_)
     rintro _ w7 ⟨g7, rfl, hg7, hs7, hB7, hk7⟩
     obtain ⟨hE, hf, hB_bf, hg, hB_bg, hpv, hrc⟩ := Tr7 hk7 hE hf hB_bf hg hB_bg hpv hrc
     replace hr4s := Tr1 hk7 hr4s
     have hc7 : SlR 1 RInt (fun _ => True) w7 (.slice (some ⟨g7, 0, none⟩) 10 10) [0, 1, 2, 3, 4, 5, 4, 5, 4, 6] := SlR.ofRow1 encI1 (fun x _ => rfl) (own_blk (k := 1) (n := 10) (cap := 10) hB7 (Nat.le_refl _) (by decide) rfl) (fun _ _ => trivial)
     refine G.call rfl Tryz.call30 (equal_ok [0, 1, 2, 3, 4, 5, 4, 5, 4, 6] [0, 1, 2, 3, 4, 5, 4, 5, 4, 6] _ _ _ _ _ hpv hc7) ?_
     rintro _ wz3 ⟨rfl, hz3⟩
     obtain ⟨hE, hf, hB_bf, hg, hB_bg, hpv, hrc⟩ := Tr7 hz3 hE hf hB_bf hg hB_bg hpv hrc
     replace hr4s := Tr1 hz3 hr4s
     refine Gs 2 rfl (G.sp 66 rfl (fun q5 => ?_) (fun q5 => ?_))
     ·
      refine Gs 5 rfl (G.sp 71 rfl (fun q6 => ?_) (fun q6 => ?_))
      ·
       refine Gs 1 rfl (G.ops1 rfl rfl (R.indexS Tryz.runUnderlying70 Tryz.sizeOf50 rfl rfl hra (by decide)) (G.ld rfl Tryz.isAgg50 (hrc 0 _ rfl) (G.mem rfl rfl (M.buildSlice (cs := [.int .i64 1, .int .i64 4, .int .i64 5]) [(0, _), (1, _), (2, _)] Tryz.runUnderlying50 Tryz.sizeOf3 Tryz.zeroValue3 (by decide) rfl (by kernel_rfl)) ?_)))
       rintro _ w8 ⟨g8, rfl, hg8, hs8, hB8, hk8⟩
       obtain ⟨hE, hf, hB_bf, hg, hB_bg, hpv, hrc⟩ := Tr7 hk8 hE hf hB_bf hg hB_bg hpv hrc
       replace hr4s := Tr1 hk8 hr4s
       have hc8 : SlR 1 RInt (fun _ => True) w8 (.slice (some ⟨g8, 0, none⟩) 3 3) [1, 4, 5] := SlR.ofRow1 encI1 (fun x _ => rfl) (own_blk (k := 1) (n := 3) (cap := 3) hB8 (Nat.le_refl _) (by decide) rfl) (fun _ _ => trivial)
       refine G.call rfl Tryz.call30 (equal_ok r4 [1, 4, 5] _ _ _ _ _ hr4s hc8) ?_
       rintro _ wz4 ⟨rfl, hz4⟩
       obtain ⟨hE, hf, hB_bf, hg, hB_bg, hpv, hrc⟩ := Tr7 hz4 hE hf hB_bf hg hB_bg hpv hrc
       replace hr4s := Tr1 hz4 hr4s
       refine Gs 5 rfl (G.ret1 Tryz.results14 rfl ⟨_, rfl, by rw [decide_eq_true e4], hE⟩)
      · exact absurd (by decide) q6
     · exact absurd (by decide) q5
    · exact absurd (by decide) q4
   · exact absurd (by decide) q3
  · exact absurd (by decide) q2
 · exact absurd (by decide) q1
def InE (ns : List Nd) (n e1 e2 : Nat) : Prop := ∀ x ∈ ns, ∀ to, to = x.next ∨ to = x.other → to = -1 ∨ to = (e1 : Int) ∨ to = (e2 : Int) ∨ ((n : Int) ≤ to ∧ to < (n + ns.length : Nat))
structure LoopAt (ns : List Nd) (n j : Nat) (y : Nd) (E : Nat) : Prop where
 pos : 0 < j
 lt : n + j < E
 le : E ≤ n + ns.length
 out : y.other < ((n + j : Nat) : Int) ∨ (E : Int) ≤ y.other
 only : ∀ (i : Nat) x, ns[i]? = some x → ∀ to, to = x.next ∨ to = x.other → ((n + j : Nat) : Int) ≤ to → to < (E : Int) → (j ≤ i ∧ n + i < E) ∨ (i + 1 = j ∧ x.kind = 4 ∧ to = ((n + j : Nat) : Int))
def Loops (ns : List Nd) (n : Nat) : Prop := ∀ (j : Nat) y, ns[j]? = some y → y.kind = 5 → ∃ E, LoopAt ns n j y E
theorem InE.append {A B : List Nd} {n e1 e2 f1 f2 g1 g2 : Nat} (hA : InE A n e1 e2) (hB : InE B (n + A.length) f1 f2) (he : ∀ e, e = e1 ∨ e = e2 → e = g1 ∨ e = g2 ∨ n + A.length ≤ e ∧ e < n + A.length + B.length) (hf : ∀ e, e = f1 ∨ e = f2 → e = g1 ∨ e = g2 ∨ n ≤ e ∧ e < n + A.length) : InE (A ++ B) n g1 g2 := by
 intro x hx to h
 rw [List.length_append]
 have p1 := he e1 (.inl rfl)
 have p2 := he e2 (.inr rfl)
 have q1 := hf f1 (.inl rfl)
 have q2 := hf f2 (.inr rfl)
 rcases List.mem_append.1 hx with hx | hx
 ·
  have := hA x hx to h
  omega
 ·
  have := hB x hx to h
  omega
theorem Loops.append {A B : List Nd} {n e1 e2 f1 f2 : Nat} (lA : Loops A n) (lB : Loops B (n + A.length)) (hA : InE A n e1 e2) (hB : InE B (n + A.length) f1 f2) (h1 : ∀ e, e = e1 ∨ e = e2 → e ≤ n + A.length ∨ n + A.length + B.length ≤ e) (h2 : ∀ e, e = f1 ∨ e = f2 → e < n ∨ n + A.length + B.length ≤ e) : Loops (A ++ B) n := by
 have p1 := h1 e1 (.inl rfl)
 have p2 := h1 e2 (.inr rfl)
 have q1 := h2 f1 (.inl rfl)
 have q2 := h2 f2 (.inr rfl)
 intro j y hy hk
 by_cases hj : j < A.length
 ·
  rw [List.getElem?_append_left hj] at hy
  obtain ⟨E, p1, p2, p3, p4, p5⟩ := lA j y hy hk
  refine ⟨E, p1, p2, by rw [List.length_append]; omega, p4, fun i x hx to h hl hu => ?_⟩
  by_cases hi : i < A.length
  ·
   rw [List.getElem?_append_left hi] at hx
   exact p5 i x hx to h hl hu
  ·
   rw [List.getElem?_append_right (by omega)] at hx
   have := hB x (List.mem_of_getElem? hx) to h
   omega
 ·
  rw [List.getElem?_append_right (by omega)] at hy
  obtain ⟨E, p1, p2, p3, p4, p5⟩ := lB _ y hy hk
  refine ⟨E, by omega, by omega, by rw [List.length_append]; omega, by omega, fun i x hx to h hl hu => ?_⟩
  by_cases hi : i < A.length
  ·
   rw [List.getElem?_append_left hi] at hx
   have := hA x (List.mem_of_getElem? hx) to h
   omega
  ·
   rw [List.getElem?_append_right (by omega)] at hx
   rcases p5 _ x hx to h (by omega) hu with h | h
   · exact .inl (by omega)
   · exact .inr ⟨by omega, h.2.1, by omega⟩
theorem Loops.single {x : Nd} {n : Nat} (h : x.kind ≠ 5) : Loops [x] n := by
 intro j y hy hk
 cases j with
 | zero => simp at hy; subst hy; exact absurd hk h
 | succ j => simp at hy
theorem lay_pos {l : List St} (h : l.isEmpty = false) : 1 ≤ widL l := by
 cases l with
 | nil => simp at h
 | cons s t => have := s.wid_eq; simp only [widL]; omega
theorem lay_loops (l : List St) : plainL l = true → ∀ a n e : Nat, (e < n ∨ n + widL l ≤ e) → InE (layL l a n e) n e e ∧ Loops (layL l a n e) n := by
 induction l using Sts.ind with
 | h l ih =>
 intro hp
 have key : ∀ r : List St, (∀ x ∈ r, x ∈ l) → ∀ a n e : Nat, (e < n ∨ n + widL r ≤ e) → InE (layL r a n e) n e e ∧ Loops (layL r a n e) n := by
  intro r
  induction r with
  | nil => intro _ a n e _; exact ⟨fun x hx => by simp [layL] at hx, fun j y hy => by simp [layL] at hy⟩
  | cons s r ihr =>
   intro hm a n e hne
   have hs := plainL_mem hp s (hm s (List.mem_cons_self ..))
   have hr : plainL r = true := plainL_of fun y hy => plainL_mem hp y (hm y (List.mem_cons_of_mem _ hy))
   have hps := hs
   rw [s.plainB_eq, Bool.and_eq_true, Bool.and_eq_true] at hs
   have h1 := (ih s (hm s (List.mem_cons_self ..))).1 hs.1.2
   have h2 := (ih s (hm s (List.mem_cons_self ..))).2 hs.2
   have hw := s.wid_eq
   simp only [widL] at hne
   have hlr := layL_len r hr (a + s.size) (n + s.wid) e
   have hlen : (s.lay a n (if r.isEmpty then e else n + s.wid)).length = s.wid := by
    have h1 := layL_len [s] (by rw [plainL, hps]; rfl) a n (if r.isEmpty then e else n + s.wid)
    simpa [layL, widL] using h1
   obtain ⟨r1, r2⟩ := ihr (fun y hy => hm y (List.mem_cons_of_mem _ hy)) (a + s.size) (n + s.wid) e (by omega)
   rw [layL]
   have he' : (if r.isEmpty then e else n + s.wid) = e ∨ (if r.isEmpty then e else n + s.wid) = n + s.wid ∧ 1 ≤ widL r := by
    cases hre : r.isEmpty
    · exact .inr ⟨by simp, lay_pos hre⟩
    · exact .inl (by simp)
   generalize (if r.isEmpty then e else n + s.wid) = e' at hlen he'
   have hne' : e' < n ∨ n + s.wid ≤ e' := by omega
   have hS : InE (s.lay a n e') n e' e' ∧ Loops (s.lay a n e') n := by
    rw [s.lay_eq] at hlen ⊢
    split
    ·
     rename_i a3
     rw [if_pos a3] at hlen
     rw [if_neg (show ¬ s.act = 4 by omega)] at hw
     obtain ⟨t1, t2⟩ := h1 (a + 1) (n + 1) e' (by omega)
     obtain ⟨u1, u2⟩ := h2 (a + 1 + ssize s.thn) (n + 1 + widL s.thn) e' (by omega)
     have hl1 := layL_len s.thn hs.1.2 (a + 1) (n + 1) e'
     have hl2 := layL_len s.els hs.2 (a + 1 + ssize s.thn) (n + 1 + widL s.thn) e'
     generalize hb : layL s.thn (a + 1) (n + 1) e' = B at t1 t2 hl1 ⊢
     generalize hc : layL s.els (a + 1 + ssize s.thn) (n + 1 + widL s.thn) e' = C at u1 u2 hl2 ⊢
     have hT : ∀ m1 m2 : Nat, m1 = (if s.thn.isEmpty then e' else n + 1) → m2 = (if s.els.isEmpty then e' else n + 1 + widL s.thn) → InE [(⟨3, a, if s.thn.isEmpty then (e' : Int) else (n + 1 : Nat), if s.els.isEmpty then (e' : Int) else (n + 1 + widL s.thn : Nat)⟩ : Nd)] n m1 m2 ∧ (m1 = e' ∨ m1 = n + 1 ∧ 1 ≤ widL s.thn) ∧ (m2 = e' ∨ m2 = n + 1 + widL s.thn ∧ 1 ≤ widL s.els) := by
      rintro m1 m2 rfl rfl
      refine ⟨fun x hx to h => ?_, ?_, ?_⟩
      ·
       rw [List.mem_singleton] at hx
       subst hx
       dsimp only at h
       rcases h with rfl | rfl
       · exact .inr (.inl (by split <;> rfl))
       · exact .inr (.inr (.inl (by split <;> rfl)))
      ·
       cases ht : s.thn.isEmpty
       · exact .inr ⟨by simp, lay_pos ht⟩
       · exact .inl (by simp)
      ·
       cases ht : s.els.isEmpty
       · exact .inr ⟨by simp, lay_pos ht⟩
       · exact .inl (by simp)
     obtain ⟨k1, k2, k3⟩ := hT _ _ rfl rfl
     generalize (if s.thn.isEmpty then e' else n + 1) = m1 at k1 k2
     generalize (if s.els.isEmpty then e' else n + 1 + widL s.thn) = m2 at k1 k3
     generalize hx0 : (⟨3, a, if s.thn.isEmpty then (e' : Int) else (n + 1 : Nat), if s.els.isEmpty then (e' : Int) else (n + 1 + widL s.thn : Nat)⟩ : Nd) = x0 at k1 ⊢
     have k0 : x0.kind ≠ 5 := by rw [← hx0]; intro h; cases h
     have s1 : InE ([x0] ++ B) n e' m2 := InE.append k1 t1 (by simp only [List.length_singleton]; omega) (by omega)
     have s2 : Loops ([x0] ++ B) n := Loops.append (Loops.single k0) t2 k1 t1 (by simp only [List.length_singleton]; omega) (by simp only [List.length_singleton]; omega)
     have hl3 : ([x0] ++ B).length = 1 + widL s.thn := by rw [List.length_append, hl1]; rfl
     have u1' : InE C (n + ([x0] ++ B).length) e' e' := by rw [hl3, show n + (1 + widL s.thn) = n + 1 + widL s.thn by omega]; exact u1
     have u2' : Loops C (n + ([x0] ++ B).length) := by rw [hl3, show n + (1 + widL s.thn) = n + 1 + widL s.thn by omega]; exact u2
     exact ⟨InE.append s1 u1' (by rw [hl3]; omega) (by omega), Loops.append s2 u2' s1 u1' (by rw [hl3]; omega) (by rw [hl3]; omega)⟩
    ·
     rename_i a3
     split
     ·
      rename_i a4
      rw [if_neg a3, if_pos a4] at hlen
      rw [if_pos a4] at hw
      obtain ⟨t1, t2⟩ := h1 (a + 1) (n + 2) (n + 1) (by omega)
      have hl1 := layL_len s.thn hs.1.2 (a + 1) (n + 2) (n + 1)
      have hnx : (if s.thn.isEmpty then ((n + 1 : Nat) : Int) else (n + 2 : Nat)) = (n + 1 : Nat) ∨ (if s.thn.isEmpty then ((n + 1 : Nat) : Int) else (n + 2 : Nat)) = (n + 2 : Nat) ∧ 1 ≤ widL s.thn := by
       cases ht : s.thn.isEmpty
       · exact .inr ⟨by simp, lay_pos ht⟩
       · exact .inl (by simp)
      generalize layL s.thn (a + 1) (n + 2) (n + 1) = B at t1 t2 hl1 hlen ⊢
      generalize (if s.thn.isEmpty then ((n + 1 : Nat) : Int) else (n + 2 : Nat)) = m at hnx ⊢
      refine ⟨fun x hx to h => ?_, fun j y hy hk => ?_⟩
      ·
       rw [List.length_cons, List.length_cons, hl1]
       rcases List.mem_cons.1 hx with rfl | hx
       · dsimp only at h; omega
       rcases List.mem_cons.1 hx with rfl | hx
       · dsimp only at h; omega
       · have := t1 x hx to h; rw [hl1] at this; omega
      ·
       match j with
       | 0 => simp at hy; subst hy; cases hk
       | 1 =>
        simp at hy
        subst hy
        refine ⟨n + 2 + widL s.thn, by omega, by omega, by rw [List.length_cons, List.length_cons, hl1]; omega, by dsimp only; omega, fun i x hx to h hl hu => ?_⟩
        match i with
        | 0 => simp at hx; subst hx; dsimp only at h; exact .inr ⟨rfl, rfl, by omega⟩
        | i + 1 =>
         have := (List.getElem?_eq_some_iff.1 hx).1
         rw [List.length_cons, List.length_cons, hl1] at this
         exact .inl (by omega)
       | j + 2 =>
        rw [List.getElem?_cons_succ, List.getElem?_cons_succ] at hy
        obtain ⟨E, p1, p2, p3, p4, p5⟩ := t2 j y hy hk
        rw [hl1] at p3
        refine ⟨E, by omega, by omega, by rw [List.length_cons, List.length_cons, hl1]; omega, by omega, fun i x hx to h hl hu => ?_⟩
        match i with
        | 0 => simp at hx; subst hx; dsimp only at h; omega
        | 1 => simp at hx; subst hx; dsimp only at h; omega
        | i + 2 =>
         rw [List.getElem?_cons_succ, List.getElem?_cons_succ] at hx
         rcases p5 i x hx to h (by omega) hu with h | h
         · exact .inl (by omega)
         · exact .inr ⟨by omega, h.2.1, by omega⟩
     ·
      rename_i a4
      refine ⟨fun x hx to h => ?_, Loops.single (fun h => by cases h)⟩
      rw [List.mem_singleton] at hx
      subst hx
      dsimp only at h
      omega
   exact ⟨InE.append hS.1 (by rw [hlen]; exact r1) (by rw [hlen, hlr]; omega) (by omega), Loops.append hS.2 (by rw [hlen]; exact r2) hS.1 (by rw [hlen]; exact r1) (by rw [hlen, hlr]; omega) (by rw [hlen, hlr]; omega)⟩
 exact key l (fun x h => h)
structure LoopOf (f : Fl) (h : Nat) (y : Nd) (E : Nat) : Prop where
 lt : h < E
 le : E < (cfgN f).length
 out : y.other < (h : Int) ∨ (E : Int) ≤ y.other
 only : ∀ (i : Nat) x, (cfgN f)[i]? = some x → ∀ to, to = x.next ∨ to = x.other → (h : Int) ≤ to → to < (E : Int) → (h ≤ i ∧ i < E) ∨ (i + 1 = h ∧ x.kind = 4 ∧ to = (h : Int))
theorem Valid.loop {f : Fl} (V : Valid f) {h : Nat} {y : Nd} (hy : (cfgN f)[h]? = some y) (hk : y.kind = 5) : ∃ E, LoopOf f h y E := by
 have hlen := cfgN_len f V.plain
 obtain ⟨k1, k2⟩ := lay_loops f.body V.plain 0 1 (1 + widL f.body) (.inr (Nat.le_refl _))
 have hll := layL_len f.body V.plain 0 1 (1 + widL f.body)
 have hget : ∀ (i : Nat) x, (cfgN f)[i]? = some x → (i = 0 ∧ x = ⟨0, -1, 1, -1⟩) ∨ (∃ j, i = j + 1 ∧ (layL f.body 0 1 (1 + widL f.body))[j]? = some x) ∨ x = ⟨1, -1, -1, -1⟩ := by
  intro i x hx
  unfold cfgN at hx
  cases i with
  | zero => simp at hx; exact .inl ⟨rfl, hx.symm⟩
  | succ i =>
   rw [List.getElem?_cons_succ] at hx
   by_cases hi : i < widL f.body
   ·
    rw [List.getElem?_append_left (by omega)] at hx
    exact .inr (.inl ⟨i, rfl, hx⟩)
   ·
    rw [List.getElem?_append_right (by omega)] at hx
    have := (List.getElem?_eq_some_iff.1 hx).1
    rw [show i - (layL f.body 0 1 (1 + widL f.body)).length = 0 by simp at this; omega] at hx
    simp at hx
    exact .inr (.inr hx.symm)
 rcases hget h y hy with ⟨_, rfl⟩ | ⟨j, rfl, hj⟩ | rfl
 · cases hk
 ·
  obtain ⟨E, p1, p2, p3, p4, p5⟩ := k2 j y hj hk
  refine ⟨E, by omega, by omega, by omega, fun i x hx to ht hl hu => ?_⟩
  rcases hget i x hx with ⟨rfl, rfl⟩ | ⟨q, rfl, hq⟩ | rfl
  · dsimp only at ht; omega
  ·
   rcases p5 q x hq to ht (by omega) hu with h | h
   · exact .inl (by omega)
   · exact .inr ⟨by omega, h.2.1, by omega⟩
  · dsimp only at ht; omega
 · cases hk
theorem pass_to (f : Fl) (hs : List Int) (x : Nd) (s : St) (σ : Sg) (rd : Int → Int) : (passN f hs x s σ rd).1 = x.next ∨ (passN f hs x s σ rd).1 = x.other := by
 unfold passN
 split
 · exact .inl rfl
 split
 · exact .inl rfl
 split
 · exact .inl rfl
 split
 · exact .inr rfl
 ·
  dsimp only; split
  · exact .inl rfl
  · exact .inr rfl
structure OnWalk (f : Fl) (r : Ins) (K i : Nat) (n : Nat) (x : Nd) : Prop where
 at_ : (mcAt f r i).at_ = (n : Int)
 nd : (cfgN f)[n]? = some x
 go : i < K → mcAt f r (i + 1) = ⟨(passN f (hatsOf f r) x (stAt f x.at_) (mcAt f r i).σ (mcAt f r i).rd).1, (passN f (hatsOf f r) x (stAt f x.at_) (mcAt f r i).σ (mcAt f r i).rd).2.1, (passN f (hatsOf f r) x (stAt f x.at_) (mcAt f r i).σ (mcAt f r i).rd).2.2⟩ ∧ (x.kind = 0 ∨ x.kind = 2 ∨ x.kind = 3 ∨ x.kind = 4 ∨ x.kind = 5)
 fin : i = K → n + 1 = (cfgN f).length ∧ x.kind = 1
theorem onWalk {f : Fl} {r : Ins} (vd : Valid f) {K : Nat} (hg : GoesAll f r K) {i : Nat} (hi : i ≤ K) : ∃ n x, OnWalk f r K i n x := by
 have hlen := cfgN_len f vd.plain
 rcases Nat.lt_or_ge i K with h | h
 ·
  have h3 : 0 ≤ (mcAt f r i).at_ ∧ (mcAt f r i).at_ < ((cfgN f).length : Int) - 1 := by
   obtain ⟨_, _, h2⟩ := hg
   exact h2 i h
  obtain ⟨h4, h5⟩ := vd.node h3.1 h3.2
  refine ⟨(mcAt f r i).at_.toNat, _, by omega, h4, fun _ => ⟨?_, h5.kind⟩, fun h' => by omega⟩
  rw [show mcAt f r (i + 1) = stepM f (hatsOf f r) (cfgN f) (mcAt f r i) from iterM_succ _ _ _ _ _]
  rfl
 ·
  obtain rfl : i = K := by omega
  obtain ⟨_, h1, _⟩ := hg
  have h1' : mcAt f r i = _ := h1
  refine ⟨(cfgN f).length - 1, ⟨1, -1, -1, -1⟩, by rw [h1']; dsimp only; omega, ?_, fun h' => by omega, fun _ => ⟨by omega, rfl⟩⟩
  obtain ⟨x, hx⟩ : ∃ x, (cfgN f)[(cfgN f).length - 1]? = some x := ⟨_, List.getElem?_eq_getElem (by omega)⟩
  rw [hx, (ends_of vd hx).1 (by omega)]
structure RoInv (f : Fl) (r : Ins) (i : Nat) (ro : List Int) : Prop where
 len : ro.length = (cfgN f).length
 bd : ∀ (k : Nat) v, ro[k]? = some v → 0 ≤ v ∧ v ≤ i
 inn : ∀ (h : Nat) y E, (cfgN f)[h]? = some y → y.kind = 5 → LoopOf f h y E → (h : Int) ≤ (mcAt f r i).at_ → (mcAt f r i).at_ < (E : Int) → ro[h]? = some ((mcAt f r i).rd y.at_) ∧ (mcAt f r i).rd y.at_ ≤ (stAt f y.at_).n
theorem RoInv.start (f : Fl) (r : Ins) : RoInv f r 0 (List.replicate (cfgN f).length 0) :=
 ⟨by simp, fun k v h => by rw [List.getElem?_replicate] at h; split at h <;> cases h; omega, fun h y E hy hk hl h1 h2 => by
  have h0 : (mcAt f r 0).at_ = 0 := rfl
  rw [h0] at h1
  obtain rfl : h = 0 := by omega
  have : (cfgN f)[0]? = some (⟨0, -1, 1, -1⟩ : Nd) := rfl
  rw [hy] at this
  cases this
  cases hk⟩
theorem RoInv.keep {f : Fl} {r : Ins} {i K n : Nat} {x : Nd} {ro : List Int} (h : RoInv f r i ro) (hw : OnWalk f r K i n x) (hi : i < K) (k4 : x.kind ≠ 4) (k5 : x.kind ≠ 5) : RoInv f r (i + 1) ro := by
 obtain ⟨h1, h2⟩ := hw.go hi
 have hrd : (mcAt f r (i + 1)).rd = (mcAt f r i).rd := by
  rw [h1]
  dsimp only
  unfold passN
  rcases h2 with h2 | h2 | h2 | h2 | h2
  · rw [if_pos h2]
  · rw [if_neg (by omega), if_pos h2]
  · rw [if_neg (by omega), if_neg (by omega), if_neg (by omega), if_neg (fun h => k5 h.1), if_neg k5]
  · exact absurd h2 k4
  · exact absurd h2 k5
 have hto := pass_to f (hatsOf f r) x (stAt f x.at_) (mcAt f r i).σ (mcAt f r i).rd
 refine ⟨h.len, fun k v hv => by have := h.bd k v hv; omega, fun q y E hy hk hl h1' h2' => ?_⟩
 rw [hrd]
 have ha : (mcAt f r (i + 1)).at_ = (passN f (hatsOf f r) x (stAt f x.at_) (mcAt f r i).σ (mcAt f r i).rd).1 := by rw [h1]
 rw [ha] at h1' h2'
 rcases hl.only n x hw.nd _ hto h1' h2' with h3 | h3
 · exact h.inn q y E hy hk hl (by rw [hw.at_]; omega) (by rw [hw.at_]; omega)
 · exact absurd h3.2.1 k4
theorem RoInv.enter {f : Fl} {r : Ins} (vd : Valid f) {i K n : Nat} {x : Nd} {ro : List Int} (h : RoInv f r i ro) (hw : OnWalk f r K i n x) (hi : i < K) (k4 : x.kind = 4) : (mcAt f r (i + 1)).at_ = x.next ∧ 0 ≤ x.next ∧ x.next < (cfgN f).length ∧ RoInv f r (i + 1) (ro.set x.next.toNat 0) := by
 obtain ⟨h1, _⟩ := hw.go hi
 have hp : passN f (hatsOf f r) x (stAt f x.at_) (mcAt f r i).σ (mcAt f r i).rd = (x.next, (mcAt f r i).σ, updR (mcAt f r i).rd x.at_ 0) := by unfold passN; rw [if_neg (by omega), if_neg (by omega), if_pos k4]
 rw [hp] at h1
 obtain ⟨h0, y2, hy2, ky2, at2⟩ := (vd.part hw.nd).2.1 k4
 have hlt := (List.getElem?_eq_some_iff.1 hy2).1
 have hlen := h.len
 refine ⟨by rw [h1], h0, by omega, by rw [List.length_set, hlen], fun k v hv => ?_, fun q y E hy hk hl h1' h2' => ?_⟩
 ·
  rw [List.getElem?_set] at hv
  split at hv
  ·
   split at hv
   · cases hv; omega
   · cases hv
  · have := h.bd k v hv; omega
 ·
  rw [h1] at h1' h2' ⊢
  dsimp only at h1' h2' ⊢
  by_cases hq : q = x.next.toNat
  ·
   subst hq
   rw [hy2] at hy
   cases hy
   have hs := vd.step (stAt f y2.at_)
   have h3 := (vd.part hy2).2.2 ky2
   rw [List.getElem?_set_self (by omega)]
   unfold updR
   rw [if_pos at2]
   refine ⟨rfl, ?_⟩
   have h5 := vd.node (k := ((x.next.toNat : Nat) : Int)) (by omega) (by
    have := (ends_of vd hy2).1
    rcases Nat.lt_or_ge (x.next.toNat + 1) (cfgN f).length with h | h
    · omega
    ·
     have := this (by omega); rw [this] at ky2; cases ky2)
   rw [Int.toNat_natCast, hy2] at h5
   have h6 := Option.some.inj h5.1
   obtain ⟨h7, h8, _⟩ := h5.2.step (by rw [← h6]; omega)
   rw [← h6] at h8
   exact ((hs (List.mem_of_getElem? h8)).2.2 h3).1
  ·
   have hne : y.at_ ≠ x.at_ := fun e => hq (vd.heads hy hy2 hk ky2 (by rw [e, at2]))
   rw [List.getElem?_set_ne (fun e => hq e.symm)]
   unfold updR
   rw [if_neg hne]
   rcases hl.only n x hw.nd _ (.inl rfl) h1' h2' with h3 | h3
   · exact h.inn q y E hy hk hl (by rw [hw.at_]; omega) (by rw [hw.at_]; omega)
   · omega
theorem RoInv.head {f : Fl} {r : Ins} (vd : Valid f) {i K n : Nat} {x : Nd} {ro : List Int} (h : RoInv f r i ro) (hw : OnWalk f r K i n x) (k5 : x.kind = 5) : ∃ v : Int, ro[n]? = some v ∧ 0 ≤ v ∧ v ≤ i ∧ v ≤ (stAt f x.at_).n ∧ (i < K → RoInv f r (i + 1) (ro.set n (v + 1))) := by
 obtain ⟨E0, hE0⟩ := vd.loop hw.nd k5
 have hE0' := hE0.lt
 obtain ⟨h1, h2⟩ := h.inn n x E0 hw.nd k5 hE0 (by rw [hw.at_]; omega) (by rw [hw.at_]; omega)
 have hbd := h.bd n _ h1
 have hlt := (List.getElem?_eq_some_iff.1 h1).1
 refine ⟨_, h1, hbd.1, hbd.2, h2, fun hi => ⟨by rw [List.length_set, h.len], fun k v hv => ?_, fun q y E hy hk hl h1' h2' => ?_⟩⟩
 ·
  by_cases e : n = k
  ·
   subst e
   rw [List.getElem?_set_self (by omega)] at hv
   cases hv; omega
  ·
   rw [List.getElem?_set_ne e] at hv
   have := h.bd k v hv; omega
 ·
  obtain ⟨g1, _⟩ := hw.go hi
  have hto := pass_to f (hatsOf f r) x (stAt f x.at_) (mcAt f r i).σ (mcAt f r i).rd
  have ha : (mcAt f r (i + 1)).at_ = (passN f (hatsOf f r) x (stAt f x.at_) (mcAt f r i).σ (mcAt f r i).rd).1 := by rw [g1]
  have hr : (mcAt f r (i + 1)).rd = (passN f (hatsOf f r) x (stAt f x.at_) (mcAt f r i).σ (mcAt f r i).rd).2.2 := by rw [g1]
  rw [ha] at h1' h2'
  rw [hr]
  have hpo : (mcAt f r i).rd x.at_ = (stAt f x.at_).n → passN f (hatsOf f r) x (stAt f x.at_) (mcAt f r i).σ (mcAt f r i).rd = (x.other, (mcAt f r i).σ, (mcAt f r i).rd) := fun e => by
   unfold passN; rw [if_neg (by omega), if_neg (by omega), if_neg (by omega), if_pos ⟨k5, e⟩]
  have hpn : (mcAt f r i).rd x.at_ ≠ (stAt f x.at_).n → (passN f (hatsOf f r) x (stAt f x.at_) (mcAt f r i).σ (mcAt f r i).rd).2.2 = updR (mcAt f r i).rd x.at_ ((mcAt f r i).rd x.at_ + 1) := fun e => by
   unfold passN; rw [if_neg (by omega), if_neg (by omega), if_neg (by omega), if_neg (fun h => e h.2)]
   dsimp only
   rw [if_pos k5]
  by_cases hq : q = n
  ·
   subst hq
   rw [hw.nd] at hy
   cases hy
   by_cases e : (mcAt f r i).rd x.at_ = (stAt f x.at_).n
   ·
    rw [hpo e] at h1' h2'
    have := hl.out
    dsimp only at h1' h2'
    omega
   ·
    rw [hpn e, List.getElem?_set_self (by omega)]
    unfold updR
    rw [if_pos rfl]
    exact ⟨rfl, by omega⟩
  ·
   have hne : y.at_ ≠ x.at_ := fun e => hq (vd.heads hy hw.nd hk k5 e)
   have hrd : (passN f (hatsOf f r) x (stAt f x.at_) (mcAt f r i).σ (mcAt f r i).rd).2.2 y.at_ = (mcAt f r i).rd y.at_ := by
    by_cases e : (mcAt f r i).rd x.at_ = (stAt f x.at_).n
    · rw [hpo e]
    · rw [hpn e]; unfold updR; rw [if_neg hne]
   rw [hrd, List.getElem?_set_ne (fun e => hq e.symm)]
   rcases hl.only n x hw.nd _ hto h1' h2' with h3 | h3
   · exact h.inn q y E hy hk hl (by rw [hw.at_]; omega) (by rw [hw.at_]; omega)
   · omega
theorem Valid.away {f : Fl} (V : Valid f) {i : Nat} {x : Nd} (hx : (cfgN f)[i]? = some x) : (∀ to, to = x.next ∨ to = x.other → to = -1 ∨ 1 ≤ to) ∧ (x.kind = 0 → i = 0) := by
 obtain ⟨k1, _⟩ := lay_loops f.body V.plain 0 1 (1 + widL f.body) (.inr (Nat.le_refl _))
 unfold cfgN at hx
 cases i with
 | zero => simp at hx; subst hx; exact ⟨fun to h => by dsimp only at h; omega, fun _ => rfl⟩
 | succ i =>
  rw [List.getElem?_cons_succ] at hx
  rcases List.mem_append.1 (List.mem_of_getElem? hx) with hm | hm
  ·
   refine ⟨fun to h => by have := k1 x hm to h; omega, fun h => ?_⟩
   have := lay_kinds _ _ _ _ x hm
   omega
  ·
   rw [List.mem_singleton] at hm
   subst hm
   exact ⟨fun to h => by dsimp only at h; omega, fun h => by (cases h)⟩
theorem defN_var {f : Fl} (V : Valid f) {i : Nat} {x : Nd} (hx : (cfgN f)[i]? = some x) (h : asgB f x = true) : x.kind = 2 ∧ 0 ≤ x.at_ ∧ x.at_ < (preL f.body).length ∧ 0 ≤ (stAt f x.at_).var ∧ (stAt f x.at_).var < f.vars.length ∧ defN f x = (stAt f x.at_).var := by
 have h0 := h
 unfold asgB at h
 simp only [Bool.and_eq_true, Bool.or_eq_true, decide_eq_true_eq] at h
 obtain ⟨k2, ha⟩ := h
 obtain ⟨a1, a2⟩ := (V.edge hx).2 k2
 obtain ⟨s, hs⟩ : ∃ s, (preL f.body)[x.at_.toNat]? = some s := ⟨_, List.getElem?_eq_getElem (by omega)⟩
 have e : stAt f x.at_ = s := by unfold stAt; rw [hs]; rfl
 have hv := (V.step s (List.mem_of_getElem? hs)).1.var (e ▸ ha)
 rw [← e] at hv
 exact ⟨k2, a1, a2, hv.1, hv.2, by unfold defN; rw [if_pos h0]⟩
def defL (f : Fl) (la : List Int) (x : Nd) : List Int := if 0 ≤ defN f x then la.set (defN f x).toNat x.at_ else la
structure LaInv (f : Fl) (r : Ins) (i : Nat) (la : List Int) : Prop where
 len : la.length = f.vars.length
 ok : ∀ (v : Nat) d, la[v]? = some d → (i = 0 → d = ((preL f.body).length : Int) + v) ∧ (0 < i → Rch f (cfgN f) (mcAt f r i).at_ d ∧ varD f d = v)
theorem LaInv.next {f : Fl} {r : Ins} (V : Valid f) {K i n : Nat} {x : Nd} {la : List Int} (hg : GoesAll f r K) (h : LaInv f r i la) (hw : OnWalk f r K i n x) (hi : i < K) : LaInv f r (i + 1) (defL f la x) := by
 obtain ⟨n', x', hw'⟩ := onWalk V hg (show i + 1 ≤ K by omega)
 have hto := pass_to f (hatsOf f r) x (stAt f x.at_) (mcAt f r i).σ (mcAt f r i).rd
 have ha : (mcAt f r (i + 1)).at_ = (passN f (hatsOf f r) x (stAt f x.at_) (mcAt f r i).σ (mcAt f r i).rd).1 := by rw [(hw.go hi).1]
 rw [← ha] at hto
 have h0 : 0 ≤ (mcAt f r (i + 1)).at_ := by rw [hw'.at_]; omega
 have hstep : ∀ d, GenD f x d ∨ (Rch f (cfgN f) (n : Int) d ∧ ThruD f x d) → Rch f (cfgN f) (mcAt f r (i + 1)).at_ d := fun d hd => Rch.step hw.nd hto h0 hd
 have hlen := h.len
 by_cases i0 : i = 0
 ·
  subst i0
  have hn : n = 0 := by
   have h1 : (mcAt f r 0).at_ = 0 := rfl
   have := hw.at_
   omega
  subst hn
  have hx0 : x = ⟨0, -1, 1, -1⟩ := by
   have : (cfgN f)[0]? = some (⟨0, -1, 1, -1⟩ : Nd) := rfl
   rw [hw.nd] at this
   exact Option.some.inj this
  subst hx0
  have hd : defL f la ⟨0, -1, 1, -1⟩ = la := by
   unfold defL
   rw [if_neg]
   show ¬ 0 ≤ (if asgB f ⟨0, -1, 1, -1⟩ = true then _ else (-1 : Int))
   rw [if_neg (by simp [asgB])]
   decide
  rw [hd]
  refine ⟨hlen, fun v d hv => ⟨fun h => by omega, fun _ => ?_⟩⟩
  have h1 := (h.ok v d hv).1 rfl
  have hvl := (List.getElem?_eq_some_iff.1 hv).1
  subst h1
  exact ⟨hstep _ (.inl (.inl ⟨rfl, by omega, by omega⟩)), by unfold varD; rw [if_pos (by omega)]; omega⟩
 ·
  have hk0 : x.kind ≠ 0 := by
   intro hk
   have hn := (V.away hw.nd).2 hk
   obtain ⟨m, y, hy⟩ := onWalk V hg (show i - 1 ≤ K by omega)
   have hto' := pass_to f (hatsOf f r) y (stAt f y.at_) (mcAt f r (i - 1)).σ (mcAt f r (i - 1)).rd
   have ha' : (mcAt f r (i - 1 + 1)).at_ = (passN f (hatsOf f r) y (stAt f y.at_) (mcAt f r (i - 1)).σ (mcAt f r (i - 1)).rd).1 := by rw [(hy.go (by omega)).1]
   rw [← ha', show i - 1 + 1 = i by omega] at hto'
   have := (V.away hy.nd).1 _ hto'
   have := hw.at_
   omega
  by_cases hb : asgB f x = true
  ·
   obtain ⟨k2, a1, a2, v1, v2, hd⟩ := defN_var V hw.nd hb
   have hdl : defL f la x = la.set (stAt f x.at_).var.toNat x.at_ := by unfold defL; rw [hd, if_pos v1]
   rw [hdl]
   refine ⟨by rw [List.length_set, hlen], fun v d hv => ⟨fun h => by omega, fun _ => ?_⟩⟩
   by_cases hvv : (stAt f x.at_).var.toNat = v
   ·
    subst hvv
    rw [List.getElem?_set_self (by omega)] at hv
    cases hv
    exact ⟨hstep _ (.inl (.inr ⟨hk0, hb, rfl⟩)), by unfold varD; rw [if_neg (by omega)]; omega⟩
   ·
    rw [List.getElem?_set_ne hvv] at hv
    obtain ⟨h1, h2⟩ := (h.ok v d hv).2 (by omega)
    rw [hw.at_] at h1
    exact ⟨hstep _ (.inr ⟨h1, hk0, fun _ => by omega⟩), h2⟩
  ·
   have hdl : defL f la x = la := by
    unfold defL
    rw [if_neg]
    unfold defN
    rw [if_neg hb]
    decide
   rw [hdl]
   refine ⟨hlen, fun v d hv => ⟨fun h => by omega, fun _ => ?_⟩⟩
   obtain ⟨h1, h2⟩ := (h.ok v d hv).2 (by omega)
   rw [hw.at_] at h1
   exact ⟨hstep _ (.inr ⟨h1, hk0, fun h => absurd h hb⟩), h2⟩
def fillL (S n i : Nat) : List Int := (List.range n).map fun v => if v < i then (S : Int) + v else 0
theorem LaInv.start (f : Fl) (r : Ins) : LaInv f r 0 (fillL (preL f.body).length f.vars.length f.vars.length) := by
 refine ⟨by simp [fillL], fun v d hv => ⟨fun _ => ?_, fun h => by omega⟩⟩
 have hl := (List.getElem?_eq_some_iff.1 hv).1
 simp only [fillL, List.length_map, List.length_range] at hl
 unfold fillL at hv
 rw [List.getElem?_map, List.getElem?_range hl] at hv
 simp only [Option.map_some, Option.some.injEq] at hv
 rw [if_pos hl] at hv
 exact hv.symm
inductive Fld (f : Fl) (g : List Nd) (a : Nat) (v : Int) : Int → Prop
 | start {x : Nd} {to : Int} : g[a]? = some x → (to = x.next ∨ to = x.other) → 0 ≤ to → Fld f g a v to
 | step {i : Nat} {x : Nd} {to : Int} : Fld f g a v i → g[i]? = some x → defN f x ≠ v → (to = x.next ∨ to = x.other) → 0 ≤ to → Fld f g a v to
def SrcD (f : Fl) (g : List Nd) (a : Nat) (v d : Int) : Prop := (a = 0 ∧ 0 ≤ v ∧ v < f.vars.length ∧ d = (preL f.body).length + v) ∨ ∃ x, g[a]? = some x ∧ 0 ≤ defN f x ∧ v = defN f x ∧ d = x.at_
theorem asgB_of {f : Fl} {x : Nd} (h : 0 ≤ defN f x) : asgB f x = true := by
 by_cases hb : asgB f x = true
 · exact hb
 · exfalso; unfold defN at h; rw [if_neg hb] at h; exact absurd h (by decide)
theorem SrcD.varD {f : Fl} (V : Valid f) {a : Nat} {v d : Int} (h : SrcD f (cfgN f) a v d) : varD f d = v ∧ 0 ≤ v := by
 unfold Go.Proofs.YtldhllpogdikdaaGreat.varD
 rcases h with ⟨_, h1, _, h3⟩ | ⟨x, hx, h1, h2, h3⟩
 · rw [if_pos (by omega)]; omega
 ·
  obtain ⟨_, _, g2, _, _, g5⟩ := defN_var V hx (asgB_of h1)
  rw [if_neg (by omega)]
  subst h3
  omega
theorem SrcD.uniq {f : Fl} (V : Valid f) {a b : Nat} {v u d : Int} (h : SrcD f (cfgN f) a v d) (h' : SrcD f (cfgN f) b u d) : a = b ∧ v = u := by
 have h1 := (h.varD V).1
 have h2 := (h'.varD V).1
 refine ⟨?_, by omega⟩
 have key : ∀ {a : Nat} {v d : Int} {x : Nd}, (cfgN f)[a]? = some x → 0 ≤ defN f x → d = x.at_ → x.kind = 2 ∧ 0 ≤ d ∧ d < (preL f.body).length := by
  intro a v d x hx h1 h3
  have := defN_var V hx (asgB_of h1)
  omega
 rcases h with ⟨rfl, g1, g2, g3⟩ | ⟨x, hx, g1, g2, g3⟩
 ·
  rcases h' with ⟨rfl, k1, k2, k3⟩ | ⟨y, hy, k1, k2, k3⟩
  · rfl
  · have := key (v := v) hy k1 k3; omega
 ·
  have p1 := key (v := v) hx g1 g3
  rcases h' with ⟨rfl, k1, k2, k3⟩ | ⟨y, hy, k1, k2, k3⟩
  · omega
  ·
   have p2 := key (v := v) hy k1 k3
   exact V.same hx hy (by omega) (by omega)
structure FldI (f : Fl) (g : List Nd) (a : Nat) (v : Int) (seen : List Bool) (op : List Int) : Prop where
 len : seen.length = g.length
 ok : ∀ (i : Nat), seen[i]? = some true → Fld f g a v i
 opn : ∀ q ∈ op, ∃ i : Nat, q = (i : Int) ∧ i < g.length ∧ (i = a ∨ seen[i]? = some true ∧ ∀ x, g[i]? = some x → defN f x ≠ v)
 cl : ∀ (i : Nat) x, g[i]? = some x → (i = a ∨ seen[i]? = some true ∧ defN f x ≠ v) → (i : Int) ∈ op ∨ ∀ to, to = x.next ∨ to = x.other → 0 ≤ to → seen[to.toNat]? = some true
theorem FldI.start (f : Fl) (g : List Nd) (a : Nat) (v : Int) (ha : a < g.length) : FldI f g a v (List.replicate g.length false) [(a : Int)] := by
 refine ⟨by simp, fun i h => ?_, fun q hq => ?_, fun i x hx h => ?_⟩
 ·
  rw [List.getElem?_replicate] at h
  split at h <;> cases h
 ·
  rw [List.mem_singleton] at hq
  exact ⟨a, hq, ha, .inl rfl⟩
 ·
  rcases h with rfl | ⟨h, _⟩
  · exact .inl (by simp)
  ·
   rw [List.getElem?_replicate] at h
   split at h <;> cases h
theorem FldI.done {f : Fl} {g : List Nd} {a : Nat} {v : Int} {seen : List Bool} (h : FldI f g a v seen []) (_ : ∀ (i : Nat) x, g[i]? = some x → ∀ to, to = x.next ∨ to = x.other → -1 ≤ to ∧ to < g.length) (i : Nat) : seen[i]? = some true ↔ Fld f g a v i := by
 refine ⟨h.ok i, fun hf => ?_⟩
 have key : ∀ {z : Int}, Fld f g a v z → seen[z.toNat]? = some true := by
  intro z hz
  induction hz with
  | @start x to hx ht h0 => exact ((h.cl a x hx (.inl rfl)).resolve_left (by simp)) to ht h0
  | @step i x to hf hx hne ht h0 ih =>
   rw [Int.toNat_natCast] at ih
   exact ((h.cl i x hx (.inr ⟨ih, hne⟩)).resolve_left (by simp)) to ht h0
 simpa using key hf
structure FldE (f : Fl) (g : List Nd) (a : Nat) (v : Int) (n : Nat) (x : Nd) (k : Nat) (seen : List Bool) (op : List Int) : Prop where
 len : seen.length = g.length
 ok : ∀ (i : Nat), seen[i]? = some true → Fld f g a v i
 opn : ∀ q ∈ op, ∃ i : Nat, q = (i : Int) ∧ i < g.length ∧ (i = a ∨ seen[i]? = some true ∧ ∀ x, g[i]? = some x → defN f x ≠ v)
 cl : ∀ (i : Nat) y, g[i]? = some y → (i = a ∨ seen[i]? = some true ∧ defN f y ≠ v) → i = n ∨ (i : Int) ∈ op ∨ ∀ to, to = y.next ∨ to = y.other → 0 ≤ to → seen[to.toNat]? = some true
 nd : g[n]? = some x
 at_ : n = a ∨ Fld f g a v n ∧ defN f x ≠ v
 part : ∀ to, (0 < k ∧ to = x.next ∨ 1 < k ∧ to = x.other) → 0 ≤ to → seen[to.toNat]? = some true
def edk (x : Nd) (k : Nat) : Int := if k = 0 then x.next else x.other
section
variable {f : Fl} {g : List Nd} {a n : Nat} {v : Int} {x : Nd} {k : Nat} {seen : List Bool} {op : List Int}
theorem FldE.skip (h : FldE f g a v n x k seen op) (hk : k < 2) (hs : edk x k < 0 ∨ seen[(edk x k).toNat]? = some true) : FldE f g a v n x (k + 1) seen op :=
 ⟨h.len, h.ok, h.opn, h.cl, h.nd, h.at_, fun to ht h0 => by
  unfold edk at hs
  by_cases hk0 : k = 0
  ·
   subst hk0
   rw [if_pos rfl] at hs
   rcases ht with ht | ht
   ·
    obtain ⟨_, rfl⟩ := ht
    exact hs.resolve_left (by omega)
   · omega
  ·
   rw [if_neg hk0] at hs
   rcases ht with ht | ht
   · exact h.part to (.inl ⟨by omega, ht.2⟩) h0
   ·
    obtain ⟨_, rfl⟩ := ht
    exact hs.resolve_left (by omega)⟩
theorem FldE.add {i : Nat} {y : Nd} (h : FldE f g a v n x k seen op) (hk : k < 2) (he : edk x k = (i : Int)) (hy : g[i]? = some y) : FldE f g a v n x (k + 1) (seen.set i true) (if defN f y ≠ v then op ++ [(i : Int)] else op) := by
 have hi : i < seen.length := by rw [h.len]; exact (List.getElem?_eq_some_iff.1 hy).1
 have hmono : ∀ {j : Nat}, seen[j]? = some true → (seen.set i true)[j]? = some true := by
  intro j hj
  by_cases e : i = j
  · subst e; exact List.getElem?_set_self hi
  · rw [List.getElem?_set_ne e]; exact hj
 have hto : edk x k = x.next ∨ edk x k = x.other := by unfold edk; split <;> simp
 have hfl : Fld f g a v (i : Int) := by
  rcases h.at_ with rfl | ⟨h1, h2⟩
  · rw [he] at hto; exact .start h.nd hto (by omega)
  · rw [he] at hto; exact .step h1 h.nd h2 hto (by omega)
 have hmem : ∀ {q : Int}, q ∈ op → q ∈ (if defN f y ≠ v then op ++ [(i : Int)] else op) := by
  intro q hq
  split
  · exact List.mem_append_left _ hq
  · exact hq
 refine ⟨by rw [List.length_set, h.len], fun j hj => ?_, fun q hq => ?_, fun j z hz hj => ?_, h.nd, h.at_, fun to ht h0 => ?_⟩
 ·
  by_cases e : i = j
  · subst e; exact hfl
  · rw [List.getElem?_set_ne e] at hj; exact h.ok j hj
 ·
  have old : ∀ q ∈ op, ∃ j : Nat, q = (j : Int) ∧ j < g.length ∧ (j = a ∨ (seen.set i true)[j]? = some true ∧ ∀ x, g[j]? = some x → defN f x ≠ v) := fun q hq => by
   obtain ⟨j, h1, h2, h3⟩ := h.opn q hq
   exact ⟨j, h1, h2, h3.imp id fun h3 => ⟨hmono h3.1, h3.2⟩⟩
  split at hq
  ·
   rename_i hd
   rcases List.mem_append.1 hq with hq | hq
   · exact old q hq
   ·
    rw [List.mem_singleton] at hq
    exact ⟨i, hq, (List.getElem?_eq_some_iff.1 hy).1, .inr ⟨List.getElem?_set_self hi, fun z hz => by rw [hy] at hz; cases hz; exact hd⟩⟩
  · exact old q hq
 ·
  by_cases e : i = j
  ·
   subst e
   rw [hy] at hz
   cases hz
   rcases hj with hj | ⟨_, hj⟩
   ·
    rcases h.cl i y hy (.inl hj) with h1 | h1 | h1
    · exact .inl h1
    · exact .inr (.inl (hmem h1))
    · exact .inr (.inr fun to h2 h3 => hmono (h1 to h2 h3))
   · exact .inr (.inl (by rw [if_pos hj]; simp))
  ·
   rw [List.getElem?_set_ne e] at hj
   rcases h.cl j z hz hj with h1 | h1 | h1
   · exact .inl h1
   · exact .inr (.inl (hmem h1))
   · exact .inr (.inr fun to h2 h3 => hmono (h1 to h2 h3))
 ·
  unfold edk at he
  by_cases hk0 : k = 0
  ·
   subst hk0
   rw [if_pos rfl] at he
   rcases ht with ht | ht
   · rw [ht.2, he, Int.toNat_natCast]; exact List.getElem?_set_self hi
   · omega
  ·
   rw [if_neg hk0] at he
   rcases ht with ht | ht
   · exact hmono (h.part to (.inl ⟨by omega, ht.2⟩) h0)
   · rw [ht.2, he, Int.toNat_natCast]; exact List.getElem?_set_self hi
theorem FldE.to (_h : FldE f g a v n x k seen op) (_hk : k < 2) : edk x k = x.next ∨ edk x k = x.other := by unfold edk; split <;> simp
theorem FldE.fin (h : FldE f g a v n x 2 seen op) : FldI f g a v seen op := by
 refine ⟨h.len, h.ok, h.opn, fun i y hy hi => ?_⟩
 rcases h.cl i y hy hi with rfl | h1
 ·
  rw [h.nd] at hy
  cases hy
  exact .inr fun to ht h0 => h.part to (by omega) h0
 · exact h1
end
def rowsIn (rows0 : List (List Int)) (seen : List Bool) (d : Int) (rows : List (List Int)) : Prop := rows.length = rows0.length ∧ ∀ (i : Nat) r b, rows0[i]? = some r → seen[i]? = some b → rows[i]? = some (if b then r ++ [d] else r)
theorem rowsIn.start (rows0 : List (List Int)) (n : Nat) (d : Int) : rowsIn rows0 (List.replicate n false) d rows0 := ⟨rfl, fun i r b hr hb => by
 rw [List.getElem?_replicate] at hb
 split at hb <;> cases hb
 exact hr⟩
theorem rowsIn.set {rows0 rows : List (List Int)} {seen : List Bool} {d : Int} {i : Nat} {r : List Int} (h : rowsIn rows0 seen d rows) (hs : seen[i]? = some false) (hr : rows[i]? = some r) : rowsIn rows0 (seen.set i true) d (rows.set i (r ++ [d])) := by
 refine ⟨by rw [List.length_set, h.1], fun j r' b hr' hb => ?_⟩
 by_cases e : i = j
 ·
  subst e
  rw [List.getElem?_set_self (List.getElem?_eq_some_iff.1 hs).1] at hb
  cases hb
  have := h.2 i r' false hr' hs
  rw [hr] at this
  cases this
  rw [List.getElem?_set_self (List.getElem?_eq_some_iff.1 hr).1]
  rfl
 ·
  rw [List.getElem?_set_ne e] at hb ⊢
  exact h.2 j r' b hr' hb
def FldR (f : Fl) (g : List Nd) (a : Nat) (v d : Int) (rows0 rows : List (List Int)) : Prop := rows.length = rows0.length ∧ ∀ (i : Nat) r, rows0[i]? = some r → Fld f g a v i ∧ rows[i]? = some (r ++ [d]) ∨ ¬ Fld f g a v i ∧ rows[i]? = some r
theorem FldR.of {f : Fl} {g : List Nd} {a : Nat} {v d : Int} {rows0 rows : List (List Int)} {seen : List Bool} (h : rowsIn rows0 seen d rows) (hl : rows0.length = seen.length) (hs : ∀ (i : Nat), seen[i]? = some true ↔ Fld f g a v i) : FldR f g a v d rows0 rows := by
 refine ⟨h.1, fun i r hr => ?_⟩
 obtain ⟨b, hb⟩ : ∃ b, seen[i]? = some b := ⟨_, List.getElem?_eq_getElem (by rw [← hl]; exact (List.getElem?_eq_some_iff.1 hr).1)⟩
 have h1 := h.2 i r b hr hb
 cases b with
 | true => exact .inl ⟨(hs i).1 hb, h1⟩
 | false =>
  refine .inr ⟨fun hf => ?_, h1⟩
  have := (hs i).2 hf
  rw [hb] at this
  cases this
end Go.Proofs.YtldhllpogdikdaaGreat
namespace Go.GL
theorem RFl.keep {D S : Nat → Prop} {w w' : World} {f : Fl} {v1 v2 v3 : Value} (h : RFl D w f v1 v2 v3) (hk : Keep S w w') (hD : ∀ q, D q → q < w.heap.size → ¬ S q) : RFl D w' f v1 v2 v3 := ⟨h.vars.keep stable_vr hk hD, h.hatches.keep stable_ht hk hD, h.body.keep stable_st hk hD⟩
end Go.GL
namespace Go.Proofs.YtldhllpogdikdaaGreat
open Go.GL
theorem ed_cell {w : World} {b : Nat} {x : Nd} {e : TypeId} {k : Nat} (h : Blk w b [.int .i64 x.next, .int .i64 x.other] e) (hk : k < 2) : w.cell? ⟨b, 0 + (k : Int).toNat * 1, none⟩ = some (.int .i64 (edk x k)) := by
 have h0 := Blk.cells h 0 _ rfl
 have h1 := Blk.cells h 1 _ rfl
 rcases (show k = 0 ∨ k = 1 by omega) with rfl | rfl
 · exact h0
 · exact h1
def edOf (i : Int) (to : Int) : List (Int × Int) := if 0 ≤ to then [(i, to)] else []
def rawTo (g : List Nd) (k : Nat) : List (Int × Int) := (List.range k).flatMap fun i : Nat => edOf i (ndAt g i).next ++ edOf i (ndAt g i).other
theorem rawTo_succ {g : List Nd} {k : Nat} {x : Nd} (h : g[k]? = some x) : rawTo g (k + 1) = rawTo g k ++ (edOf k x.next ++ edOf k x.other) := by
 unfold rawTo
 rw [List.range_succ, List.flatMap_append, List.flatMap_singleton, ndAt_eq h]
theorem edOf_len (i to : Int) : (edOf i to).length ≤ 1 := by unfold edOf; split <;> simp
theorem rawTo_len (g : List Nd) : ∀ k, (rawTo g k).length ≤ 2 * k
 | 0 => by simp [rawTo]
 | k + 1 => by
  have := rawTo_len g k
  have h1 := edOf_len k (ndAt g k).next
  have h2 := edOf_len k (ndAt g k).other
  unfold rawTo at this ⊢
  rw [List.range_succ, List.flatMap_append, List.flatMap_singleton, List.length_append, List.length_append]
  omega
def inL (g : List Nd) (i : Nat) (x : Nd) (q : Nat) : List (Int × Int) := rawTo g i ++ (List.range q).flatMap fun j => edOf i (edk x j)
theorem inL_len (g : List Nd) (i : Nat) (x : Nd) (q : Nat) : (inL g i x q).length ≤ 2 * i + q := by
 have := rawTo_len g i
 have key : ∀ q, ((List.range q).flatMap fun j => edOf i (edk x j)).length ≤ q := by
  intro q
  induction q with
  | zero => simp
  | succ q ih =>
   have h1 := edOf_len i (edk x q)
   rw [List.range_succ, List.flatMap_append, List.flatMap_singleton, List.length_append]
   omega
 have := key q
 unfold inL
 rw [List.length_append]; omega
theorem inL_zero (g : List Nd) (i : Nat) (x : Nd) : inL g i x 0 = rawTo g i := by simp [inL]
theorem inL_succ (g : List Nd) (i : Nat) (x : Nd) (q : Nat) : inL g i x (q + 1) = inL g i x q ++ edOf i (edk x q) := by
 unfold inL
 rw [List.range_succ, List.flatMap_append, List.flatMap_singleton, List.append_assoc]
theorem inL_end {g : List Nd} {i : Nat} {x : Nd} (h : g[i]? = some x) : inL g i x 2 = rawTo g (i + 1) := by
 rw [rawTo_succ h]
 unfold inL
 simp [List.range_succ, edk]
theorem cfgGraph_ok (g : List Nd) (gv : Value) (D : Nat → Prop) (W : World) (hg : SlR 4 RNd D W gv g) :
  Calls Tryz.prog 46 #[.agg #[gv]] W (Ret fun r w' => (∃ m a s c e, r = .tuple #[.agg #[.int .i64 m, .slice a (List.length s) c], .int .i64 e] ∧ (¬ Formed g → e = 1 ∧ m = 0 ∧ s = []) ∧ (Formed g → e = Gr.check g.length (rawTo g g.length) ∧ (e ≠ 0 → m = 0 ∧ s = []) ∧ (e = 0 → m = g.length ∧ Simple (rawTo g g.length) s)) ∧ SlR 2 RPair (fun b => W.heap.size ≤ b) w' (.slice a s.length c) s) ∧ Ext W w') := by
 obtain ⟨ag, cg, rfl⟩ := hg.form
 have hmx := hg.max
 refine G.in1 Tryz.func46 rfl Tryz.ntmps46 rfl (V.inn ?_)
 refine Vs 2 rfl ?_
 refine V.box 1 rfl rfl (fun b1 => ?_)
 refine V.alloc 2 Tryz.zeroValue91 rfl rfl (fun b2 => ?_)
 refine Vs 7 rfl ?_
 refine V.call2 Tryz.call89 rfl (fun w hI => cfgFormed_ok g _ D w (Tr1 hI.k0 hg)) ?_
 rintro rr w1 w2 hI1 hk12 ⟨b, rfl, hb⟩ hlow
 refine V.ops1 rfl (fun w hI => R.notU rfl (by first | exact not_decide_eq | rfl)) ?_
 refine Vs 2 rfl ?_
 refine V.bool rfl (fun q => ?_) (fun q => ?_)
 ·
  have hnf : ¬ Formed g := fun h => by rw [hb.2 h] at q; cases q
  refine Vs 2 rfl ?_
  refine V.bld [Value.int IntKind.i64 0, Value.slice none 0 0] [(0, 1), (1, 1)] [] rfl rfl (fun _ => by kernel_rfl) ?_
  refine Vs 6 rfl ?_
  refine V.retCT Tryz.results46 Tryz.isAgg91 Tryz.sizeOf91 rfl rfl rfl rfl (fun w hI => ⟨_, rfl, ⟨0, none, [], 0, 1, rfl, fun _ => ⟨rfl, rfl, rfl⟩, fun h => absurd h hnf, SlR.nil⟩, hI.k1⟩)
 ·
  have hF : Formed g := hb.1 (by simpa using q)
  have hlo := hF.lo
  have hhi := hF.hi
  refine Vs 7 rfl ?_
  refine V.bld [Value.int IntKind.i64 0, Value.slice none 0 0] [(0, 1), (1, 1)] [(0, _)] rfl rfl (fun _ => by kernel_rfl) ?_
  refine V.alloc 4 Tryz.zeroValue91 rfl rfl (fun b4 => ?_)
  refine Vs 5 rfl ?_
  refine V.nilrow 900 97 2 rfl ?_
  refine Vs 8 rfl ?_
  refine V.loopK (σ := Nat × Value) [2, 4, 18, 19] [2] [2, 4] rfl (fun e ⟨i, rv⟩ => (20, .int .i64 i) :: e) (fun e ⟨i, rv⟩ => (4, .own b4 [.int .i64 g.length, rv] 91) :: (900, .row 97 2 rv (rawTo g i).length ((rawTo g i).flatMap encP)) :: e) (fun ⟨i, rv⟩ => i ≤ g.length) (fun ⟨i, rv⟩ => g.length - i) ((0, _)) (Sub.of rfl) (Has.of rfl) (fun _ => rfl) (fun _ => rfl) (fun _ => rfl) (Nat.zero_le _) ?_
  rintro ⟨i, rv⟩ hi
  show V _ _ _ _ _ ((20, .int .i64 i) :: _) _ ((4, .own b4 [.int .i64 g.length, rv] 91) :: (900, .row 97 2 rv (rawTo g i).length ((rawTo g i).flatMap encP)) :: _) _
  refine Vs 6 rfl ?_
  refine V.ite rfl (fun hlt => ?_) (fun hlt => ?_)
  ·
   refine Vs 7 rfl ?_
   obtain ⟨x, he_x⟩ : ∃ z_, g[i]? = some z_ := ⟨_, List.getElem?_eq_getElem (by omega)⟩
   have hm_x := List.mem_of_getElem? he_x
   obtain ⟨b_x, o_x, c_x, ha_x, _, hc_x, hR_x⟩ := hg.at he_x
   obtain rfl := hR_x
   refine V.fr 1000 1 rfl rfl hc_x ?_
   refine V.ix 1000 Tryz.runUnderlying29 Tryz.sizeOf40 rfl ha_x (by omega) (_) (rfl) rfl ?_
   have hr := inL_end he_x
   refine V.heq 900 rfl (e' := .row 97 2 rv (inL g i x 0).length ((inL g i x 0).flatMap encP)) (by rw [inL_zero]) ?_
   refine Vs 1 rfl ?_
   refine V.alloc 6 Tryz.zeroValue40 rfl rfl (fun b6 => ?_)
   refine Vs 10 rfl ?_
   refine V.bs 29 [(0, _), (1, _)] Tryz.runUnderlying50 Tryz.sizeOf3 Tryz.zeroValue3 (by decide) rfl rfl (by kernel_rfl) (fun b29 => ?_)
   refine Vs 5 rfl ?_
   refine V.loopK (σ := Nat × Value) [2, 4, 5, 18, 19, 20, 29, 30] [2, 29] [2, 4] rfl (fun e ⟨q, rv⟩ => (31, .int .i64 q) :: e) (fun e ⟨q, rv⟩ => (4, .own b4 [.int .i64 g.length, rv] 91) :: (900, .row 97 2 rv (inL g i x q).length ((inL g i x q).flatMap encP)) :: e) (fun ⟨q, rv⟩ => q ≤ 2) (fun ⟨q, rv⟩ => 2 - q) ((0, rv)) (Sub.of rfl) (Has.of rfl) (fun _ => rfl) (fun _ => rfl) (fun _ => rfl) (by omega) ?_
   rintro ⟨q, rv⟩ hq
   show V _ _ _ _ _ ((31, .int .i64 q) :: _) _ ((4, .own b4 [.int .i64 g.length, rv] 91) :: (900, .row 97 2 rv (inL g i x q).length ((inL g i x q).flatMap encP)) :: _) _
   have hil := inL_len g i x q
   have hsu := inL_succ g i x q
   refine Vs 6 rfl ?_
   refine V.ite rfl (fun hq2 => ?_) (fun hq2 => ?_)
   ·
    refine Vs 6 rfl ?_
    refine V.ops1 rfl (fun w hI => R.indexS Tryz.runUnderlying50 Tryz.sizeOf3 rfl rfl rfl (by omega)) ?_
    refine V.ops1 rfl (fun w hI => R.load Tryz.isAgg3 rfl (ed_cell (hI.at 29 rfl) (by omega))) ?_
    refine Vs 9 rfl ?_
    refine V.ite rfl (fun hz => ?_) (fun hz => ?_)
    ·
     rw [show edOf i (edk x q) = [((i : Int), edk x q)] from if_pos hz] at hsu
     refine Vs 5 rfl ?_
     refine V.bld [Value.int IntKind.i64 0, Value.int IntKind.i64 0] [(0, 1), (1, 1)] [(0, _), (1, _)] rfl rfl (fun _ => by kernel_rfl) ?_
     refine V.bs 42 [(0, _)] Tryz.runUnderlying89 Tryz.sizeOf97 Tryz.zeroValue97 (by decide) rfl rfl (by kernel_rfl) (fun b42 => ?_)
     refine V.ap 900 42 Tryz.underlying89 Tryz.el97 rfl (by decide) rfl rfl (by omega) (by omega) (fun u900 => ?_)
     refine Vs 1 rfl ?_
     refine V.opened 900 rfl (by omega) ?_
     rintro b9 c9 rfl hcap_900
     refine Va 8 rfl (by omega) ?_
     refine V.heq 900 rfl (e' := .row 97 2 (.slice (some ⟨b9, 0, none⟩) ((inL g i x q).length + 1) c9) (inL g i x (q + 1)).length ((inL g i x (q + 1)).flatMap encP)) (by rw [hsu, List.length_append, List.flatMap_append]; rfl) ?_
     refine V.back (⟨q + 1, _⟩) (Sub.of rfl) (Has.of rfl) (by omega) (by first | omega | (dsimp only; omega)) 0 rfl rfl
    ·
     rw [show edOf i (edk x q) = [] from if_neg hz, List.append_nil] at hsu
     refine V.heq 900 rfl (e' := .row 97 2 rv (inL g i x (q + 1)).length ((inL g i x (q + 1)).flatMap encP)) (by rw [hsu]) ?_
     refine Va 7 rfl (by omega) ?_
     refine V.back (⟨q + 1, rv⟩) (Sub.of rfl) (Has.of rfl) (by omega) (by first | omega | (dsimp only; omega)) 0 rfl rfl
   ·
    obtain rfl : q = 2 := by omega
    refine V.heq 900 rfl (e' := .row 97 2 rv (rawTo g (i + 1)).length ((rawTo g (i + 1)).flatMap encP)) (by rw [hr]) ?_
    refine Va 10 rfl (by omega) ?_
    refine V.back (⟨i + 1, rv⟩) (Sub.of rfl) (Has.of rfl) (by omega) (by first | omega | (dsimp only; omega)) 0 rfl rfl
  ·
   obtain rfl : i = g.length := by omega
   refine Vs 8 rfl ?_
   refine V.call2 Tryz.call90 rfl (fun w hI => digSimple_ok g.length (rawTo g g.length) rv (fun _ => True) w (SlR.ofRowK (by omega) encP encP_len (fun x _ => rfl) (hI.at 900 rfl) (fun _ _ => trivial))) ?_
   rintro rr w3 w4 hI3 hk34 ⟨m, a, s, c, rfl, h1, h2, hs⟩ hlow2
   have hsz : W.heap.size ≤ w3.heap.size := hI3.k1.size
   refine Vs 7 rfl ?_
   refine V.dat 901 0 rfl rfl rfl (hs) (fun b hb _ hs => by have := hlow2 b hs; omega) ?_
   refine V.retCT Tryz.results46 Tryz.isAgg91 Tryz.sizeOf91 rfl rfl rfl rfl (fun w hI => ⟨_, rfl, ⟨m, a, s, c, _, rfl, fun h => absurd hF h, fun _ => ⟨rfl, fun he => ⟨(h1 he).1, (h1 he).2.2.2⟩, h2⟩, (hI.at 901 rfl).1.wide stable_pair (fun b hb => by omega)⟩, hI.k2⟩)
theorem mem_take1 {α : Type} {l : List α} {k : Nat} {x y : α} (hx : l[k]? = some x) : y ∈ l.take (k + 1) ↔ y ∈ l.take k ∨ y = x := by
 rw [List.take_add_one, hx]
 simp
theorem index2_ok (l : List (Int × Int)) (x : Int × Int) (v : Value) (D : Nat → Prop) (W : World) (hv : SlR 2 RPair D W v l) : Calls Tryz.prog 148 #[v, .agg #[.int .i64 x.1, .int .i64 x.2]] W (Ret fun r w' => (∃ i : Int, r = .int .i64 i ∧ (0 ≤ i ↔ x ∈ l)) ∧ Ext W w') := by
 obtain ⟨a, c, rfl⟩ := hv.form
 have hmx := hv.max
 refine G.in2 Tryz.func148 rfl Tryz.ntmps148 rfl (V.inn ?_)
 refine Vs 2 rfl ?_
 refine V.box 3 rfl rfl (fun b3 => ?_)
 refine Vs 12 rfl ?_
 refine V.loopK (σ := Nat) [0, 3, 7] [3] [3] rfl (fun e k => (8, .int .i64 k) :: e) (fun e k => e) (fun k => k ≤ l.length ∧ x ∉ l.take k) (fun k => l.length - k) (0) (Sub.of rfl) (Has.of rfl) (fun _ => rfl) (fun _ => rfl) (fun _ => rfl) (⟨Nat.zero_le _, by simp⟩) ?_
 rintro k ⟨hk, hn⟩
 refine Vs 6 rfl ?_
 refine V.ite rfl (fun hlt => ?_) (fun hlt => ?_)
 ·
  refine Vs 11 rfl ?_
  obtain ⟨y, he_y⟩ : ∃ z_, l[k]? = some z_ := ⟨_, List.getElem?_eq_getElem (by omega)⟩
  have hm_y := List.mem_of_getElem? he_y
  obtain ⟨b_y, o_y, c_y, ha_y, _, hc_y, hR_y⟩ := hv.at he_y
  obtain rfl := hR_y
  refine V.fr 1000 0 rfl rfl hc_y ?_
  refine Vq (by kernel_rfl) ?_
  refine Vs 3 rfl ?_
  refine V.ixQ 1000 Tryz.runUnderlying89 Tryz.sizeOf97 rfl ha_y (by omega) (_) (rfl) rfl ?_
  refine Vs 1 rfl ?_
  refine V.ops1Q rfl (fun w hI => R.eqP (k := .i64) (a := x.1) (b := x.2) (c := y.1) (d := y.2) Tryz.underlying97 Tryz.underlying3 (by kernel_rfl) (by kernel_rfl) Tryz.isAgg3 (by kernel_rfl) rfl rfl) ?_
  refine Vs 2 rfl ?_
  refine V.ite rfl (fun he => ?_) (fun he => ?_)
  ·
   refine Vs 12 rfl ?_
   refine V.ret1 Tryz.results148 rfl (fun w hI => ⟨_, rfl, ⟨_, rfl, by simp; have he' : x = y := he; rw [he']; exact List.mem_of_getElem? he_y⟩, hI.k0⟩)
  ·
   refine Va 7 rfl (by omega) ?_
   refine V.back (k + 1) (Sub.of rfl) (Has.of rfl) (⟨by omega, fun h => ((mem_take1 he_y).1 h).elim hn he⟩) (by first | omega | (dsimp only; omega)) 0 rfl rfl
 ·
  obtain rfl : k = l.length := by omega
  rw [List.take_length] at hn
  refine Vs 11 rfl ?_
  refine V.ret1 Tryz.results148 rfl (fun w hI => ⟨_, rfl, ⟨_, rfl, by simp [hn]⟩, hI.k0⟩)
theorem contains2_ok (l : List (Int × Int)) (x : Int × Int) (v : Value) (D : Nat → Prop) (W : World) (hv : SlR 2 RPair D W v l) : Calls Tryz.prog 97 #[v, .agg #[.int .i64 x.1, .int .i64 x.2]] W (Ret fun r w' => r = .bool (decide (x ∈ l)) ∧ Ext W w') := by
 refine G.in2 Tryz.func97 rfl Tryz.ntmps97 rfl (V.inn ?_)
 refine Vs 2 rfl ?_
 refine V.box 3 rfl rfl (fun b3 => ?_)
 refine Vs 7 rfl ?_
 refine V.call2 Tryz.call148 rfl (fun w hI => index2_ok l x v D w (Tr1 hI.k0 hv)) ?_
 rintro rr w1 w2 hI1 hk12 ⟨i, rfl, hi⟩ hlow
 refine Vs 5 rfl ?_
 refine V.ret1 Tryz.results97 rfl (fun w hI => ⟨_, rfl, by congr 1; rw [decide_eq_decide]; exact hi, hI.k1⟩)
theorem equal2_ok (xs ys : List (Int × Int)) (u v : Value) (D D' : Nat → Prop) (W : World) (hx : SlR 2 RPair D W u xs) (hy : SlR 2 RPair D' W v ys) : Calls Tryz.prog 53 #[u, v] W (Ret fun r w' => r = .bool (decide (xs = ys)) ∧ Ext W w') := by
 obtain ⟨ax, cx, rfl⟩ := hx.form
 obtain ⟨ay, cy, rfl⟩ := hy.form
 have hmx := hx.max
 have hmy := hy.max
 refine G.in2 Tryz.func53 rfl Tryz.ntmps53 rfl (V.inn ?_)
 refine Vs 15 rfl ?_
 refine V.ite rfl (fun h => ?_) (fun h => ?_)
 ·
  refine Vs 7 rfl ?_
  refine V.ret1 Tryz.results53 rfl (fun w hI => ⟨_, rfl, by rw [decide_eq_false (fun e => by rw [e] at h; exact h rfl)], hI.k0⟩)
 ·
  have hl : xs.length = ys.length := by omega
  refine Vs 11 rfl ?_
  refine V.loopK (σ := Nat) [0, 1, 12] [] [] rfl (fun e i => (13, .int .i64 i) :: e) (fun e i => e) (fun i => i ≤ xs.length ∧ ∀ j, j < i → xs[j]? = ys[j]?) (fun i => xs.length - i) (0) (Sub.of rfl) (Has.of rfl) (fun _ => rfl) (fun _ => rfl) (fun _ => rfl) (⟨Nat.zero_le _, fun j h => absurd h (Nat.not_lt_zero _)⟩) ?_
  rintro i ⟨hi, he⟩
  refine Vs 6 rfl ?_
  refine V.ite rfl (fun hlt => ?_) (fun hlt => ?_)
  ·
   refine Vs 11 rfl ?_
   obtain ⟨x, he_x⟩ : ∃ z_, xs[i]? = some z_ := ⟨_, List.getElem?_eq_getElem (by omega)⟩
   have hm_x := List.mem_of_getElem? he_x
   obtain ⟨b_x, o_x, c_x, ha_x, _, hc_x, hR_x⟩ := hx.at he_x
   obtain rfl := hR_x
   refine V.fr 1000 0 rfl rfl hc_x ?_
   obtain ⟨y, he_y⟩ : ∃ z_, ys[i]? = some z_ := ⟨_, List.getElem?_eq_getElem (by omega)⟩
   have hm_y := List.mem_of_getElem? he_y
   obtain ⟨b_y, o_y, c_y, ha_y, _, hc_y, hR_y⟩ := hy.at he_y
   obtain rfl := hR_y
   refine V.fr 2000 0 rfl rfl hc_y ?_
   refine Vq (by kernel_rfl) ?_
   refine Vs 2 rfl ?_
   refine V.ixQ 1000 Tryz.runUnderlying89 Tryz.sizeOf97 rfl ha_x (by omega) (_) (rfl) rfl ?_
   refine Vs 3 rfl ?_
   refine V.ixQ 2000 Tryz.runUnderlying89 Tryz.sizeOf97 rfl ha_y (by omega) (_) (rfl) rfl ?_
   refine Vs 1 rfl ?_
   refine V.ops1Q rfl (fun w hI => R.neP (k := .i64) (a := x.1) (b := x.2) (c := y.1) (d := y.2) Tryz.underlying97 Tryz.underlying3 (by kernel_rfl) (by kernel_rfl) Tryz.isAgg3 (by kernel_rfl) rfl rfl) ?_
   refine Vs 2 rfl ?_
   refine V.ite rfl (fun n0 => ?_) (fun n0 => ?_)
   ·
    refine Vs 11 rfl ?_
    refine V.ret1 Tryz.results53 rfl (fun w hI => ⟨_, rfl, by rw [decide_eq_false (fun e => n0 (by rw [e, he_y] at he_x; exact (Option.some.inj he_x).symm))], hI.k0⟩)
   ·
    refine Va 7 rfl (by omega) ?_
    refine V.back (i + 1) (Sub.of rfl) (Has.of rfl) (⟨by omega, fun j hj => by by_cases e : j = i; (· rw [e, he_x, he_y, (show x = y from Decidable.not_not.1 n0)]); (· exact he j (by omega))⟩) (by first | omega | (dsimp only; omega)) 0 rfl rfl
  ·
   refine Vs 11 rfl ?_
   refine V.ret1 Tryz.results53 rfl (fun w hI => ⟨_, rfl, by rw [decide_eq_true (List.ext_getElem? fun j => by by_cases hj : j < xs.length; (· exact he j (by omega)); (· rw [List.getElem?_eq_none (by omega), List.getElem?_eq_none (by omega)]))], hI.k0⟩)
def mmk (x : Nd) (k : Nat) : Int := if k = 0 then min x.next x.other else max x.next x.other
theorem mm_cell {w : World} {b : Nat} {x : Nd} {e : TypeId} {k : Nat} (h : Blk w b [.int .i64 (min x.next x.other), .int .i64 (max x.next x.other)] e) (hk : k < 2) : w.cell? ⟨b, 0 + (k : Int).toNat * 1, none⟩ = some (.int .i64 (mmk x k)) := by
 have h0 := Blk.cells h 0 _ rfl
 have h1 := Blk.cells h 1 _ rfl
 rcases (show k = 0 ∨ k = 1 by omega) with rfl | rfl
 · exact h0
 · exact h1
theorem rawTo_mem {g : List Nd} {i : Nat} {e : Int × Int} (h : e ∈ rawTo g i) : e.1 < i ∧ 0 ≤ e.2 := by
 unfold rawTo at h
 obtain ⟨j, hj, he⟩ := List.mem_flatMap.1 h
 rw [List.mem_range] at hj
 unfold edOf at he
 rcases List.mem_append.1 he with he | he <;> (split at he <;> simp at he; subst he; dsimp only; omega)
structure EdI (g : List Nd) (i : Nat) (x : Nd) (q : Nat) (s : List (Int × Int)) : Prop where
 ord : s.Pairwise lexLt
 mem : ∀ e, e ∈ s ↔ e ∈ rawTo g i ∨ ∃ j, j < q ∧ 0 ≤ mmk x j ∧ e = ((i : Int), mmk x j)
 len : s.length ≤ 2 * i + q
theorem EdI.add {g : List Nd} {i : Nat} {x : Nd} {q : Nat} {s : List (Int × Int)} (h : EdI g i x q s) (hq : q < 2) (h0 : 0 ≤ mmk x q) (hn : ((i : Int), mmk x q) ∉ s) : EdI g i x (q + 1) (s ++ [((i : Int), mmk x q)]) := by
 refine ⟨List.pairwise_append.2 ⟨h.ord, by simp, fun e he z hz => ?_⟩, fun e => ?_, by rw [List.length_append]; have := h.len; simp; omega⟩
 ·
  rw [List.mem_singleton] at hz
  subst hz
  rcases (h.mem e).1 he with h1 | ⟨j, hj, _, rfl⟩
  ·
   have := (rawTo_mem h1).1
   exact .inl (by dsimp only; omega)
  ·
   obtain rfl : j = 0 := by omega
   obtain rfl : q = 1 := by omega
   refine .inr ⟨rfl, ?_⟩
   have hne : mmk x 0 ≠ mmk x 1 := fun e => hn (e ▸ he)
   have : mmk x 0 ≤ mmk x 1 := by unfold mmk; simp; omega
   dsimp only; omega
 ·
  rw [List.mem_append, List.mem_singleton, h.mem e]
  constructor
  ·
   rintro ((h1 | ⟨j, h1, h2⟩) | h1)
   · exact .inl h1
   · exact .inr ⟨j, by omega, h2⟩
   · exact .inr ⟨q, by omega, h0, h1⟩
  ·
   rintro (h1 | ⟨j, h1, h2, h3⟩)
   · exact .inl (.inl h1)
   ·
    by_cases e : j = q
    · subst e; exact .inr h3
    · exact .inl (.inr ⟨j, by omega, h2, h3⟩)
theorem EdI.skip {g : List Nd} {i : Nat} {x : Nd} {q : Nat} {s : List (Int × Int)} (h : EdI g i x q s) (hs : mmk x q < 0 ∨ ((i : Int), mmk x q) ∈ s) : EdI g i x (q + 1) s := by
 refine ⟨h.ord, fun e => ?_, by have := h.len; omega⟩
 rw [h.mem e]
 constructor
 ·
  rintro (h1 | ⟨j, h1, h2⟩)
  · exact .inl h1
  · exact .inr ⟨j, by omega, h2⟩
 ·
  rintro (h1 | ⟨j, h1, h2, h3⟩)
  · exact .inl h1
  ·
   by_cases e : j = q
   ·
    subst e
    rcases hs with hs | hs
    · omega
    · rw [h3]; exact (h.mem _).1 hs
   · exact .inr ⟨j, by omega, h2, h3⟩
theorem EdI.next {g : List Nd} {i : Nat} {x y : Nd} {s : List (Int × Int)} (hx : g[i]? = some x) (h : EdI g i x 2 s) : EdI g (i + 1) y 0 s := by
 refine ⟨h.ord, fun e => ?_, by have := h.len; omega⟩
 rw [h.mem e, rawTo_succ hx, List.mem_append, List.mem_append]
 have key : (∃ j, j < 2 ∧ 0 ≤ mmk x j ∧ e = ((i : Int), mmk x j)) ↔ e ∈ edOf i x.next ∨ e ∈ edOf i x.other := by
  unfold edOf
  constructor
  ·
   rintro ⟨j, hj, h0, rfl⟩
   have : mmk x j = x.next ∨ mmk x j = x.other := by unfold mmk; split <;> omega
   rcases this with e | e
   · rw [e] at h0 ⊢; exact .inl (by rw [if_pos h0]; simp)
   · rw [e] at h0 ⊢; exact .inr (by rw [if_pos h0]; simp)
  ·
   have hm : ∀ to, to = x.next ∨ to = x.other → 0 ≤ to → e = ((i : Int), to) → ∃ j, j < 2 ∧ 0 ≤ mmk x j ∧ e = ((i : Int), mmk x j) := by
    intro to ht h0 he
    by_cases h1 : to = mmk x 0
    · exact ⟨0, by omega, h1 ▸ h0, h1 ▸ he⟩
    ·
     have h2 : to = mmk x 1 := by unfold mmk at h1 ⊢; simp at h1 ⊢; omega
     exact ⟨1, by omega, h2 ▸ h0, h2 ▸ he⟩
   rintro (h1 | h1)
   ·
    split at h1
    · rename_i h0; simp at h1; exact hm _ (.inl rfl) h0 h1
    · cases h1
   ·
    split at h1
    · rename_i h0; simp at h1; exact hm _ (.inr rfl) h0 h1
    · cases h1
 rw [key]
 constructor
 · intro h1; exact .inl h1
 ·
  rintro (h1 | ⟨j, h1, _⟩)
  · exact h1
  · omega
theorem edges_ok (g : List Nd) (gv : Value) (D : Nat → Prop) (W : World) (hg : SlR 4 RNd D W gv g) (hl : g.length ≤ 5000) :
  Calls Tryz.prog 54 #[.agg #[gv]] W (Ret fun r w' => (∃ s, Simple (rawTo g g.length) s ∧ SlR 2 RPair (fun b => W.heap.size ≤ b) w' r s) ∧ Ext W w') := by
 obtain ⟨ag, cg, rfl⟩ := hg.form
 have hmx := hg.max
 refine G.in1 Tryz.func54 rfl Tryz.ntmps54 rfl (V.inn ?_)
 refine Vs 2 rfl ?_
 refine V.box 1 rfl rfl (fun b1 => ?_)
 refine Vs 10 rfl ?_
 refine V.nilrow 900 97 2 rfl ?_
 refine Vs 8 rfl ?_
 refine V.loopK (σ := Nat × Value × List (Int × Int)) [9, 10] [] [] rfl (fun e ⟨i, rv, s⟩ => (11, .int .i64 i) :: (3, rv) :: e) (fun e ⟨i, rv, s⟩ => (900, .row 97 2 rv s.length (s.flatMap encP)) :: e) (fun ⟨i, rv, s⟩ => i ≤ g.length ∧ ∀ y, EdI g i y 0 s) (fun ⟨i, rv, s⟩ => g.length - i) ((0, _, [])) (Sub.of rfl) (Has.of rfl) (fun _ => rfl) (fun _ => rfl) (fun _ => rfl) (⟨Nat.zero_le _, fun y => ⟨List.Pairwise.nil, fun e => by simp [rawTo], by simp⟩⟩) ?_
 rintro ⟨i, rv, s⟩ ⟨hi, hE⟩
 show V _ _ _ _ _ ((11, .int .i64 i) :: (3, rv) :: _) _ ((900, .row 97 2 rv s.length (s.flatMap encP)) :: _) _
 refine Vs 6 rfl ?_
 refine V.ite rfl (fun hlt => ?_) (fun hlt => ?_)
 ·
  refine Vs 7 rfl ?_
  obtain ⟨x, he_x⟩ : ∃ z_, g[i]? = some z_ := ⟨_, List.getElem?_eq_getElem (by omega)⟩
  have hm_x := List.mem_of_getElem? he_x
  obtain ⟨b_x, o_x, c_x, ha_x, _, hc_x, hR_x⟩ := hg.at he_x
  obtain rfl := hR_x
  refine V.fr 1000 0 rfl rfl hc_x ?_
  refine V.ix 1000 Tryz.runUnderlying29 Tryz.sizeOf40 rfl ha_x (by omega) (_) (rfl) rfl ?_
  refine Vs 1 rfl ?_
  refine V.alloc 5 Tryz.zeroValue40 rfl rfl (fun b5 => ?_)
  refine Vs 16 rfl ?_
  refine V.bs 26 [(0, _), (1, _)] Tryz.runUnderlying50 Tryz.sizeOf3 Tryz.zeroValue3 (by decide) rfl rfl (by kernel_rfl) (fun b26 => ?_)
  refine Vs 5 rfl ?_
  refine V.loopK (σ := Nat × Value × List (Int × Int)) [4, 9, 10, 11, 26, 27] [26] [] rfl (fun e ⟨q, rv, s⟩ => (28, .int .i64 q) :: (3, rv) :: e) (fun e ⟨q, rv, s⟩ => (900, .row 97 2 rv s.length (s.flatMap encP)) :: e) (fun ⟨q, rv, s⟩ => q ≤ 2 ∧ EdI g i x q s) (fun ⟨q, rv, s⟩ => 2 - q) ((0, rv, s)) (Sub.of rfl) (Has.of rfl) (fun _ => rfl) (fun _ => rfl) (fun _ => rfl) (⟨by omega, hE x⟩) ?_
  rintro ⟨q, rv, s⟩ ⟨hq, hE2⟩
  show V _ _ _ _ _ ((28, .int .i64 q) :: (3, rv) :: _) _ ((900, .row 97 2 rv s.length (s.flatMap encP)) :: _) _
  have hsl := hE2.len
  refine Vs 6 rfl ?_
  refine V.ite rfl (fun hq2 => ?_) (fun hq2 => ?_)
  ·
   refine Vs 6 rfl ?_
   refine V.ops1 rfl (fun w hI => R.indexS Tryz.runUnderlying50 Tryz.sizeOf3 rfl rfl rfl (by omega)) ?_
   refine V.ops1 rfl (fun w hI => R.load Tryz.isAgg3 rfl (mm_cell (hI.at 26 rfl) (by omega))) ?_
   refine Vs 8 rfl ?_
   refine V.sp 34 rfl (fun hz => ?_) (fun hz => ?_)
   ·
    refine Vs 3 rfl ?_
    refine V.bld [Value.int IntKind.i64 0, Value.int IntKind.i64 0] [(0, 1), (1, 1)] [(0, _), (1, _)] rfl rfl (fun _ => by kernel_rfl) ?_
    refine V.call1 Tryz.call97 rfl (fun w hI => contains2_ok s ((i : Int), mmk x q) rv (fun _ => True) w (SlR.ofRowK (by omega) encP encP_len (fun x _ => rfl) (hI.at 900 rfl) (fun _ _ => trivial))) ?_
    refine V.ops1 rfl (fun w hI => R.notU rfl (by first | exact not_decide_eq | rfl)) ?_
    refine Vs 3 rfl ?_
    refine V.ite rfl (fun hm => ?_) (fun hm => ?_)
    ·
     refine Vs 4 rfl ?_
     refine V.bld [Value.int IntKind.i64 0, Value.int IntKind.i64 0] [(0, 1), (1, 1)] [(0, _), (1, _)] rfl rfl (fun _ => by kernel_rfl) ?_
     refine V.bs 46 [(0, _)] Tryz.runUnderlying89 Tryz.sizeOf97 Tryz.zeroValue97 (by decide) rfl rfl (by kernel_rfl) (fun b46 => ?_)
     refine V.ap 900 46 Tryz.underlying89 Tryz.el97 rfl (by decide) rfl rfl (by omega) (by omega) (fun u900 => ?_)
     refine Va 8 rfl (by omega) ?_
     refine V.heq 900 rfl (e' := .row 97 2 u900 (s ++ [((i : Int), mmk x q)]).length ((s ++ [((i : Int), mmk x q)]).flatMap encP)) (by rw [List.length_append, List.flatMap_append]; rfl) ?_
     refine V.back (⟨q + 1, u900, s ++ [((i : Int), mmk x q)]⟩) (Sub.of rfl) (Has.of rfl) (⟨by omega, hE2.add (by omega) hz (by simpa using hm)⟩) (by first | omega | (dsimp only; omega)) 0 rfl rfl
    ·
     refine Va 7 rfl (by omega) ?_
     refine V.back (⟨q + 1, rv, s⟩) (Sub.of rfl) (Has.of rfl) (⟨by omega, hE2.skip (.inr (by simpa using hm))⟩) (by first | omega | (dsimp only; omega)) 0 rfl rfl
   ·
    refine Va 17 rfl (by omega) ?_
    refine V.back (⟨q + 1, rv, s⟩) (Sub.of rfl) (Has.of rfl) (⟨by omega, hE2.skip (.inl (by omega))⟩) (by first | omega | (dsimp only; omega)) 0 rfl rfl
  ·
   obtain rfl : q = 2 := by omega
   refine Va 10 rfl (by omega) ?_
   refine V.back (⟨i + 1, rv, s⟩) (Sub.of rfl) (Has.of rfl) (⟨by omega, fun y => hE2.next he_x⟩) (by first | omega | (dsimp only; omega)) 0 rfl rfl
 ·
  obtain rfl : i = g.length := by omega
  have hE0 := hE ⟨0, 0, 0, 0⟩
  refine Vs 12 rfl ?_
  refine V.ret1 Tryz.results54 rfl (fun w hI => ⟨_, rfl, ⟨s, ⟨hE0.ord, fun e => by rw [hE0.mem e]; simp, nodup_len (hE0.ord.imp fun {a b} h (e : a = b) => by subst e; unfold lexLt at h; omega) fun e he => ((hE0.mem e).1 he).elim id fun ⟨_, h, _⟩ => by omega⟩, SlR.ofRowK (by omega) encP encP_len (fun x _ => rfl) (hI.at 900 rfl) (fun b hb => hI.own 900 0 rfl rfl b hb)⟩, hI.k0⟩)
theorem simple_uniq : ∀ {s t : List (Int × Int)}, s.Pairwise lexLt → t.Pairwise lexLt → (∀ e, e ∈ s ↔ e ∈ t) → s = t := by
 intro s
 induction s with
 | nil =>
  intro t _ _ h
  cases t with
  | nil => rfl
  | cons c r => exact absurd ((h c).2 (List.mem_cons_self ..)) (by simp)
 | cons c r ih =>
  intro t hs ht h
  cases t with
  | nil => exact absurd ((h c).1 (List.mem_cons_self ..)) (by simp)
  | cons c' r' =>
   rw [List.pairwise_cons] at hs ht
   have e1 := (h c).1 (List.mem_cons_self ..)
   have e2 := (h c').2 (List.mem_cons_self ..)
   have e : c = c' := by
    rcases List.mem_cons.1 e1 with e1 | e1
    · exact e1
    ·
     rcases List.mem_cons.1 e2 with e2 | e2
     · exact e2.symm
     · have h1 := hs.1 c' e2; have h2 := ht.1 c e1; unfold lexLt at h1 h2; omega
   subst e
   have hirr : ¬ lexLt c c := by unfold lexLt; omega
   congr 1
   refine ih hs.2 ht.2 fun e => ⟨fun he => ?_, fun he => ?_⟩
   ·
    rcases List.mem_cons.1 ((h e).1 (List.mem_cons_of_mem _ he)) with e1 | e1
    · exact absurd (e1 ▸ hs.1 e he) hirr
    · exact e1
   ·
    rcases List.mem_cons.1 ((h e).2 (List.mem_cons_of_mem _ he)) with e1 | e1
    · exact absurd (e1 ▸ ht.1 e he) hirr
    · exact e1
theorem Formed.edge {g : List Nd} (h : Formed g) {i : Nat} {x : Nd} (hx : g[i]? = some x) : ∀ to, to = x.next ∨ to = x.other → 0 ≤ to → to < g.length := by
 have h1 := h.ok i x hx
 have hi := (List.getElem?_eq_some_iff.1 hx).1
 have := h.lo
 intro to ht h0
 rcases ht with rfl | rfl
 ·
  by_cases e : (i : Int) = g.length - 1
  · have := h1.n0 e; omega
  · have := h1.n1 (by omega); omega
 ·
  by_cases e : x.kind = 3 ∨ x.kind = 5
  · have := h1.o1 e; omega
  · have := h1.o0 e; omega
theorem rawTo_ok {g : List Nd} (hg : ∀ (i : Nat) x, g[i]? = some x → ∀ to, to = x.next ∨ to = x.other → 0 ≤ to → to < g.length) {e : Int × Int} (h : e ∈ rawTo g g.length) : (0 ≤ e.1 ∧ e.1 < g.length) ∧ 0 ≤ e.2 ∧ e.2 < g.length := by
 unfold rawTo at h
 obtain ⟨j, hj, he⟩ := List.mem_flatMap.1 h
 rw [List.mem_range] at hj
 have hx : g[j]? = some g[j] := List.getElem?_eq_getElem hj
 have h1 := hg j _ hx
 rw [ndAt_eq hx] at he
 unfold edOf at he
 rcases List.mem_append.1 he with he | he <;> (split at he <;> simp at he; subst he; rename_i h0; dsimp only)
 · have := h1 _ (.inl rfl) h0; omega
 · have := h1 _ (.inr rfl) h0; omega
theorem raw_check {g : List Nd} (hl : g.length ≤ 2050) (hg : ∀ (i : Nat) x, g[i]? = some x → ∀ to, to = x.next ∨ to = x.other → 0 ≤ to → to < g.length) : Gr.check g.length (rawTo g g.length) = 0 := by
 have := rawTo_len g g.length
 unfold Gr.check
 rw [if_neg (by omega), if_neg (by omega), if_pos]
 rw [List.all_eq_true]
 intro e he
 have := rawTo_ok hg he
 unfold Gr.okE
 simp
 omega
theorem lawGraphs_ok (g : List Nd) (gv : Value) (Dg : Nat → Prop) (W : World) (hg : SlR 4 RNd Dg W gv g) :
  Calls Tryz.prog 12 #[.agg #[gv]] W (Ret fun r w' => r = .bool true ∧ Ext W w') := by
 obtain ⟨ag, cg, rfl⟩ := hg.form
 refine G.in1 Tryz.func12 rfl Tryz.ntmps12 rfl (V.inn ?_)
 refine Vs 2 rfl ?_
 refine V.box 1 rfl rfl (fun b1 => ?_)
 refine Vs 6 rfl ?_
 refine V.call1 Tryz.call14 rfl (fun w hI => known_ok w) ?_
 refine V.ops1 rfl (fun w hI => R.notU rfl (by first | exact not_decide_eq | rfl)) ?_
 refine Vs 2 rfl ?_
 refine V.bool rfl (fun k0 => ?_) (fun k0 => ?_)
 · cases k0
 ·
  refine Vs 11 rfl ?_
  refine V.ite rfl (fun hl => ?_) (fun hl => ?_)
  ·
   refine Vs 7 rfl ?_
   refine V.ret1 Tryz.results12 rfl (fun w hI => ⟨_, rfl, rfl, hI.k0⟩)
  ·
   refine Vs 5 rfl ?_
   refine V.call2 Tryz.call46 rfl (fun w hI => cfgGraph_ok g _ Dg w (Tr1 hI.k0 hg)) ?_
   rintro rr w1 w2 hI1 hk12 ⟨m, a, s, c, e, rfl, h1, h2, hs⟩ hlow
   refine Vs 3 rfl ?_
   refine V.alloc 3 Tryz.zeroValue91 rfl rfl (fun b3 => ?_)
   refine Vs 6 rfl ?_
   refine V.dat 900 0 rfl rfl rfl (hs) (fun b hb _ hs => by have := hlow b hs; omega) ?_
   refine Vs 2 rfl ?_
   refine V.call2 Tryz.call52 rfl (fun w hI => formed20_ok g _ Dg w (Tr1 hI.k1 hg)) ?_
   rintro rr w3 w4 hI3 hk34 ⟨b, rfl, hb⟩ hlow2
   refine V.ops1 rfl (fun w hI => R.notU rfl (by first | exact not_decide_eq | rfl)) ?_
   refine Vs 2 rfl ?_
   refine V.bool rfl (fun q => ?_) (fun q => ?_)
   ·
    have hnf : ¬ Formed g := fun h => by rw [hb.2 h] at q; cases q
    obtain ⟨rfl, rfl, rfl⟩ := h1 hnf
    refine Vs 5 rfl ?_
    refine V.sp 21 rfl (fun e1 => ?_) (fun e1 => ?_)
    ·
     refine Vs 5 rfl ?_
     refine V.sp 26 rfl (fun e2 => ?_) (fun e2 => ?_)
     ·
      refine Vs 10 rfl ?_
      refine V.ret1 Tryz.results12 rfl (fun w hI => ⟨_, rfl, rfl, hI.k2⟩)
     · exact absurd rfl e2
    · exact absurd rfl e1
   ·
    have hF : Formed g := hb.1 (by simpa using q)
    obtain ⟨he, h3, h4⟩ := h2 hF
    rw [raw_check (by omega) fun i x hx => hF.edge hx] at he
    subst he
    obtain ⟨rfl, hS⟩ := h4 rfl
    refine Vs 3 rfl ?_
    refine Vw [1, 3] [] rfl ?_
    refine Vd [0, 1, 2] 0 (by kernel_rfl) rfl rfl rfl ?_
    refine VD.sp 34 rfl (fun e1 => ?_) (fun e1 => ?_)
    ·
     refine Vd [3, 4, 5, 6, 7, 8, 9, 10] 0 (by kernel_rfl) rfl rfl rfl ?_
     refine VD.sp 42 rfl (fun e2 => ?_) (fun e2 => ?_)
     ·
      refine Vd [11, 12, 13] 0 (by kernel_rfl) rfl rfl rfl ?_
      refine VD.call2 14 0 Tryz.call54 rfl (by kernel_rfl) rfl rfl (fun w hI => edges_ok g _ Dg w (Tr1 hI.k2 hg) (by omega)) ?_
      rintro rr w5 w6 hI5 hk56 ⟨t, hT, ht⟩ hlow3
      obtain rfl := simple_uniq hS.1 hT.1 fun e => by rw [hS.2.1 e, hT.2.1 e]
      refine VD.call1 15 1 Tryz.call53 rfl (by kernel_rfl) rfl rfl (fun w hI => equal2_ok s s _ _ _ _ w (hI.at 900 rfl).1 (ht.keep Dt.s hI.k0 fun b hb _ hs => by have := hlow3 b hs; omega)) ?_
      refine Vd [16, 17] 1 (by kernel_rfl) rfl rfl rfl ?_
      refine VD.done (by kernel_rfl) ?_
      refine Vs 2 rfl ?_
      refine V.ret1 Tryz.results12 rfl (fun w hI => ⟨_, rfl, by simp, hI.k3⟩)
     · exact absurd rfl e2
    · exact absurd rfl e1
end Go.Proofs.YtldhllpogdikdaaGreat
