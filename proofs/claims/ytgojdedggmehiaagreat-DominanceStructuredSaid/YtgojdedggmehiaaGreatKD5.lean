/-
  Contracts and the mathematics that the proof needs. Nothing here is a claim.
-/
import Derived.Test.YtgojdedggmehiaaGreatKD4
namespace Go.Proofs.YtgojdedggmehiaaGreat
open Go.GL Go.GL.Dom Go.GL.Dfs
section
variable {m root : Nat} {es : List (Int × Int)} {Rw : List (List Int)} {order : List Nat} {pl T : List Int} {M : List (List Bool)}
theorem Known.edge (h : Known m root es Rw order pl T) (hall : es.all (Gr.okE m) = true) (a b : Nat) : Dfs.Edge Rw a b ↔ ((a : Int), (b : Int)) ∈ es := by
 constructor
 ·
  rintro ⟨r, h1, h2⟩
  exact (h.succ.mem a r h1 _).1 h2
 intro h1
 have h2 := List.all_eq_true.1 hall _ h1
 simp [Gr.okE] at h2
 obtain ⟨r, hr⟩ : ∃ r, Rw[a]? = some r := ⟨_, List.getElem?_eq_getElem (by rw [h.succ.len]; omega)⟩
 exact ⟨r, hr, (h.succ.mem a r hr _).2 h1⟩
theorem Known.re (h : Known m root es Rw order pl T) (hall : es.all (Gr.okE m) = true) (b : Nat) : RE es root (-1) b ↔ Dfs.Reach Rw root b := by
 constructor
 ·
  intro hb
  induction hb with
  | start _ => exact .refl
  | step _ he _ ih => exact .step ih ((h.edge hall _ _).2 he)
 intro hb
 induction hb with
 | refl => exact .start (by omega)
 | step _ he ih => exact .step ih ((h.edge hall _ _).1 he) (by omega)
theorem Known.av (h : Known m root es Rw order pl T) (hall : es.all (Gr.okE m) = true) (x b : Nat) : RE es root (x : Int) b ↔ ∃ k, AvN Rw root x k b := by
 constructor
 ·
  intro hb
  induction hb with
  | start h1 => exact ⟨0, .start (fun e => h1 (by rw [e]))⟩
  | step _ he hx ih =>
   obtain ⟨k, hk⟩ := ih
   exact ⟨k + 1, .step hk ((h.edge hall _ _).2 he) (fun e => hx (by rw [e]))⟩
 rintro ⟨k, hk⟩
 induction hk with
 | start h1 => exact .start (fun e => h1 (Int.ofNat.inj e))
 | step _ he hx ih => exact .step ih ((h.edge hall _ _).1 he) (fun e => hx (Int.ofNat.inj e))
theorem Known.dm (h : Known m root es Rw order pl T) (hall : es.all (Gr.okE m) = true) (hM : DomMat es root m M) {a b : Nat} (ha : a < m) : Go.Proofs.YtgojdedggmehiaaGreat.dm M a b ↔ Dfs.Reach Rw root b ∧ Dom Rw root a b := by
 obtain ⟨r, hr⟩ : ∃ r, M[a]? = some r := ⟨_, List.getElem?_eq_getElem (by rw [hM.len]; exact ha)⟩
 have h1 := (hM.row a r hr).2 b
 unfold Go.Proofs.YtgojdedggmehiaaGreat.dm Dom
 rw [← h.re hall b]
 constructor
 ·
  rintro ⟨r', h2, h3⟩
  rw [hr] at h2; cases h2
  have h4 := h1.1 h3
  exact ⟨h4.1, fun k hk => h4.2 ((h.av hall a b).2 ⟨k, hk⟩)⟩
 rintro ⟨h2, h3⟩
 refine ⟨r, hr, h1.2 ⟨h2, fun h4 => ?_⟩⟩
 obtain ⟨k, hk⟩ := (h.av hall a b).1 h4
 exact h3 k hk
theorem Known.lt (h : Known m root es Rw order pl T) {b : Nat} (hb : Dfs.Reach Rw root b) : b < m := by
 rw [← h.succ.len]
 exact hb.lt h.rows (by rw [h.succ.len]; exact h.hroot)
theorem Known.anti (h : Known m root es Rw order pl T) {x y : Nat} (h1 : Dom Rw root x y) (h2 : Dom Rw root y x) (hy : Dfs.Reach Rw root y) : x = y := by
 have hx := Dom.reach h1 hy
 by_cases e : x = y
 · exact e
 have h3 := h.sol.lt h.ord h.place hy h1 e
 have h4 := h.sol.lt h.ord h.place hx h2 (fun e' => e e'.symm)
 omega
theorem tree_unique (h : Known m root es Rw order pl T) (hall : es.all (Gr.okE m) = true) (hM : DomMat es root m M) {T' : List Int} (hT : RefTree M m T') : T = T' := by
 have hlen := h.sol.len
 apply List.ext_getElem?
 intro b
 by_cases hb : b < m
 ·
  by_cases hr : ¬ Dfs.Reach Rw root b ∨ b = root
  ·
   rw [h.sol.out b hb hr]
   rcases hT.at' b hb with ⟨a, h1, ⟨h2, h3, _⟩, _⟩ | ⟨_, h1⟩
   ·
    obtain ⟨h4, h5⟩ := (h.dm hall hM h1).1 h3
    rcases hr with hr | rfl
    · exact absurd h4 hr
    exact absurd (Dom.atRoot h5) h2
   exact h1.symm
  have hrb : Dfs.Reach Rw root b := Classical.byContradiction (fun h1 => hr (.inl h1))
  have hbr : b ≠ root := fun h1 => hr (.inr h1)
  obtain ⟨p, h1, h2, h3, h4, h5, h6⟩ := h.sol.idom b hrb hbr
  have hpm := h.lt h6
  have hnear : Near M m b p := by
   refine ⟨h2, (h.dm hall hM hpm).2 ⟨hrb, h3⟩, fun c hc hcb hd => ?_⟩
   exact (h.dm hall hM hc).2 ⟨h6, h4 c hcb ((h.dm hall hM hc).1 hd).2⟩
  rw [h1]
  rcases hT.at' b hb with ⟨a, h7, ⟨h8, h9, h10⟩, h11⟩ | ⟨h7, _⟩
  ·
   have h12 := ((h.dm hall hM h7).1 h9).2
   have h13 := (h.dm hall hM hpm).1 (h10 p hpm h2 ((h.dm hall hM hpm).2 ⟨hrb, h3⟩))
   have h14 := h4 a h8 h12
   rw [h11, h.anti h13.2 h14 h13.1]
  exact absurd hnear (h7 p hpm)
 rw [List.getElem?_eq_none (by omega), List.getElem?_eq_none (by rw [hT.len]; omega)]
theorem front_dm (h : Known m root es Rw order pl T) (hall : es.all (Gr.okE m) = true) (hM : DomMat es root m M) (x b : Nat) : Front Rw root x b ↔ x < m ∧ b < m ∧ (∃ a : Nat, ((a : Int), (b : Int)) ∈ es ∧ dm M x a) ∧ ¬ (x ≠ b ∧ dm M x b) := by
 constructor
 ·
  rintro ⟨a, h1, h2, h3, h4⟩
  have hx := h.lt (Dom.reach h3 h1)
  have hb := h.lt (.step h1 h2)
  exact ⟨hx, hb, ⟨a, (h.edge hall a b).1 h2, (h.dm hall hM hx).2 ⟨h1, h3⟩⟩, fun h5 => h4 ⟨h5.1, ((h.dm hall hM hx).1 h5.2).2⟩⟩
 rintro ⟨hx, hb, ⟨a, h1, h2⟩, h3⟩
 obtain ⟨h4, h5⟩ := (h.dm hall hM hx).1 h2
 have h6 := (h.edge hall a b).2 h1
 exact ⟨a, h4, h6, h5, fun h7 => h3 ⟨h7.1, (h.dm hall hM hx).2 ⟨.step h4 h6, h7.2⟩⟩⟩
end
def stepX (x : Int) (bs : List Bool) (e : Nat × Nat) : List Bool := if bs[e.1]? = some true ∧ (e.2 : Int) ≠ x then bs.set e.2 true else bs
def roundsX (es : List (Nat × Nat)) (x : Int) : Nat → List Bool → List Bool
 | 0, bs => bs
 | t + 1, bs => roundsX es x t (es.foldl (stepX x) bs)
def reachX (es : List (Nat × Nat)) (m root : Nat) (x : Int) : List Bool := roundsX es x m (if (root : Int) = x then List.replicate m false else (List.replicate m false).set root true)
def toI (es : List (Nat × Nat)) : List (Int × Int) := es.map fun e => ((e.1 : Int), (e.2 : Int))
theorem foldX {es : List (Nat × Nat)} {root m : Nat} {x : Int} {bs0 : List Bool} (hok : ∀ e ∈ es, e.2 < m) : ∀ (l : List (Nat × Nat)) (j : Nat) (bs : List Bool), es.drop j = l → Mk (toI es) root m x bs0 j bs → Mk (toI es) root m x bs0 (toI es).length (l.foldl (stepX x) bs)
 | [], j, bs, hl, h => by
  have hj : es.length ≤ j := List.drop_eq_nil_iff.1 hl
  refine ⟨h.len, h.sound, h.more, fun a b hab => h.took a b ?_⟩
  rw [List.take_of_length_le (by simpa [toI] using hj)]
  simpa using hab
 | e :: l, j, bs, hl, h => by
  have he : es[j]? = some e := by
   have := congrArg (fun l => l[0]?) hl
   simpa using this
  have hI : (toI es)[j]? = some ((e.1 : Int), (e.2 : Int)) := by simp [toI, he]
  have hl' : es.drop (j + 1) = l := by
   have := congrArg (List.drop 1) hl
   simpa using this
  simp only [List.foldl_cons]
  refine foldX hok l (j + 1) _ hl' ?_
  unfold stepX
  split
  ·
   rename_i h1
   exact h.mark hI h1.1 h1.2 (hok e (List.mem_of_getElem? he))
  rename_i h1
  exact h.same hI h1
theorem roundsX_mo {es : List (Nat × Nat)} {root m : Nat} {x : Int} (hok : ∀ e ∈ es, e.2 < m) : ∀ (k t : Nat) (bs : List Bool), Mo (toI es) root m x t bs → Mo (toI es) root m x (t + k) (roundsX es x k bs)
 | 0, t, bs, h => h
 | k + 1, t, bs, h => by
  have h1 := Mk.done h (foldX hok es 0 bs rfl (Mk.start h))
  have h2 := roundsX_mo hok k (t + 1) _ h1
  rw [show t + 1 + k = t + (k + 1) from by omega] at h2
  exact h2
theorem reachX_ok {es : List (Nat × Nat)} {root m : Nat} {x : Int} (hok : ∀ e ∈ es, e.2 < m) (hr : root < m) : (reachX es m root x).length = m ∧ ∀ b : Nat, (reachX es m root x)[b]? = some true ↔ RE (toI es) root x b := by
 have h0 : Mo (toI es) root m x 0 (if (root : Int) = x then List.replicate m false else (List.replicate m false).set root true) := by
  split
  · rename_i h; exact Mo.start0 h
  rename_i h; exact Mo.start hr h
 have h1 := roundsX_mo hok m 0 _ h0
 rw [Nat.zero_add] at h1
 exact ⟨h1.len, h1.done⟩
def domX (es : List (Nat × Nat)) (m root : Nat) : List (List Bool) := (List.range m).map fun (a : Nat) => List.zipWith (fun s t => s && !t) (reachX es m root (-1)) (reachX es m root (a : Int))
theorem domX_ok {es : List (Nat × Nat)} {root m : Nat} (hok : ∀ e ∈ es, e.2 < m) (hr : root < m) : DomMat (toI es) root m (domX es m root) := by
 obtain ⟨l0, r0⟩ := reachX_ok (x := -1) hok hr
 refine ⟨by simp [domX], fun a r h => ?_⟩
 have ha : a < m := by simpa [domX] using (List.getElem?_eq_some_iff.1 h).1
 obtain ⟨l1, r1⟩ := reachX_ok (x := (a : Int)) hok hr
 have hr' : r = List.zipWith (fun s t => s && !t) (reachX es m root (-1)) (reachX es m root (a : Int)) := by
  simp [domX, ha] at h
  exact h.symm
 subst hr'
 refine ⟨by simp [l0, l1], fun b => ?_⟩
 rw [← r0 b, ← r1 b]
 by_cases hb : b < m
 ·
  obtain ⟨s, hs⟩ : ∃ s, (reachX es m root (-1))[b]? = some s := ⟨_, List.getElem?_eq_getElem (by omega)⟩
  obtain ⟨t, ht⟩ : ∃ t, (reachX es m root (a : Int))[b]? = some t := ⟨_, List.getElem?_eq_getElem (by omega)⟩
  rw [List.getElem?_zipWith, hs, ht]
  simp
 rw [List.getElem?_eq_none (by simp; omega), List.getElem?_eq_none (by omega)]
 simp
open Go.GL Go.GL.Dom Go.GL.Dfs
theorem sorted_unique {α : Type} {lt : α → α → Prop} (hi : ∀ a, ¬ lt a a) (ha : ∀ a b, lt a b → ¬ lt b a) : ∀ (l l' : List α), l.Pairwise lt → l'.Pairwise lt → (∀ x, x ∈ l ↔ x ∈ l') → l = l'
 | [], [], _, _, _ => rfl
 | [], y :: l', _, _, h => absurd ((h y).2 (List.mem_cons_self ..)) (by simp)
 | x :: l, [], _, _, h => absurd ((h x).1 (List.mem_cons_self ..)) (by simp)
 | x :: l, y :: l', h1, h2, h => by
  obtain ⟨h3, h4⟩ := List.pairwise_cons.1 h1
  obtain ⟨h5, h6⟩ := List.pairwise_cons.1 h2
  have e : x = y := by
   rcases List.mem_cons.1 ((h x).1 (List.mem_cons_self ..)) with h7 | h7
   · exact h7
   rcases List.mem_cons.1 ((h y).2 (List.mem_cons_self ..)) with h8 | h8
   · exact h8.symm
   exact absurd (h5 x h7) (ha _ _ (h3 y h8))
  subst e
  rw [sorted_unique hi ha l l' h4 h6 (fun z => ?_)]
  constructor
  ·
   intro hz
   rcases List.mem_cons.1 ((h z).1 (List.mem_cons_of_mem _ hz)) with h7 | h7
   · subst h7; exact absurd (h3 z hz) (hi z)
   exact h7
  intro hz
  rcases List.mem_cons.1 ((h z).2 (List.mem_cons_of_mem _ hz)) with h7 | h7
  · subst h7; exact absurd (h5 z hz) (hi z)
  exact h7
theorem lexLt_irrefl (a : Int × Int) : ¬ lexLt a a := by unfold lexLt; omega
theorem lexLt_asymm (a b : Int × Int) : lexLt a b → ¬ lexLt b a := by unfold lexLt; omega
theorem RE.congr {es es' : List (Int × Int)} (h : ∀ e, e ∈ es → e ∈ es') {root : Nat} {x : Int} {b : Nat} (hb : RE es root x b) : RE es' root x b := by
 induction hb with
 | start h1 => exact .start h1
 | step _ he hx ih => exact .step ih (h _ he) hx
theorem DomMat.congr {es es' : List (Int × Int)} (h : ∀ e, e ∈ es ↔ e ∈ es') {root m : Nat} {M : List (List Bool)} (hM : DomMat es root m M) : DomMat es' root m M :=
 ⟨hM.len, fun a r hr => ⟨(hM.row a r hr).1, fun b => by
  rw [(hM.row a r hr).2 b]
  exact ⟨fun ⟨h1, h2⟩ => ⟨RE.congr (fun e he => (h e).1 he) h1, fun h3 => h2 (RE.congr (fun e he => (h e).2 he) h3)⟩, fun ⟨h1, h2⟩ => ⟨RE.congr (fun e he => (h e).2 he) h1, fun h3 => h2 (RE.congr (fun e he => (h e).1 he) h3)⟩⟩⟩⟩
def dmB (M : List (List Bool)) (a b : Nat) : Bool := (M[a]?.bind fun r => r[b]?) == some true
theorem dmB_iff (M : List (List Bool)) (a b : Nat) : dm M a b ↔ dmB M a b = true := by
 unfold dm dmB
 cases M[a]? with
 | none => simp
 | some r => simp
def exE : List (Nat × Nat) := [(0, 1), (1, 2), (1, 3), (2, 4), (3, 4)]
def exB : List (Nat × Nat) := [(1, 0), (2, 1), (3, 1), (4, 2), (4, 3)]
theorem ex_dom : domX exE 5 0 = [[true, true, true, true, true], [false, true, true, true, true], [false, false, true, false, false], [false, false, false, true, false], [false, false, false, false, true]] := by decide +kernel
theorem ex_back : domX exB 5 4 = [[true, false, false, false, false], [true, true, false, false, false], [false, false, true, false, false], [false, false, false, true, false], [true, true, true, true, true]] := by decide +kernel
theorem ex_tree : RefTree (domX exE 5 0) 5 [-1, 0, 1, 1, 1] := by
 refine ⟨rfl, ?_⟩
 simp only [Near, dmB_iff]
 rw [ex_dom]
 intro b hb
 have : b = 0 ∨ b = 1 ∨ b = 2 ∨ b = 3 ∨ b = 4 := by omega
 rcases this with rfl | rfl | rfl | rfl | rfl
 · exact .inr ⟨by decide +kernel, rfl⟩
 · exact .inl ⟨0, by decide, by decide +kernel, rfl⟩
 · exact .inl ⟨1, by decide, by decide +kernel, rfl⟩
 · exact .inl ⟨1, by decide, by decide +kernel, rfl⟩
 exact .inl ⟨1, by decide, by decide +kernel, rfl⟩
theorem ex_front : ∀ x, x < 5 → ∀ b, b < 5 → (((∃ e ∈ exB, e.2 = b ∧ dmB (domX exB 5 4) x e.1 = true) ∧ ¬ (x ≠ b ∧ dmB (domX exB 5 4) x b = true)) ↔ (b = 1 ∧ (x = 2 ∨ x = 3))) := by
 rw [ex_back]
 decide +kernel
theorem known21_ok (w : World) : Calls Tryz.prog 4 #[] w (Ret fun r w' => r = .bool true ∧ Ext w w') := by
 have hc0 : codeOf 5 (toI exE) 0 = 0 := by decide +kernel
 have hc4 : codeOf 5 (toI exE) 4 = 0 := by decide +kernel
 have hallE : (toI exE).all (Gr.okE (5 : Nat)) = true := by decide +kernel
 refine G.in0 Tryz.func4 rfl Tryz.ntmps4 (Gs 7 rfl (G.ops1 rfl rfl (R.build (v := .agg #[.int .i64 0, .int .i64 1]) [(0, _), (1, _)] rfl (fun _ => by kernel_rfl)) (G.ops1 rfl rfl (R.build (v := .agg #[.int .i64 1, .int .i64 2]) [(0, _), (1, _)] rfl (fun _ => by kernel_rfl)) (G.ops1 rfl rfl (R.build (v := .agg #[.int .i64 1, .int .i64 3]) [(0, _), (1, _)] rfl (fun _ => by kernel_rfl)) (G.ops1 rfl rfl (R.build (v := .agg #[.int .i64 2, .int .i64 4]) [(0, _), (1, _)] rfl (fun _ => by kernel_rfl)) (G.ops1 rfl rfl (R.build (v := .agg #[.int .i64 3, .int .i64 4]) [(0, _), (1, _)] rfl (fun _ => by kernel_rfl)) ?_))))))
 refine G.mem rfl rfl (M.buildSlice (cs := (toI exE).flatMap encP) [(0, _), (1, _), (2, _), (3, _), (4, _)] Tryz.runUnderlying35 Tryz.sizeOf43 Tryz.zeroValue43 (by decide) rfl (by kernel_rfl)) ?_
 rintro _ w1 ⟨b1, rfl, hb1, hs1, hB1, hk1⟩
 refine G.ops1 rfl rfl (R.build (v := .agg #[.int .i64 5, .slice (some ⟨b1, 0, none⟩) 5 5]) [(0, _), (1, _)] rfl (fun _ => by kernel_rfl)) (G.mem rfl rfl (M.alloc (cs := _) Tryz.zeroValue37 rfl) ?_)
 rintro _ w2 ⟨b2, rfl, hb2, hs2, hB2, hk2⟩
 refine G.mem0 rfl (M.storeK Tryz.sizeOf37 rfl rfl rfl rfl (by simp [Value.oneCell']) hB2 (by simp)) ?_
 rintro w3 ⟨hs3, hB3, hk3⟩
 have hE3 : Ext w1 w3 := hk2.trans hk3 (fun q hq h => by have h : q = b2 := h; omega)
 have hes1 : SlR 2 RPair (fun b => w.heap.size ≤ b) w1 (.slice (some ⟨b1, 0, none⟩) 5 5) (toI exE) := SlR.ofRowK (by decide) encP encP_len (fun _ _ => rfl) (own_blk (k := 2) (n := 5) (cap := 5) hB1 (Nat.le_refl _) (by decide) rfl) (fun g hg => by obtain rfl : b1 = g := Option.some.inj hg; omega)
 have hes3 := hes1.ext stable_pair hE3
 refine Gs 4 rfl (G.ldK rfl Tryz.isAgg37 Tryz.sizeOf37 hB3.cells rfl (G.call rfl Tryz.call13 (tree_ok 5 0 (toI exE) _ _ w3 hes3) ?_))
 rintro _ w4 ⟨u, rfl, _, hu1, hk4⟩
 obtain ⟨Rw, order, pl, T, hK, hT⟩ := hu1 hc0
 have hTe : T = [-1, 0, 1, 1, 1] := tree_unique (m := 5) (root := 0) hK hallE (domX_ok (es := exE) (by decide) (by decide)) ex_tree
 subst hTe
 have hB4 := hk4.blk hB3 (fun h => h)
 have hes4 := hes3.ext stable_pair hk4
 refine Gs 9 rfl (G.ldK rfl Tryz.isAgg37 Tryz.sizeOf37 hB4.cells rfl (G.call rfl Tryz.call11 (control_ok 5 4 (toI exE) _ _ w4 hes4 (by decide)) ?_))
 rintro _ w5 ⟨u2, rfl, _, hu2, hk5⟩
 obtain ⟨s, Rw', order', pl', T', S, hs, hK', hS, hSl⟩ := hu2 hc4
 have hsm : ∀ e, e ∈ toI exB ↔ e ∈ s := fun e => (hs.2.1 e).symm
 have halls : s.all (Gr.okE (5 : Nat)) = true := (Gr.check_zero (check_turned (n := 5) (es := toI exE) (by decide +kernel) hs)).2.2.2
 have hMs : DomMat s 4 5 (domX exB 5 4) := (domX_ok (es := exB) (by decide) (by decide)).congr hsm
 have hSe : S = [(1, 2), (1, 3)] := by
  refine sorted_unique lexLt_irrefl lexLt_asymm S _ hS.sorted (by simp [lexLt]) (fun e => ?_)
  rw [hS.mem]
  have hex : ∀ x b : Nat, x < 5 → b < 5 → ((∃ a : Nat, ((a : Int), (b : Int)) ∈ s ∧ dm (domX exB 5 4) x a) ↔ ∃ e ∈ exB, e.2 = b ∧ dmB (domX exB 5 4) x e.1 = true) := by
   intro x b _ _
   constructor
   ·
    rintro ⟨a, h1, h2⟩
    have h3 := (hsm _).2 h1
    obtain ⟨e, h4, h5⟩ := List.mem_map.1 h3
    have h6 := Int.ofNat.inj (congrArg Prod.fst h5)
    have h7 := Int.ofNat.inj (congrArg Prod.snd h5)
    exact ⟨e, h4, h7, by rw [h6]; exact (dmB_iff _ _ _).1 h2⟩
   rintro ⟨e, h1, rfl, h2⟩
   exact ⟨e.1, (hsm _).1 (List.mem_map.2 ⟨e, h1, rfl⟩), (dmB_iff _ _ _).2 h2⟩
  constructor
  ·
   rintro ⟨x, b, rfl, h1⟩
   obtain ⟨hx, hb, h2, h3⟩ := (front_dm (m := 5) (root := 4) hK' halls hMs x b).1 h1
   rw [hex x b hx hb] at h2
   rw [dmB_iff] at h3
   obtain ⟨rfl, h4⟩ := (ex_front x hx b hb).1 ⟨h2, h3⟩
   rcases h4 with rfl | rfl <;> simp
  intro h
  have : e = (((1 : Nat) : Int), ((2 : Nat) : Int)) ∨ e = (((1 : Nat) : Int), ((3 : Nat) : Int)) := by simpa using h
  rcases this with rfl | rfl
  ·
   refine ⟨2, 1, rfl, (front_dm (m := 5) (root := 4) hK' halls hMs 2 1).2 ⟨by decide, by decide, ?_⟩⟩
   rw [hex 2 1 (by decide) (by decide), dmB_iff]
   exact (ex_front 2 (by decide) 1 (by decide)).2 ⟨rfl, .inl rfl⟩
  refine ⟨3, 1, rfl, (front_dm (m := 5) (root := 4) hK' halls hMs 3 1).2 ⟨by decide, by decide, ?_⟩⟩
  rw [hex 3 1 (by decide) (by decide), dmB_iff]
  exact (ex_front 3 (by decide) 1 (by decide)).2 ⟨rfl, .inr rfl⟩
 subst hSe
 have hT5 := hT.ext stable_int hk5
 have hE5 := ((hk1.ext hE3).ext hk4).ext hk5
 rw [hc0, hc4]
 refine Gs 12 rfl (G.yes rfl rfl rfl (Gs 1 rfl (G.yes rfl rfl rfl (G.mem rfl rfl (M.buildSlice (cs := [.int .i64 (-1), .int .i64 0, .int .i64 1, .int .i64 1, .int .i64 1]) [(0, _), (1, _), (2, _), (3, _), (4, _)] Tryz.runUnderlying49 Tryz.sizeOf3 Tryz.zeroValue3 (by decide) rfl (by kernel_rfl)) ?_))))
 rintro _ w6 ⟨b6, rfl, hb6, hs6, hB6, hk6⟩
 refine G.yes rfl rfl rfl (G.call rfl Tryz.call14 (sameD_ok [-1, 0, 1, 1, 1] [-1, 0, 1, 1, 1] _ _ _ (fun _ => True) w6 (hT5.ext stable_int hk6) (SlR.ofBlk1 (n := 5) (cap := 5) (.int .i64) (fun _ _ => rfl) hB6 trivial rfl rfl (Nat.le_refl 5) (by decide))) ?_)
 rintro _ w7 ⟨rfl, hk7⟩
 refine G.ops1 rfl rfl (R.pickT rfl rfl rfl) (Gs 1 rfl (G.yes rfl rfl rfl (Gs 1 rfl (G.yes rfl rfl rfl (Gs 1 rfl (G.ops1 rfl rfl (R.pickT rfl rfl rfl) (Gs 1 rfl (G.yes rfl rfl rfl (Gs 1 rfl (G.yes rfl rfl rfl (G.ops1 rfl rfl (R.build (v := .agg #[.int .i64 1, .int .i64 2]) [(0, _), (1, _)] rfl (fun _ => by kernel_rfl)) (G.yes rfl rfl rfl (G.ops1 rfl rfl (R.build (v := .agg #[.int .i64 1, .int .i64 3]) [(0, _), (1, _)] rfl (fun _ => by kernel_rfl)) (G.yes rfl rfl rfl (G.mem rfl rfl (M.buildSlice (cs := [(1, 2), (1, 3)].flatMap encP) [(0, _), (1, _)] Tryz.runUnderlying35 Tryz.sizeOf43 Tryz.zeroValue43 (by decide) rfl (by kernel_rfl)) ?_)))))))))))))))
 rintro _ w8 ⟨b8, rfl, hb8, hs8, hB8, hk8⟩
 refine G.yes rfl rfl rfl (G.call rfl Tryz.call12 (samePairs_ok [(1, 2), (1, 3)] [(1, 2), (1, 3)] _ _ _ (fun _ => True) w8 (((hSl.ext stable_pair hk6).ext stable_pair hk7).ext stable_pair hk8) (SlR.ofRowK (by decide) encP encP_len (fun _ _ => rfl) (own_blk (k := 2) (n := 2) (cap := 2) hB8 (Nat.le_refl _) (by decide) rfl) (fun _ _ => trivial))) ?_)
 rintro _ w9 ⟨rfl, hk9⟩
 refine G.ops1 rfl rfl (R.pickT rfl rfl rfl) (Gs 4 rfl (G.ret1 Tryz.results4 rfl ⟨_, rfl, rfl, (((hE5.ext hk6).ext hk7).ext hk8).ext hk9⟩))
open Go.GL Go.GL.Dom
def lexC (x y : Int × Int) : Int := if x.1 ≠ y.1 then x.1 - y.1 else x.2 - y.2
theorem lexC_lt {x y : Int × Int} : lexC x y < 0 ↔ lexLt x y := by unfold lexC lexLt; split <;> omega
theorem strCmp_ok (x y : Int × Int) (W : World) (hx : bd x) (hy : bd y) : Calls Tryz.prog 10 #[.agg #[.int .i64 x.1, .int .i64 x.2], .agg #[.int .i64 y.1, .int .i64 y.2]] W (Ret fun v w' => v = .int .i64 (lexC x y) ∧ Ext W w') := by
 unfold bd at hx hy
 refine G.in2 Tryz.func10 rfl Tryz.ntmps10 rfl (V.inn (Vs 2 rfl (V.box 2 rfl rfl (fun b2 => ?_))))
 refine V.box 3 rfl rfl (fun b3 => (Vs 13 rfl (V.ite rfl (fun h => ?_) (fun h => ?_))))
 · refine Va 12 rfl (by omega) (V.ret1e 0 Tryz.results10 rfl rfl (by rw [lexC, if_pos h]))
 refine Va 13 rfl (by omega) (V.ret1e 0 Tryz.results10 rfl rfl (by rw [lexC, if_neg (by omega)]))
abbrev prR (v : Value) (l : List (Int × Int)) : HE := .row 43 2 v l.length (l.flatMap encP)
theorem sortP_m {w : World} (u : Value) (l : List (Int × Int)) (h : (prR u l).holds w) (hb : ∀ e ∈ l, bd e) (hl : l.length ≤ 1048576) : Calls Tryz.prog 9 #[u, .func (.func 10) #[] #[]] w (Ret fun r w' => ∃ L : List (Int × Int), (r = .tuple #[] ∧ L.Perm l ∧ L.Pairwise fun a b => ¬ lexLt b a) ∧ (prR u L).holds w' ∧ Keep (prR u l).S w w' ∧ ∀ q, (prR u L).S q → ((prR u l).S q ∨ w.heap.size ≤ q) ∧ q < w'.heap.size) := by
 refine (sortP_ok 10 Tryz.call10 lexC strCmp_ok (fun x y _ _ => lexC_lt) l hb hl u l.length w h).mono ?_
 rintro _ w' ⟨_, rfl, rfl, L, h1, h2, h3, h4⟩
 have h3' : (prR u L).holds w' := by rw [← h1.length_eq] at h3; exact h3
 exact ⟨_, rfl, L, ⟨rfl, h1, h2⟩, h3', h4, fun q hq => ⟨.inl hq, own_lt h3 hq⟩⟩
theorem struct_eq {f : Fl} (V : Valid f) {s s' : List (Int × Int)} {Rw : List (List Int)} {order : List Nat} {pl T : List Int} {S L : List (Int × Int)} (hs : ∀ e, e ∈ s ↔ e ∈ rawTo (cfgN f) (cfgN f).length) (ht : Turned s s') (hk : Known (cfgN f).length ((cfgN f).length - 1) s' Rw order pl T) (hc : CtlList Rw ((cfgN f).length - 1) S) (hp : L.Perm (insL f.body 1 (-1))) (hL : L.Pairwise fun a b => ¬ lexLt b a) : S = L := by
 have hlen := cfgN_len f V.plain
 have hmem : ∀ m t : Nat, Dfs.Edge Rw t m ↔ ∃ x, (cfgN f)[m]? = some x ∧ ((t : Int) = x.next ∨ (t : Int) = x.other) := fun m t => by
  have h1 : ((t : Int), (m : Int)) ∈ s' ↔ ((m : Int), (t : Int)) ∈ rawTo (cfgN f) (cfgN f).length := by
   rw [ht.2.1, List.mem_map, ← hs]
   constructor
   ·
    rintro ⟨⟨a, b⟩, h, he⟩
    simp only [Prod.mk.injEq] at he
    rwa [he.1, he.2] at h
   intro h
   exact ⟨_, h, rfl⟩
  constructor
  ·
   rintro ⟨r, hr, hm⟩
   obtain ⟨a, b, x, he, hx, hab⟩ := rawTo_inv (h1.1 ((hk.succ.mem t r hr m).1 hm))
   simp only [Prod.mk.injEq] at he
   obtain rfl : m = a := by omega
   obtain rfl : t = b := by omega
   exact ⟨x, hx, hab⟩
  rintro ⟨x, hx, h⟩
  have htl := ((V.edge hx).1 _ h).2
  have e := List.getElem?_eq_getElem (show t < Rw.length by rw [hk.succ.len]; omega)
  exact ⟨_, e, (hk.succ.mem t _ e m).2 (h1.2 (rawTo_of hx h))⟩
 refine simple_uniq hc.sorted ?_ fun e => ?_
 ·
  have hn : L.Nodup := hp.nodup_iff.2 (ins_nodup f.body 1 (-1) (by omega))
  refine List.Pairwise.imp (R := fun a b => a ≠ b ∧ ¬ lexLt b a) (fun {a b} h => ?_) (List.pairwise_and_iff.2 ⟨hn, hL⟩)
  obtain ⟨h1, h2⟩ := h
  unfold lexLt at *
  have : ¬ (a.1 = b.1 ∧ a.2 = b.2) := fun h => h1 (Prod.ext h.1 h.2)
  omega
 rw [hc.mem, hp.mem_iff]
 constructor
 ·
  rintro ⟨x, b, rfl, h⟩
  exact (cfg_dep V (by omega) hmem b x).1 h
 intro h
 have h1 := (mem_ins f.body 1 (-1) e).1 h
 rcases h1 with ⟨h1, _⟩ | ⟨y, hy, rfl⟩
 · omega
 exact ⟨y.2, y.1, rfl, (cfg_dep V (by omega) hmem y.1 y.2).2 h⟩
theorem simple_check {n : Int} {es s : List (Int × Int)} (hc : Gr.check n es = 0) (hs : Simple es s) : Gr.check n s = 0 := by
 obtain ⟨_, hm, hl⟩ := hs
 unfold Gr.check at *
 split at hc
 · cases hc
 split at hc
 · cases hc
 split at hc
 ·
  rename_i h1 h2 h3
  rw [if_neg h1, if_neg (by omega), if_pos]
  rw [List.all_eq_true] at h3 ⊢
  exact fun e he => h3 e ((hm e).1 he)
 cases hc
theorem controlD_ok (n root : Int) (es : List (Int × Int)) (ev : Value) (D : Nat → Prop) (w : World) (hes : SlR 2 RPair D w ev es) (hsm : n ≤ 1000) : Calls Tryz.prog 11 #[.agg #[.int .i64 n, ev], .int .i64 root] w (Ret fun v w' => (∃ u, v = .tuple #[u, .int .i64 (codeOf n es root)] ∧ (codeOf n es root = 0 → ∃ s Rw order pl T S, Turned es s ∧ Known n.toNat root.toNat s Rw order pl T ∧ CtlList Rw root.toNat S ∧ SlR 2 RPair (fun b => w.heap.size ≤ b) w' u S)) ∧ Ext w w') := by
 refine (control_ok n root es ev D w hes hsm).mono ?_
 rintro _ w' ⟨_, rfl, u, h1, _, h3, hk⟩
 exact ⟨_, rfl, ⟨u, h1, h3⟩, hk⟩
theorem lawStruct_ok (f : Fl) (v1 v2 v3 : Value) (D : Nat → Prop) (W : World) (hf : RFl D W f v1 v2 v3) :
  Calls Tryz.prog 3 #[.agg #[v1, v2, v3]] W (Ret fun r w' => r = .bool true ∧ Ext W w') := by
 have hf0 := hf
 obtain ⟨a1, c1, rfl⟩ := hf.vars.form
 obtain ⟨a2, c2, rfl⟩ := hf.hatches.form
 obtain ⟨a3, c3, rfl⟩ := hf.body.form
 refine G.in1 Tryz.func3 rfl Tryz.ntmps3 rfl (V.inn (Vs 2 rfl (V.box 1 rfl rfl (fun b1 => ?_))))
 refine Vs 6 rfl (V.call1 Tryz.call4 rfl (fun w hI => known21_ok w) (V.ops1 rfl (fun w hI => R.notU rfl (by first | exact not_decide_eq | rfl)) (Vs 2 rfl (V.bool rfl (fun k0 => ?_) (fun k0 => ?_)))))
 · cases k0
 refine Vs 6 rfl (V.call2 Tryz.call5 rfl (fun w hI => fit_ok f 4096 4096 256 _ _ _ D w (Tr1 hI.k0 hf)) ?_)
 rintro rr w1 w2 hI1 hk12 ⟨q, rfl, hq⟩ hlow
 refine V.ops1 rfl (fun w hI => R.notU rfl (by first | exact not_decide_eq | rfl)) (Vs 2 rfl (V.bool rfl (fun q0 => ?_) (fun q0 => ?_)))
 · refine Vs 7 rfl (V.ret1e 1 Tryz.results3 rfl rfl (rfl))
 have hq1 := hq (by simpa using q0)
 have vd : Valid f := valid_of hq1
 have hsm := hq1.1.2.2
 have hbs := sbulk_snodes f.body
 have hss := ssize_snodes f.body
 have hlen := cfgN_len f vd.plain
 have hwl := widL_le f.body
 refine Vs 5 rfl (V.call2 Tryz.call6 rfl (fun w hI => cfgBuild_ok f _ _ _ D w (Tr1 hI.k1 hf) vd.size vd.bulk) ?_)
 rintro rr w5 w6 hI5 hk56 ⟨nv, rfl, hnv⟩ hlow3
 rw [show graphOf f = cfgN f from if_pos vd.ok] at hnv
 obtain ⟨an, cn, rfl⟩ := hnv.form
 rw [vd.ok]
 refine Vs 3 rfl (V.alloc 3 Tryz.zeroValue31 rfl rfl (fun b3 => ?_))
 refine Vs 7 rfl (V.call2 Tryz.call7 rfl (fun w hI => cfgGraph_ok (cfgN f) _ _ w (hnv.keep stable_nd hI.k0 (fun b hb _ hs => by have := hlow3 b hs; omega))) ?_)
 rintro rr w7 w8 hI7 hk78 ⟨m, a, s, c, e, rfl, h1, h2, hs⟩ hlow4
 have hF : Formed (cfgN f) := formed_cfg vd
 obtain ⟨he, h3, h4⟩ := h2 hF
 have hrc := raw_check (g := cfgN f) (by omega) fun i x hx to ht h0 => ((vd.edge hx).1 to ht).2
 rw [hrc] at he
 subst he
 obtain ⟨rfl, hS⟩ := h4 rfl
 have hsl := rawTo_len (cfgN f) (cfgN f).length
 have hsc := simple_check hrc hS
 refine Vs 3 rfl (V.alloc 5 Tryz.zeroValue37 rfl rfl (fun b5 => ?_))
 refine Vs 10 rfl (V.sp 27 rfl (fun y0 => ?_) (fun y0 => ?_))
 · exact absurd rfl y0
 refine Vs 5 rfl (V.ite rfl (fun y1 => ?_) (fun y1 => ?_))
 · exact absurd rfl y1
 refine Vs 6 rfl (V.callMs [] (Hn := fun x : Value => [(907, .row 43 2 x (insL f.body 1 (-1)).length ((insL f.body 1 (-1)).flatMap encP))]) [(1, some (1, 0)), (3, some (3, 0)), (5, some (5, 0)), (32, some (1, 2))] Tryz.call8 rfl (fun _ _ => rfl) (fun _ => rfl) (fun w hI => insP_ms 907 (insideL_ok f.body _ D w 1 (-1) (Tr1 hI.k3 hf0.body) (by omega) (by omega) (by omega) (by omega))) ?_)
 rintro _ r7 rfl
 refine Vs 10 rfl ?_
 have hil := ins_len f.body 1 (-1)
 have hir := ins_range f.body 1 (-1)
 refine V.callM 907 (E := fun L => prR r7 L) Tryz.call9 rfl (fun _ => ⟨trivial, fun _ h => h⟩) (fun w hI => sortP_m r7 (insL f.body 1 (-1)) (hI.at 907 rfl) (fun e he => by have := hir e he; unfold bd; omega) (by omega)) ?_
 rintro _ L ⟨rfl, hp, hL⟩
 refine Va 8 rfl (by omega) (V.call2 Tryz.call11 rfl (fun w hI => controlD_ok (cfgN f).length (((cfgN f).length : Int) - 1) s _ _ w (hs.keep stable_pair hI.k0 (fun b hb _ hs => by have := hlow4 b hs; omega)) (by omega)) ?_)
 rintro rr w9 wa hI9 hk9a ⟨u, rfl, hu1⟩ hlow5
 have hco : codeOf (cfgN f).length s (((cfgN f).length : Int) - 1) = 0 := by unfold codeOf; rw [if_neg (not_not_intro hsc), if_neg (by omega)]
 obtain ⟨s', Rw, order, pl, T, S, ht, hk, hc, hS2⟩ := hu1 hco
 rw [Int.toNat_natCast, show (((cfgN f).length : Int) - 1).toNat = (cfgN f).length - 1 by omega] at hk
 rw [show (((cfgN f).length : Int) - 1).toNat = (cfgN f).length - 1 by omega] at hc
 obtain ⟨au, cu, rfl⟩ := hS2.form
 rw [hco]
 refine Vs 12 rfl (V.sp 49 rfl (fun y2 => ?_) (fun y2 => ?_))
 ·
  refine Va 7 rfl (by omega) (V.sp 56 rfl (fun y3 => ?_) (fun y3 => ?_))
  · refine Vs 2 rfl (V.call1 Tryz.call12 rfl (fun w hI => samePairs_ok S L _ _ _ (fun _ => True) w (hS2.keep stable_pair hI.k0 (fun b hb _ hs => by have := hlow5 b hs; omega)) (SlR.ofRowK (by omega) encP encP_len (fun x _ => rfl) (hI.at 907 rfl) (fun _ _ => trivial))) (Vs 5 rfl (V.ret1e 4 Tryz.results3 rfl rfl (by rw [decide_eq_true (struct_eq vd hS.2.1 ht hk hc hp hL)]))))
  exact absurd (by omega) y3
 exact absurd rfl y2
end Go.Proofs.YtgojdedggmehiaaGreat
