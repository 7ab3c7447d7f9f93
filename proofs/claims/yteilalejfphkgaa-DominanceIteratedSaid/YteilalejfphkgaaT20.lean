/-
  The law's example. Contract; nothing here is a claim.
-/
import Derived.Test.YteilalejfphkgaaT19
namespace Go.Proofs.Yteilalejfphkgaa
open Go.GL Go.GL.Dom Go.GL.Dfs

theorem sorted_unique {α : Type} {lt : α → α → Prop} (hi : ∀ a, ¬ lt a a) (ha : ∀ a b, lt a b → ¬ lt b a) : ∀ (l l' : List α), l.Pairwise lt → l'.Pairwise lt → (∀ x, x ∈ l ↔ x ∈ l') → l = l'
  | [], [], _, _, _ => rfl
  | [], y :: l', _, _, h => absurd ((h y).2 (List.mem_cons_self ..)) (by simp)
  | x :: l, [], _, _, h => absurd ((h x).1 (List.mem_cons_self ..)) (by simp)
  | x :: l, y :: l', h1, h2, h => by
    obtain ⟨h3, h4⟩ := List.pairwise_cons.1 h1
    obtain ⟨h5, h6⟩ := List.pairwise_cons.1 h2
    have e : x = y := by
      rcases List.mem_cons.1 ((h x).1 (List.mem_cons_self ..)) with h7 | h7
      · exact h7
      · rcases List.mem_cons.1 ((h y).2 (List.mem_cons_self ..)) with h8 | h8
        · exact h8.symm
        · exact absurd (h5 x h7) (ha _ _ (h3 y h8))
    subst e
    rw [sorted_unique hi ha l l' h4 h6 (fun z => ?_)]
    constructor
    · intro hz
      rcases List.mem_cons.1 ((h z).1 (List.mem_cons_of_mem _ hz)) with h7 | h7
      · subst h7; exact absurd (h3 z hz) (hi z)
      · exact h7
    · intro hz
      rcases List.mem_cons.1 ((h z).2 (List.mem_cons_of_mem _ hz)) with h7 | h7
      · subst h7; exact absurd (h5 z hz) (hi z)
      · exact h7
theorem lexLt_irrefl (a : Int × Int) : ¬ lexLt a a := by unfold lexLt; omega
theorem lexLt_asymm (a b : Int × Int) : lexLt a b → ¬ lexLt b a := by unfold lexLt; omega

theorem RE.congr {es es' : List (Int × Int)} (h : ∀ e, e ∈ es → e ∈ es') {root : Nat} {x : Int} {b : Nat} (hb : RE es root x b) : RE es' root x b := by
  induction hb with
  | start h1 => exact .start h1
  | step _ he hx ih => exact .step ih (h _ he) hx
theorem DomMat.congr {es es' : List (Int × Int)} (h : ∀ e, e ∈ es ↔ e ∈ es') {root m : Nat} {M : List (List Bool)} (hM : DomMat es root m M) : DomMat es' root m M :=
  ⟨hM.len, fun a r hr => ⟨(hM.row a r hr).1, fun b => by
    rw [(hM.row a r hr).2 b]
    exact ⟨fun ⟨h1, h2⟩ => ⟨RE.congr (fun e he => (h e).1 he) h1, fun h3 => h2 (RE.congr (fun e he => (h e).2 he) h3)⟩, fun ⟨h1, h2⟩ => ⟨RE.congr (fun e he => (h e).2 he) h1, fun h3 => h2 (RE.congr (fun e he => (h e).1 he) h3)⟩⟩⟩⟩

def dmB (M : List (List Bool)) (a b : Nat) : Bool := (M[a]?.bind fun r => r[b]?) == some true
theorem dmB_iff (M : List (List Bool)) (a b : Nat) : dm M a b ↔ dmB M a b = true := by
  unfold dm dmB
  cases M[a]? with
  | none => simp
  | some r => simp

def exE : List (Nat × Nat) := [(0, 1), (1, 2), (1, 3), (2, 4), (3, 4)]
def exB : List (Nat × Nat) := [(1, 0), (2, 1), (3, 1), (4, 2), (4, 3)]

theorem ex_dom : domX exE 5 0 = [[true, true, true, true, true], [false, true, true, true, true], [false, false, true, false, false], [false, false, false, true, false], [false, false, false, false, true]] := by decide +kernel
theorem ex_back : domX exB 5 4 = [[true, false, false, false, false], [true, true, false, false, false], [false, false, true, false, false], [false, false, false, true, false], [true, true, true, true, true]] := by decide +kernel

theorem ex_tree : RefTree (domX exE 5 0) 5 [-1, 0, 1, 1, 1] := by
  refine ⟨rfl, ?_⟩
  simp only [Near, dmB_iff]
  rw [ex_dom]
  intro b hb
  have : b = 0 ∨ b = 1 ∨ b = 2 ∨ b = 3 ∨ b = 4 := by omega
  rcases this with rfl | rfl | rfl | rfl | rfl
  · exact .inr ⟨by decide +kernel, rfl⟩
  · exact .inl ⟨0, by decide, by decide +kernel, rfl⟩
  · exact .inl ⟨1, by decide, by decide +kernel, rfl⟩
  · exact .inl ⟨1, by decide, by decide +kernel, rfl⟩
  · exact .inl ⟨1, by decide, by decide +kernel, rfl⟩

theorem ex_front : ∀ x, x < 5 → ∀ b, b < 5 → (((∃ e ∈ exB, e.2 = b ∧ dmB (domX exB 5 4) x e.1 = true) ∧ ¬ (x ≠ b ∧ dmB (domX exB 5 4) x b = true)) ↔ (b = 1 ∧ (x = 2 ∨ x = 3))) := by
  rw [ex_back]
  decide +kernel

theorem known_ok (w : World) : Calls Try.prog 10 #[] w (Ret fun r w' => r = .bool true ∧ Ext w w') := by
  have hc0 : codeOf 5 (toI exE) 0 = 0 := by decide +kernel
  have hc4 : codeOf 5 (toI exE) 4 = 0 := by decide +kernel
  have hallE : (toI exE).all (Gr.okE (5 : Nat)) = true := by decide +kernel
  refine calls Try.func10 rfl [] 41 ⟨Nat.le_of_ble_eq_true rfl, Try.ntmps10⟩ argsOk0 ?_
  refine WC.seq (WC.region ?_)
  refine WO.op rfl rfl rfl (R.assign rfl) ?_
  refine WO.nil (WX.next (WC.seq (WC.region ?_)))
  refine WO.op rfl rfl rfl (R.build (v := .agg #[.int .i64 0, .int .i64 1]) [(0, _), (1, _)] rfl (fun _ => by kernel_rfl)) ?_
  refine WO.op rfl rfl rfl (R.build (v := .agg #[.int .i64 1, .int .i64 2]) [(0, _), (1, _)] rfl (fun _ => by kernel_rfl)) ?_
  refine WO.op rfl rfl rfl (R.build (v := .agg #[.int .i64 1, .int .i64 3]) [(0, _), (1, _)] rfl (fun _ => by kernel_rfl)) ?_
  refine WO.op rfl rfl rfl (R.build (v := .agg #[.int .i64 2, .int .i64 4]) [(0, _), (1, _)] rfl (fun _ => by kernel_rfl)) ?_
  refine WO.op rfl rfl rfl (R.build (v := .agg #[.int .i64 3, .int .i64 4]) [(0, _), (1, _)] rfl (fun _ => by kernel_rfl)) ?_
  refine WO.mem rfl rfl rfl (M.buildSlice (cs := (toI exE).flatMap encP) [(0, _), (1, _), (2, _), (3, _), (4, _)] Try.runUnderlying22 Try.sizeOf49 Try.zeroValue49 (by decide) rfl (by kernel_rfl)) ?_
  rintro _ w1 ⟨b1, rfl, hb1, hs1, hB1, hk1⟩
  refine WO.op rfl rfl rfl (R.build (v := .agg #[.int .i64 5, .slice (some ⟨b1, 0, none⟩) 5 5]) [(0, _), (1, _)] rfl (fun _ => by kernel_rfl)) ?_
  refine WO.mem rfl rfl rfl (M.alloc (cs := _) Try.zeroValue24 rfl) ?_
  rintro _ w2 ⟨b2, rfl, hb2, hs2, hB2, hk2⟩
  refine WO.mem0 rfl rfl (M.storeK Try.sizeOf24 rfl rfl rfl rfl (by simp [Value.oneCell']) hB2 (by simp)) ?_
  rintro w3 ⟨hs3, hB3, hk3⟩
  have hE3 : Ext w1 w3 := hk2.trans hk3 (fun q hq h => by have h : q = b2 := h; omega)
  have hes1 : SlR 2 RPair (fun b => w.heap.size ≤ b) w1 (.slice (some ⟨b1, 0, none⟩) 5 5) (toI exE) := SlR.ofRowK (by decide) encP encP_len (fun _ _ => rfl) (own_blk (k := 2) (n := 5) (cap := 5) hB1 (Nat.le_refl _) (by decide) rfl) (fun g hg => by obtain rfl : b1 = g := Option.some.inj hg; omega)
  have hes3 := hes1.ext stable_pair hE3
  refine WO.nil (WX.next (WC.seq (WC.region ?_)))
  refine WO.op rfl rfl rfl (R.loadK Try.isAgg24 Try.sizeOf24 rfl (by rfl) hB3.cells) ?_
  refine WO.call rfl rfl rfl (F.call (vs := [_, _]) Try.call12 rfl) (tree_ok 5 0 (toI exE) _ _ w3 hes3) ?_
  rintro _ w4 ⟨u, rfl, _, hu1, hk4⟩
  obtain ⟨Rw, order, pl, T, hK, hT⟩ := hu1 hc0
  have hTe : T = [-1, 0, 1, 1, 1] := tree_unique (m := 5) (root := 0) hK hallE (domX_ok (es := exE) (by decide) (by decide)) ex_tree
  subst hTe
  have hB4 := hk4.blk hB3 (fun h => h)
  have hes4 := hes3.ext stable_pair hk4
  refine WO.op rfl rfl rfl (R.move rfl) ?_
  refine WO.op rfl rfl rfl (R.extract rfl rfl) ?_
  refine WO.op rfl rfl rfl (R.extract rfl rfl) ?_
  refine WO.op rfl rfl rfl (R.assign rfl) ?_
  refine WO.op rfl rfl rfl (R.assign rfl) ?_
  refine WO.nil (WX.next (WC.seq (WC.region ?_)))
  refine WO.op rfl rfl rfl (R.loadK Try.isAgg24 Try.sizeOf24 rfl (by rfl) hB4.cells) ?_
  refine WO.call rfl rfl rfl (F.call (vs := [_, _]) Try.call19 rfl) (control_ok 5 4 (toI exE) _ _ w4 hes4 (by decide)) ?_
  rintro _ w5 ⟨u2, rfl, _, hu2, hk5⟩
  obtain ⟨s, Rw', order', pl', T', S, hs, hK', hS, hSl⟩ := hu2 hc4
  have hsm : ∀ e, e ∈ toI exB ↔ e ∈ s := fun e => (hs.2.1 e).symm
  have halls : s.all (Gr.okE (5 : Nat)) = true := (Gr.check_zero (check_turned (n := 5) (es := toI exE) (by decide +kernel) hs)).2.2.2
  have hMs : DomMat s 4 5 (domX exB 5 4) := (domX_ok (es := exB) (by decide) (by decide)).congr hsm
  have hSe : S = [(1, 2), (1, 3)] := by
    refine sorted_unique lexLt_irrefl lexLt_asymm S _ hS.sorted (by simp [lexLt]) (fun e => ?_)
    rw [hS.mem]
    have hex : ∀ x b : Nat, x < 5 → b < 5 → ((∃ a : Nat, ((a : Int), (b : Int)) ∈ s ∧ dm (domX exB 5 4) x a) ↔ ∃ e ∈ exB, e.2 = b ∧ dmB (domX exB 5 4) x e.1 = true) := by
      intro x b _ _
      constructor
      · rintro ⟨a, h1, h2⟩
        have h3 := (hsm _).2 h1
        obtain ⟨e, h4, h5⟩ := List.mem_map.1 h3
        have h6 := Int.ofNat.inj (congrArg Prod.fst h5)
        have h7 := Int.ofNat.inj (congrArg Prod.snd h5)
        exact ⟨e, h4, h7, by rw [h6]; exact (dmB_iff _ _ _).1 h2⟩
      · rintro ⟨e, h1, rfl, h2⟩
        exact ⟨e.1, (hsm _).1 (List.mem_map.2 ⟨e, h1, rfl⟩), (dmB_iff _ _ _).2 h2⟩
    constructor
    · rintro ⟨x, b, rfl, h1⟩
      obtain ⟨hx, hb, h2, h3⟩ := (front_dm (m := 5) (root := 4) hK' halls hMs x b).1 h1
      rw [hex x b hx hb] at h2
      rw [dmB_iff] at h3
      obtain ⟨rfl, h4⟩ := (ex_front x hx b hb).1 ⟨h2, h3⟩
      rcases h4 with rfl | rfl <;> simp
    · intro h
      have : e = (((1 : Nat) : Int), ((2 : Nat) : Int)) ∨ e = (((1 : Nat) : Int), ((3 : Nat) : Int)) := by simpa using h
      rcases this with rfl | rfl
      · refine ⟨2, 1, rfl, (front_dm (m := 5) (root := 4) hK' halls hMs 2 1).2 ⟨by decide, by decide, ?_⟩⟩
        rw [hex 2 1 (by decide) (by decide), dmB_iff]
        exact (ex_front 2 (by decide) 1 (by decide)).2 ⟨rfl, .inl rfl⟩
      · refine ⟨3, 1, rfl, (front_dm (m := 5) (root := 4) hK' halls hMs 3 1).2 ⟨by decide, by decide, ?_⟩⟩
        rw [hex 3 1 (by decide) (by decide), dmB_iff]
        exact (ex_front 3 (by decide) 1 (by decide)).2 ⟨rfl, .inr rfl⟩
  subst hSe
  have hT5 := hT.ext stable_int hk5
  have hE5 := ((hk1.ext hE3).ext hk4).ext hk5
  rw [hc0, hc4]
  refine WO.op rfl rfl rfl (R.move rfl) ?_
  refine WO.op rfl rfl rfl (R.extract rfl rfl) ?_
  refine WO.op rfl rfl rfl (R.extract rfl rfl) ?_
  refine WO.op rfl rfl rfl (R.assign rfl) ?_
  refine WO.op rfl rfl rfl (R.assign rfl) ?_
  refine WO.nil (WX.next (WC.seq (WC.region ?_)))
  refine WO.op rfl rfl rfl (R.move rfl) ?_
  refine WO.op rfl rfl rfl (R.eql rfl rfl) ?_
  refine WO.op rfl rfl rfl (R.move rfl) ?_
  refine WO.yes rfl rfl rfl ?_
  refine WO.op rfl rfl rfl (R.move rfl) ?_
  refine WO.yes rfl rfl rfl ?_
  refine WO.mem rfl rfl rfl (M.buildSlice (cs := [.int .i64 (-1), .int .i64 0, .int .i64 1, .int .i64 1, .int .i64 1]) [(0, _), (1, _), (2, _), (3, _), (4, _)] Try.runUnderlying27 Try.sizeOf3 Try.zeroValue3 (by decide) rfl (by kernel_rfl)) ?_
  rintro _ w6 ⟨b6, rfl, hb6, hs6, hB6, hk6⟩
  refine WO.yes rfl rfl rfl ?_
  refine WO.call rfl rfl rfl (F.call (vs := [_, _]) Try.call14 rfl) (same_ok [-1, 0, 1, 1, 1] [-1, 0, 1, 1, 1] _ _ _ (fun _ => True) w6 (hT5.ext stable_int hk6) (SlR.ofBlk1 (n := 5) (cap := 5) (.int .i64) (fun _ _ => rfl) hB6 trivial rfl rfl (Nat.le_refl 5) (by decide))) ?_
  rintro _ w7 ⟨rfl, hk7⟩
  refine WO.op rfl rfl rfl (R.pickT rfl rfl rfl) ?_
  refine WO.op rfl rfl rfl (R.move rfl) ?_
  refine WO.yes rfl rfl rfl ?_
  refine WO.op rfl rfl rfl (R.move rfl) ?_
  refine WO.yes rfl rfl rfl ?_
  refine WO.op rfl rfl rfl (R.eql rfl rfl) ?_
  refine WO.op rfl rfl rfl (R.pickT rfl rfl rfl) ?_
  refine WO.op rfl rfl rfl (R.move rfl) ?_
  refine WO.yes rfl rfl rfl ?_
  refine WO.op rfl rfl rfl (R.move rfl) ?_
  refine WO.yes rfl rfl rfl ?_
  refine WO.op rfl rfl rfl (R.build (v := .agg #[.int .i64 1, .int .i64 2]) [(0, _), (1, _)] rfl (fun _ => by kernel_rfl)) ?_
  refine WO.yes rfl rfl rfl ?_
  refine WO.op rfl rfl rfl (R.build (v := .agg #[.int .i64 1, .int .i64 3]) [(0, _), (1, _)] rfl (fun _ => by kernel_rfl)) ?_
  refine WO.yes rfl rfl rfl ?_
  refine WO.mem rfl rfl rfl (M.buildSlice (cs := [(1, 2), (1, 3)].flatMap encP) [(0, _), (1, _)] Try.runUnderlying22 Try.sizeOf49 Try.zeroValue49 (by decide) rfl (by kernel_rfl)) ?_
  rintro _ w8 ⟨b8, rfl, hb8, hs8, hB8, hk8⟩
  refine WO.yes rfl rfl rfl ?_
  refine WO.call rfl rfl rfl (F.call (vs := [_, _]) Try.call21 rfl) (samePairs_ok [(1, 2), (1, 3)] [(1, 2), (1, 3)] _ _ _ (fun _ => True) w8 (((hSl.ext stable_pair hk6).ext stable_pair hk7).ext stable_pair hk8) (SlR.ofRowK (by decide) encP encP_len (fun _ _ => rfl) (own_blk (k := 2) (n := 2) (cap := 2) hB8 (Nat.le_refl _) (by decide) rfl) (fun _ _ => trivial))) ?_
  rintro _ w9 ⟨rfl, hk9⟩
  refine WO.op rfl rfl rfl (R.pickT rfl rfl rfl) ?_
  refine WO.op rfl rfl rfl (R.assign rfl) ?_
  refine WO.nil (WX.next (WC.ret ?_))
  refine WX.ret1 Try.results10 rfl ⟨_, rfl, rfl, (((hE5.ext hk6).ext hk7).ext hk8).ext hk9⟩
end Go.Proofs.Yteilalejfphkgaa
