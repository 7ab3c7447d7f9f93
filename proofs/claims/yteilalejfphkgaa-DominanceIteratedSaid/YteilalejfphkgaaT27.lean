/-
  dominance.Iterated: the least set that is closed under frontiers. Contract; nothing here is a claim.
-/
import Derived.Test.YteilalejfphkgaaT23
import Derived.Test.YteilalejfphkgaaOps3
namespace Go.Proofs.Yteilalejfphkgaa
open Go.GL Go.GL.Dom Go.GL.Dfs

/-- The least set that contains the frontiers of the nodes and of its own elements. -/
inductive ItS (Fr : Nat → Nat → Prop) (nodes : List Int) : Nat → Prop
  | node {a b : Nat} : (a : Int) ∈ nodes → Fr a b → ItS Fr nodes b
  | it {a b : Nat} : ItS Fr nodes a → Fr a b → ItS Fr nodes b

/-- Amid the work: ins marks what was found (out lists it), op is still to do, ex is at work. -/
structure ItI (Fr : Nat → Nat → Prop) (nodes : List Int) (m : Nat) (ex : Nat → Prop) (ins : List Bool) (out op : List Int) : Prop where
  len : ins.length = m
  sound : ∀ b : Nat, ins[b]? = some true → ItS Fr nodes b
  mem : ∀ y, y ∈ out ↔ ∃ b : Nat, y = (b : Int) ∧ ins[b]? = some true
  nodup : out.Nodup
  todo : ∀ x ∈ op, ∃ a : Nat, x = (a : Int) ∧ a < m ∧ (x ∈ nodes ∨ ins[a]? = some true)
  done : ∀ a : Nat, ((a : Int) ∈ nodes ∨ ins[a]? = some true) → (a : Int) ∈ op ∨ ex a ∨ ∀ b, Fr a b → ins[b]? = some true
section
variable {Fr : Nat → Nat → Prop} {nodes : List Int} {m : Nat} {ex : Nat → Prop} {ins : List Bool} {out op : List Int}
theorem ItI.start (hn : ∀ x ∈ nodes, ∃ a : Nat, x = (a : Int) ∧ a < m) : ItI Fr nodes m (fun _ => False) (List.replicate m false) [] nodes := by
  have hf : ∀ b : Nat, ¬ (List.replicate m false)[b]? = some true := by
    intro b h
    have := List.mem_of_getElem? h
    simp at this
  refine ⟨by simp, fun b h => absurd h (hf b), fun y => ⟨fun h => by simp at h, fun ⟨b, _, h⟩ => absurd h (hf b)⟩, .nil, fun x hx => ?_, fun a h => ?_⟩
  · obtain ⟨a, h1, h2⟩ := hn x hx
    exact ⟨a, h1, h2, .inl hx⟩
  · rcases h with h | h
    · exact .inl h
    · exact absurd h (hf a)
theorem ItI.pop {a : Nat} {op' : List Int} (h : ItI Fr nodes m (fun _ => False) ins out op) (ho : ∀ y, y ∈ op ↔ y ∈ op' ∨ y = (a : Int)) : ItI Fr nodes m (fun c => c = a) ins out op' := by
  refine ⟨h.len, h.sound, h.mem, h.nodup, fun x hx => h.todo x ((ho x).2 (.inl hx)), fun c hc => ?_⟩
  rcases h.done c hc with h1 | h1 | h1
  · rcases (ho _).1 h1 with h2 | h2
    · exact .inl h2
    · exact .inr (.inl (by omega))
  · exact h1.elim
  · exact .inr (.inr h1)
theorem ItI.push {a b : Nat} {op' : List Int} (h : ItI Fr nodes m ex ins out op) (hb : b < m) (hn : ins[b]? = some false) (ha : (a : Int) ∈ nodes ∨ ins[a]? = some true) (hF : Fr a b) (ho : ∀ y, y ∈ op' ↔ y ∈ op ∨ y = (b : Int)) : ItI Fr nodes m ex (ins.set b true) (out ++ [(b : Int)]) op' := by
  have hlt : b < ins.length := by rw [h.len]; exact hb
  have hset : ∀ c : Nat, (ins.set b true)[c]? = some true ↔ ins[c]? = some true ∨ c = b := by
    intro c
    by_cases e : c = b
    · subst e; simp [hlt]
    · rw [List.getElem?_set_ne (fun h => e h.symm)]; simp [e]
  refine ⟨by simp [h.len], fun c hc => ?_, fun y => ?_, ?_, fun x hx => ?_, fun c hc => ?_⟩
  · rcases (hset c).1 hc with h1 | rfl
    · exact h.sound c h1
    · rcases ha with ha | ha
      · exact .node ha hF
      · exact .it (h.sound a ha) hF
  · rw [List.mem_append, h.mem, List.mem_singleton]
    constructor
    · rintro (⟨c, h1, h2⟩ | h1)
      · exact ⟨c, h1, (hset c).2 (.inl h2)⟩
      · exact ⟨b, h1, (hset b).2 (.inr rfl)⟩
    · rintro ⟨c, h1, h2⟩
      rcases (hset c).1 h2 with h3 | rfl
      · exact .inl ⟨c, h1, h3⟩
      · exact .inr h1
  · refine List.nodup_append.2 ⟨h.nodup, by simp, fun x hx y hy => ?_⟩
    rw [List.mem_singleton] at hy
    subst hy
    rintro rfl
    obtain ⟨c, h1, h2⟩ := (h.mem _).1 hx
    have : c = b := by omega
    subst this
    rw [hn] at h2; cases h2
  · rcases (ho x).1 hx with h1 | rfl
    · obtain ⟨c, h2, h3, h4⟩ := h.todo x h1
      exact ⟨c, h2, h3, h4.imp id (fun h5 => (hset c).2 (.inl h5))⟩
    · exact ⟨b, rfl, hb, .inr ((hset b).2 (.inr rfl))⟩
  · have h0 : ((c : Int) ∈ nodes ∨ ins[c]? = some true) ∨ c = b := by
      rcases hc with h1 | h1
      · exact .inl (.inl h1)
      · exact ((hset c).1 h1).imp .inr id
    rcases h0 with h1 | rfl
    · rcases h.done c h1 with h2 | h2 | h2
      · exact .inl ((ho _).2 (.inl h2))
      · exact .inr (.inl h2)
      · exact .inr (.inr (fun d hd => (hset d).2 (.inl (h2 d hd))))
    · exact .inl ((ho _).2 (.inr rfl))
theorem ItI.close {a : Nat} (h : ItI Fr nodes m (fun c => c = a) ins out op) (hall : ∀ b, Fr a b → ins[b]? = some true) : ItI Fr nodes m (fun _ => False) ins out op := by
  refine ⟨h.len, h.sound, h.mem, h.nodup, h.todo, fun c hc => ?_⟩
  rcases h.done c hc with h1 | rfl | h1
  · exact .inl h1
  · exact .inr (.inr hall)
  · exact .inr (.inr h1)
theorem ItI.reop {op' : List Int} (h : ItI Fr nodes m ex ins out op) (ho : ∀ y, y ∈ op' ↔ y ∈ op) : ItI Fr nodes m ex ins out op' :=
  ⟨h.len, h.sound, h.mem, h.nodup, fun x hx => h.todo x ((ho x).1 hx), fun c hc => (h.done c hc).imp (ho _).2 id⟩
theorem ItI.fin (h : ItI Fr nodes m (fun _ => False) ins out []) (b : Nat) : ins[b]? = some true ↔ ItS Fr nodes b := by
  refine ⟨h.sound b, fun hb => ?_⟩
  have key : ∀ a : Nat, ((a : Int) ∈ nodes ∨ ins[a]? = some true) → ∀ b, Fr a b → ins[b]? = some true := by
    intro a ha
    rcases h.done a ha with h1 | h1 | h1
    · simp at h1
    · exact h1.elim
    · exact h1
  induction hb with
  | node h1 h2 => exact key _ (.inl h1) _ h2
  | it _ h2 ih => exact key _ (.inr ih) _ h2
theorem ItI.outlen (h : ItI Fr nodes m ex ins out op) : out.length ≤ m := by
  have h1 := nodup_le m (out.map Int.toNat) (by
    rw [List.Nodup, List.pairwise_map]
    refine h.nodup.imp_of_mem ?_
    intro p q hp hq hne
    obtain ⟨p, rfl, _⟩ := (h.mem _).1 hp
    obtain ⟨q, rfl, _⟩ := (h.mem _).1 hq
    omega) (by
    intro y hy
    obtain ⟨z, hz, rfl⟩ := List.mem_map.1 hy
    obtain ⟨c, rfl, h2⟩ := (h.mem _).1 hz
    have := (List.getElem?_eq_some_iff.1 h2).1
    rw [h.len] at this
    omega)
  rwa [List.length_map] at h1
theorem cnt_set {l : List Bool} {b : Nat} (h : l[b]? = some false) : (l.set b true).count false + 1 = l.count false := by
  obtain ⟨h1, h2⟩ := List.getElem?_eq_some_iff.1 h
  have h3 : 0 < l.count false := List.count_pos_iff.2 (by rw [← h2]; exact List.getElem_mem h1)
  rw [List.count_set h1, h2]
  simp
  omega
end

/-- The code of Iterated. -/
def itCode (n : Int) (es : List (Int × Int)) (root : Int) (nodes : List Int) : Int := if codeOf n es root ≠ 0 then codeOf n es root else if nodes.all (fun x => decide (0 ≤ x ∧ x < n)) then 0 else 3

theorem iterated_ok (n root : Int) (es : List (Int × Int)) (nodes : List Int) (ev nv : Value) (D D' : Nat → Prop) (w : World) (hes : SlR 2 RPair D w ev es) (hnv : SlR 1 RInt D' w nv nodes) (hsm : n ≤ 1000) (hnl : nodes.length ≤ 1000) : Calls Try.prog 27 #[.agg #[.int .i64 n, ev], .int .i64 root, nv] w (Ret fun v w' => ∃ u, v = .tuple #[u, .int .i64 (itCode n es root nodes)] ∧ (itCode n es root nodes ≠ 0 → u = .slice none 0 0) ∧ (itCode n es root nodes = 0 → ∃ Rw order pl T L, Known n.toNat root.toNat es Rw order pl T ∧ L.Pairwise (· < ·) ∧ (∀ y : Int, y ∈ L ↔ ∃ b : Nat, y = (b : Int) ∧ ItS (Front Rw root.toNat) nodes b) ∧ SlR 1 RInt (fun b => w.heap.size ≤ b) w' u L) ∧ Ext w w') := by
  have hes' := hes
  obtain ⟨ao, cap, rfl, _⟩ := hes'
  have hnv' := hnv
  obtain ⟨an, cn, rfl, hnlc, hncm, hnel⟩ := hnv'
  refine calls Try.func27 rfl [(0, .agg #[.int .i64 n, .slice ao es.length cap]), (1, .int .i64 root), (2, .slice an nodes.length cn)] 93 ⟨Nat.le_of_ble_eq_true rfl, Try.ntmps27⟩ (argsOk (Sub.cons rfl (Sub.cons rfl (Sub.cons rfl Sub.nil)))) ?_
  refine WC.seq (WC.region ?_)
  refine WO.mem rfl rfl rfl (M.box rfl rfl) ?_
  rintro _ w1 ⟨b, rfl, hb, hs1, hB1, hk1⟩
  refine WO.op rfl rfl rfl (R.assign rfl) ?_
  refine WO.op rfl rfl rfl (R.assign rfl) ?_
  refine WO.nil (WX.next (WC.seq (WC.region ?_)))
  refine WO.op rfl rfl rfl (R.loadK Try.isAgg24 Try.sizeOf24 rfl (by rfl) hB1.cells) ?_
  refine WO.op rfl rfl rfl (R.move rfl) ?_
  refine WO.call rfl rfl rfl (F.call (vs := [_, _]) Try.call28 rfl) (prepare_ok n root es _ D w1 (hes.ext stable_pair hk1)) ?_
  rintro _ w2 ⟨u, rfl, hu0, hu1, hk2⟩
  have hE2 := hk1.ext hk2
  have hB2 := hk2.blk hB1 (fun h => h)
  refine WO.op rfl rfl rfl (R.move rfl) ?_
  refine WO.op rfl rfl rfl (R.extract rfl rfl) ?_
  refine WO.op rfl rfl rfl (R.extract rfl rfl) ?_
  refine WO.op rfl rfl rfl (R.assign rfl) ?_
  refine WO.op rfl rfl rfl (R.assign rfl) ?_
  refine WO.nil (WX.next (WC.seq (WC.seq (WC.region ?_))))
  refine WO.op rfl rfl rfl (R.move rfl) ?_
  refine WO.op rfl rfl rfl (R.neq rfl rfl) ?_
  refine WO.nil (WX.next ?_)
  refine WC.ite rfl (fun hc => ?_) (fun hc => ?_)
  · have hi : itCode n es root nodes = codeOf n es root := by rw [itCode, if_pos hc]
    refine WC.seq (WC.region ?_)
    refine WO.op rfl rfl rfl (R.move rfl) ?_
    refine WO.op rfl rfl rfl (R.assign rfl) ?_
    refine WO.op rfl rfl rfl (R.assign rfl) ?_
    refine WO.nil (WX.next (WC.ret (WX.thenR ?_)))
    refine WX.ret2 Try.results27 rfl rfl ⟨_, by rw [hi]; rfl, .slice none 0 0, rfl, fun _ => rfl, fun h => absurd (hi.symm.trans h) hc, hE2⟩
  · have hc0 : codeOf n es root = 0 := by simpa using hc
    have hi : itCode n es root nodes = if nodes.all (fun x => decide (0 ≤ x ∧ x < n)) then 0 else 3 := by rw [itCode, if_neg hc]
    obtain ⟨bw, Rw, Pw, order, pl, T, nv, bv, ov, bp, bt, rfl, hp⟩ := hu1 hc0
    obtain ⟨m, rfl⟩ := Int.eq_ofNat_of_zero_le (show 0 ≤ n from by have := code_zero hc0; omega)
    obtain ⟨rt, rfl⟩ := Int.eq_ofNat_of_zero_le (show 0 ≤ root from by have := code_zero hc0; omega)
    simp only [Int.toNat_natCast] at hp ⊢
    have hK := hp.known
    refine WC.skip (WX.next (WC.seq (WC.seq (WC.region ?_))))
    refine WO.op rfl rfl rfl (R.move rfl) ?_
    refine WO.op rfl rfl rfl (R.lenS rfl Try.runUnderlying27 rfl) ?_
    refine WO.op rfl rfl rfl (R.move rfl) ?_
    refine WO.nil (WX.next (WC.block ?_))
    refine WC.loop (σ := Nat) (fun k => [(2, .slice an nodes.length cn), (3, .pointer (some ⟨b, 0, none⟩)), (8, .pointer (some ⟨bw, 0, none⟩)), (28, .slice an nodes.length cn), (29, .int .i64 nodes.length), (30, .int .i64 k)]) (fun k => fun w' => k ≤ nodes.length ∧ (nodes.take k).all (fun x => decide (0 ≤ x ∧ x < (m : Int))) = true ∧ w' = w2) (fun k => nodes.length - k) (0) (Sub.cons rfl (Sub.cons rfl (Sub.cons rfl (Sub.cons rfl (Sub.cons rfl (Sub.cons rfl Sub.nil)))))) (⟨Nat.zero_le _, rfl, rfl⟩) ?_
    rintro k w3 ⟨hkl, hall, hw3⟩
    show WC _ _ _ _ [(2, .slice an nodes.length cn), (3, .pointer (some ⟨b, 0, none⟩)), (8, .pointer (some ⟨bw, 0, none⟩)), (28, .slice an nodes.length cn), (29, .int .i64 nodes.length), (30, .int .i64 k)] _
    subst hw3
    refine WC.seq (WC.region ?_)
    refine WO.op rfl rfl rfl (R.lss rfl rfl) ?_
    refine WO.nil (WX.next (WC.seq ?_))
    refine WC.ite rfl (fun hlt => ?_) (fun hge => ?_)
    · obtain ⟨x, hx⟩ : ∃ x, nodes[k]? = some x := ⟨_, List.getElem?_eq_getElem (by omega)⟩
      obtain ⟨b1, o1, c1, hao1, _, hcl1, hcs1, rfl⟩ := hnel k x hx
      refine WC.skip (WX.next (WC.seq (WC.block (WC.seq (WC.region ?_)))))
      refine WO.op rfl rfl rfl (R.indexS Try.runUnderlying27 Try.sizeOf3 rfl rfl hao1 (by omega)) ?_
      refine WO.op rfl rfl rfl (R.load Try.isAgg3 rfl (hE2.cells hcs1 (fun h => h) 0 _ rfl)) ?_
      refine WO.op rfl rfl rfl (R.assign rfl) ?_
      refine WO.nil (WX.next (WC.seq (WC.region ?_)))
      refine WO.op rfl rfl rfl (R.move rfl) ?_
      refine WO.op rfl rfl rfl (R.lss rfl rfl) ?_
      refine WO.op rfl rfl rfl (R.move rfl) ?_
      have hbad : ¬ (0 ≤ x ∧ x < (m : Int)) → nodes.all (fun x => decide (0 ≤ x ∧ x < (m : Int))) = false := by
        intro h
        rw [Bool.eq_false_iff]
        intro h1
        have := List.all_eq_true.1 h1 x (List.mem_of_getElem? hx)
        exact h (by simpa using this)
      refine WO.cases (p := x < 0) (fun hx0 => ?_) (fun hx0 => ?_)
      · have hb0 := hbad (by omega)
        rw [hb0] at hi
        refine WO.no rfl rfl (decide_eq_true hx0) rfl ?_
        refine WO.no rfl rfl (decide_eq_true hx0) rfl ?_
        refine WO.no rfl rfl (decide_eq_true hx0) rfl ?_
        refine WO.no rfl rfl (decide_eq_true hx0) rfl ?_
        refine WO.op rfl rfl rfl (R.pickT rfl (decide_eq_true hx0) rfl) ?_
        refine WO.nil (WX.next ?_)
        refine WC.tt rfl (rfl) ?_
        refine WC.seq (WC.region ?_)
        refine WO.op rfl rfl rfl (R.assign rfl) ?_
        refine WO.op rfl rfl rfl (R.assign rfl) ?_
        refine WO.nil (WX.next (WC.ret (WX.blockR (WX.thenR (WX.thenR (WX.blockR (WX.thenR ?_)))))))
        refine WX.ret2 Try.results27 rfl rfl ⟨_, by rw [hi]; rfl, .slice none 0 0, rfl, fun _ => rfl, fun h => absurd (hi.symm.trans h) (by decide), hE2⟩
      ·
        refine WO.yes rfl rfl (decide_eq_false hx0) ?_
        refine WO.op rfl rfl rfl (R.move rfl) ?_
        refine WO.yes rfl rfl (decide_eq_false hx0) ?_
        refine WO.op rfl rfl rfl (R.fieldAddr Try.runUnderlying24 rfl Try.sizeOf3 rfl) ?_
        refine WO.yes rfl rfl (decide_eq_false hx0) ?_
        refine WO.op rfl rfl rfl (R.load Try.isAgg3 rfl (hB2.cells 0 _ rfl)) ?_
        refine WO.yes rfl rfl (decide_eq_false hx0) ?_
        refine WO.op rfl rfl rfl (R.geq rfl rfl) ?_
        refine WO.op rfl rfl rfl (R.pickF rfl (decide_eq_false hx0) rfl) ?_
        refine WO.nil (WX.next ?_)
        refine WC.ite rfl (fun hxm => ?_) (fun hxm => ?_)
        · have hb0 := hbad (by omega)
          rw [hb0] at hi
          refine WC.seq (WC.region ?_)
          refine WO.op rfl rfl rfl (R.assign rfl) ?_
          refine WO.op rfl rfl rfl (R.assign rfl) ?_
          refine WO.nil (WX.next (WC.ret (WX.blockR (WX.thenR (WX.thenR (WX.blockR (WX.thenR ?_)))))))
          refine WX.ret2 Try.results27 rfl rfl ⟨_, by rw [hi]; rfl, .slice none 0 0, rfl, fun _ => rfl, fun h => absurd (hi.symm.trans h) (by decide), hE2⟩
        ·
          refine WC.skip (WX.blockN (WX.next (WC.region ?_)))
          refine WO.op rfl rfl rfl (R.add rfl rfl (wrap_i64_in (by omega))) ?_
          refine WO.op rfl rfl rfl (R.move rfl) ?_
          refine WO.nil ?_
          refine WX.back (k + 1) (Sub.cons rfl (Sub.cons rfl (Sub.cons rfl (Sub.cons rfl (Sub.cons rfl (Sub.cons rfl Sub.nil)))))) (⟨by omega, Gr.all_take_succ hx hall (by simp; omega), rfl⟩) (by first | omega | (dsimp only; omega))
    · have hkk : k = nodes.length := by omega
      subst hkk
      rw [List.take_length] at hall
      rw [hall] at hi
      have hi0 : itCode m es rt nodes = 0 := hi
      have hnod : ∀ x ∈ nodes, ∃ a : Nat, x = (a : Int) ∧ a < m := by
        intro x hx
        have := List.all_eq_true.1 hall x hx
        simp at this
        exact ⟨x.toNat, by omega, by omega⟩
      refine WC.exit (WX.thenE (WX.thenE (WX.hit (WX.next (WC.seq (WC.region ?_))))))
      refine WO.op rfl rfl rfl (R.move rfl) ?_
      refine WO.call rfl rfl rfl (F.call (vs := [_]) Try.call31 rfl) (frontiers_ok w3 hp (by omega)) ?_
      rintro u w4 ⟨Fm, hF, hu, hk4⟩
      have hu' := hu
      obtain ⟨fa, fc, rfl, hfl, hfm, hfe⟩ := hu'
      have hFl := hF.len
      have hE4 := hE2.ext hk4
      have hB4 := hk4.blk hB2 (fun h => h)
      refine WO.op rfl rfl rfl (R.assign rfl) ?_
      refine WO.nil (WX.next (WC.seq (WC.region ?_)))
      refine WO.op rfl rfl rfl (R.fieldAddr Try.runUnderlying24 rfl Try.sizeOf3 rfl) ?_
      refine WO.op rfl rfl rfl (R.load Try.isAgg3 rfl (hB4.cells 0 _ rfl)) ?_
      refine WO.mem rfl rfl rfl (M.make Try.underlying53 Try.el4 rfl rfl (by omega) (by omega) (made1 _ m rfl)) ?_
      rintro _ w5 ⟨bi, rfl, hbi, hs5, hB5, hk5⟩
      have hB5' : Blk w5 bi ((List.replicate m false).map .bool) 4 := by rw [List.map_replicate]; exact hB5
      have hE5 := hE4.ext hk5
      have hlti := hB5.lt
      refine WO.op rfl rfl rfl (R.assign rfl) ?_
      refine WO.nil (WX.next (WC.seq (WC.region ?_)))
      refine WO.op rfl rfl rfl (R.move rfl) ?_
      refine WO.call rfl rfl rfl (F.call (vs := [_]) Try.call40 rfl) (cloneI_ok nodes _ D' w5 (hnv.ext stable_int hE5) (by omega)) ?_
      rintro vs w6 ⟨hown6, hfs6, hk6⟩
      obtain ⟨avs, cvs, rfl⟩ := own_form hown6
      have hst : ∀ x r, Fm[x]? = some r → ∀ y ∈ r, ∃ c : Nat, y = (c : Int) ∧ c < m ∧ Front Rw rt x c := by
        intro x r hr y hy
        obtain ⟨c, rfl, hFc⟩ := (hF.mem x r hr y).1 hy
        refine ⟨c, rfl, ?_, hFc⟩
        obtain ⟨d, h1, h2, _⟩ := hFc
        have := (Dfs.Reach.step h1 h2).lt hp.rows (by rw [hp.succ.len]; exact hp.hroot)
        rw [hp.succ.len] at this
        exact this
      refine WO.op rfl rfl rfl (R.assign rfl) ?_
      refine WO.nil (WX.next (WC.seq (WC.region ?_)))
      refine WO.op rfl rfl rfl (R.assign rfl) ?_
      refine WO.nil (WX.next (WC.seq (WC.block ?_)))
      refine WC.loop (σ := List Bool × List Int × List Int × Value × Value) (fun ⟨ins, out, op, vs, vo⟩ => [(12, .slice fa Fm.length fc), (13, .slice (some ⟨bi, 0, none⟩) m m), (14, vs), (15, vo)]) (fun ⟨ins, out, op, vs, vo⟩ => fun w' => ItI (Front Rw rt) nodes m (fun _ => False) ins out op ∧ op.length + ins.count false ≤ nodes.length + m ∧ Blk w' bi (ins.map .bool) 4 ∧ w'.ownsRow 0 3 1 vs op.length (op.flatMap encI) ∧ w'.ownsRow 0 3 1 vo out.length (out.flatMap encI) ∧ (∀ g, vs.ownBlock = some g → w5.heap.size ≤ g) ∧ (∀ g, vo.ownBlock = some g → w5.heap.size ≤ g ∧ vs.ownBlock ≠ some g) ∧ Keep (fun q => q = bi) w5 w') (fun ⟨ins, out, op, vs, vo⟩ => op.length + ins.count false) ((List.replicate m false, [], nodes, .slice avs nodes.length cvs, .slice none 0 0)) (Sub.cons rfl (Sub.cons rfl (Sub.cons rfl (Sub.cons rfl Sub.nil)))) (⟨ItI.start hnod, by simp, hk6.blk hB5' (fun h => h), hown6, own_nil _ _ _, hfs6, fun g hg => by simp [Value.ownBlock] at hg, hk6.mono (fun _ _ h => h.elim)⟩) ?_
      rintro ⟨ins, out, op, vs, vo⟩ w7 ⟨hI, hcnt, hBi, hos, hoo, hfs, hfo, hk7⟩
      show WC _ _ _ _ [(12, .slice fa Fm.length fc), (13, .slice (some ⟨bi, 0, none⟩) m m), (14, vs), (15, vo)] _
      obtain ⟨av, cv, hvs⟩ := own_form hos
      rw [hvs]
      refine WC.seq (WC.seq (WC.region ?_))
      refine WO.op rfl rfl rfl (R.move rfl) ?_
      refine WO.op rfl rfl rfl (R.lenS rfl Try.runUnderlying27 rfl) ?_
      refine WO.op rfl rfl rfl (R.gtr rfl rfl) ?_
      refine WO.nil (WX.next ?_)
      refine WC.ite rfl (fun hgt => ?_) (fun hle => ?_)
      · obtain ⟨op', x, rfl⟩ : ∃ op' x, op = op' ++ [x] := by
          rcases List.eq_nil_or_concat op with rfl | ⟨s, x, rfl⟩
          · simp at hgt
          · exact ⟨s, x, by simp⟩
        obtain ⟨g, gc, sp, hvs', hlen, hnc, hcm, hBg, hcl⟩ := own_open encI_len (by omega) hos (by simp)
        rw [hvs] at hvs'
        cases hvs'
        have hl1 : (op' ++ [x]).length = op'.length + 1 := by simp
        have hgg := hfs g (by rw [hvs]; rfl)
        have hxat : (op' ++ [x])[op'.length]? = some x := by simp
        have hct : Cells w7 g (0 + op'.length * 1) (encI x) := flat_cells encI_len hBg hxat
        obtain ⟨a, rfl, ham, hva⟩ := hI.todo x (by simp)
        obtain ⟨r, hr⟩ : ∃ r, Fm[a]? = some r := ⟨_, List.getElem?_eq_getElem (by omega)⟩
        obtain ⟨b1, o1, c1, hao1, hD1, hcl1, hcs1, v1, rfl, hr1⟩ := hfe a r hr
        have hr1' := hr1
        obtain ⟨ra, rc, rfl, hrlc, hrcm, hrel⟩ := hr1'
        have hk57 : Keep (fun q => q = bi) w5 w7 := hk7
        have hk47 : Ext w4 w7 := hk5.trans hk7 (fun q hq h => by have h : q = bi := h; omega)
        have hI' := hI.pop (a := a) (op' := op') (fun y => by simp)
        refine WC.skip (WX.next (WC.block (WC.seq (WC.region ?_))))
        refine WO.op rfl rfl rfl (R.move rfl) ?_
        refine WO.op rfl rfl rfl (R.move rfl) ?_
        refine WO.op rfl rfl rfl (R.lenS rfl Try.runUnderlying27 rfl) ?_
        refine WO.op rfl rfl rfl (R.sub rfl rfl (wrap_i64_in (by omega))) ?_
        refine WO.op rfl rfl rfl (R.indexS Try.runUnderlying27 Try.sizeOf3 rfl rfl rfl (by omega)) ?_
        refine WO.op rfl rfl rfl (R.load Try.isAgg3 rfl (by rw [show 0 + (((op' ++ [(a : Int)]).length : Int) - 1).toNat * 1 = 0 + op'.length * 1 + 0 from by omega]; exact hct 0 _ rfl)) ?_
        refine WO.op rfl rfl rfl (R.assign rfl) ?_
        refine WO.nil (WX.next (WC.seq (WC.region ?_)))
        refine WO.op rfl rfl rfl (R.move rfl) ?_
        refine WO.op rfl rfl rfl (R.move rfl) ?_
        refine WO.op rfl rfl rfl (R.lenS rfl Try.runUnderlying27 rfl) ?_
        refine WO.op rfl rfl rfl (R.sub rfl rfl (wrap_i64_in (by omega))) ?_
        refine WO.op rfl rfl rfl (R.cutHi Try.runUnderlying27 Try.sizeOf3 rfl rfl (by omega)) ?_
        refine WO.op rfl rfl rfl (R.assign rfl) ?_
        refine WO.nil (WX.next (WC.seq (WC.region ?_)))
        refine WO.op rfl rfl rfl (R.move rfl) ?_
        refine WO.op rfl rfl rfl (R.move rfl) ?_
        refine WO.op rfl rfl rfl (R.indexS Try.runUnderlying35 Try.sizeOf27 rfl rfl hao1 (by omega)) ?_
        refine WO.op rfl rfl rfl (R.load Try.isAgg27 rfl (hk47.cells hcs1 (fun h => h) 0 _ rfl)) ?_
        refine WO.op rfl rfl rfl (R.lenS rfl Try.runUnderlying27 rfl) ?_
        refine WO.op rfl rfl rfl (R.move rfl) ?_
        refine WO.nil (WX.next (WC.block ?_))
        rw [show ((((op' ++ [(a : Int)]).length : Nat) : Int) - 1).toNat = op'.length from by omega]
        have hos' : w7.ownsRow 0 3 1 (.slice (some ⟨g, 0, none⟩) op'.length cv) op'.length (op'.flatMap encI) := by
          have h1 := own_shut encI_len (k := op'.length) hBg hcl (by simp) (by omega) hcm
          rw [List.take_left] at h1
          exact h1
        obtain ⟨K, hKe⟩ : ∃ K, K = (op' ++ [(a : Int)]).length + ins.count false := ⟨_, rfl⟩
        refine WC.loop (σ := Nat × List Bool × List Int × List Int × Value × Value) (fun ⟨j, ins2, out2, op2, vs2, vo2⟩ => [(12, .slice fa Fm.length fc), (13, .slice (some ⟨bi, 0, none⟩) m m), (14, vs2), (15, vo2), (67, .slice ra r.length rc), (68, .int .i64 r.length), (69, .int .i64 j)]) (fun ⟨j, ins2, out2, op2, vs2, vo2⟩ => fun w' => j ≤ r.length ∧ ItI (Front Rw rt) nodes m (fun c => c = a) ins2 out2 op2 ∧ ((a : Int) ∈ nodes ∨ ins2[a]? = some true) ∧ (∀ b : Nat, (b : Int) ∈ r.take j → ins2[b]? = some true) ∧ op2.length + ins2.count false + 1 ≤ K ∧ Blk w' bi (ins2.map .bool) 4 ∧ w'.ownsRow 0 3 1 vs2 op2.length (op2.flatMap encI) ∧ w'.ownsRow 0 3 1 vo2 out2.length (out2.flatMap encI) ∧ (∀ g, vs2.ownBlock = some g → w5.heap.size ≤ g) ∧ (∀ g, vo2.ownBlock = some g → w5.heap.size ≤ g ∧ vs2.ownBlock ≠ some g) ∧ Keep (fun q => q = bi) w5 w') (fun ⟨j, ins2, out2, op2, vs2, vo2⟩ => r.length - j) ((0, ins, out, op', .slice (some ⟨g, 0, none⟩) op'.length cv, vo)) (Sub.cons rfl (Sub.cons rfl (Sub.cons rfl (Sub.cons rfl (Sub.cons rfl (Sub.cons rfl (Sub.cons rfl Sub.nil))))))) (⟨Nat.zero_le _, hI', hva, by simp, by omega, hBi, hos', hoo, fun q hq => by cases hq; exact hgg, fun q hq => ⟨(hfo q hq).1, fun h => (hfo q hq).2 (by rw [hvs]; exact h)⟩, hk7⟩) ?_
        rintro ⟨j, ins2, out2, op2, vs2, vo2⟩ w8 ⟨hjr, hI2, hva2, hr2, hc2, hBi2, hos2, hoo2, hfs2, hfo2, hk8⟩
        show WC _ _ _ _ [(12, .slice fa Fm.length fc), (13, .slice (some ⟨bi, 0, none⟩) m m), (14, vs2), (15, vo2), (67, .slice ra r.length rc), (68, .int .i64 r.length), (69, .int .i64 j)] _
        refine WC.seq (WC.region ?_)
        refine WO.op rfl rfl rfl (R.lss rfl rfl) ?_
        refine WO.nil (WX.next (WC.seq ?_))
        refine WC.ite rfl (fun hjl => ?_) (fun hjg => ?_)
        · obtain ⟨y, hy⟩ : ∃ y, r[j]? = some y := ⟨_, List.getElem?_eq_getElem (by omega)⟩
          obtain ⟨c, rfl, hcm', hFc⟩ := hst a r hr y (List.mem_of_getElem? hy)
          obtain ⟨be, oe, ce, hra, _, hcel, hce, rfl⟩ := hrel j _ hy
          obtain ⟨s, hs⟩ : ∃ s, ins2[c]? = some s := ⟨_, List.getElem?_eq_getElem (by rw [hI2.len]; exact hcm')⟩
          have hk48 : Ext w4 w8 := hk5.trans hk8 (fun q hq h => by have h : q = bi := h; omega)
          have hol := hI2.outlen
          refine WC.skip (WX.next (WC.seq (WC.block (WC.seq (WC.region ?_)))))
          refine WO.op rfl rfl rfl (R.indexS Try.runUnderlying27 Try.sizeOf3 rfl rfl hra (by omega)) ?_
          refine WO.op rfl rfl rfl (R.load Try.isAgg3 rfl (hk48.cells hce (fun h => h) 0 _ rfl)) ?_
          refine WO.op rfl rfl rfl (R.assign rfl) ?_
          refine WO.nil (WX.next (WC.seq (WC.region ?_)))
          refine WO.op rfl rfl rfl (R.move rfl) ?_
          refine WO.op rfl rfl rfl (R.move rfl) ?_
          refine WO.op rfl rfl rfl (R.indexS Try.runUnderlying53 Try.sizeOf4 rfl rfl rfl (by omega)) ?_
          refine WO.op rfl rfl rfl (R.load Try.isAgg4 rfl (hBi2.cells.el1 c rfl (map_at hs))) ?_
          refine WO.op rfl rfl rfl (R.not rfl) ?_
          refine WO.nil (WX.next ?_)
          refine WC.bool rfl (fun hsn => ?_) (fun hsy => ?_)
          · have hsf : s = false := by simpa using hsn
            subst hsf
            have hcn := cnt_set hs
            refine WC.seq (WC.region ?_)
            refine WO.op rfl rfl rfl (R.move rfl) ?_
            refine WO.op rfl rfl rfl (R.move rfl) ?_
            refine WO.op rfl rfl rfl (R.indexS Try.runUnderlying53 Try.sizeOf4 rfl rfl rfl (by omega)) ?_
            refine WO.mem0 rfl rfl (M.store Try.sizeOf4 rfl rfl rfl rfl hBi2 (by rw [List.length_map, hI2.len]; omega)) ?_
            rintro w9 ⟨hs9, hB9, hk9⟩
            rw [show 0 + (c : Int).toNat * 1 = c from by omega, map_boolset] at hB9
            refine WO.nil (WX.next (WC.seq (WC.region ?_)))
            refine WO.op rfl rfl rfl (R.move rfl) ?_
            refine WO.op rfl rfl rfl (R.move rfl) ?_
            refine WO.mem rfl rfl rfl (M.buildSlice (cs := [.int .i64 c]) [(0, _)] Try.runUnderlying27 Try.sizeOf3 Try.zeroValue3 (by decide) rfl (by kernel_rfl)) ?_
            rintro _ w10 ⟨b10, rfl, hb10, hs10, hB10, hk10⟩
            have hk810 : Keep (fun q => q = bi) w8 w10 := hk9.ext hk10
            have hoo10 := own_keep hoo2 hk810 (fun q hq h => by have := (hfo2 q hq).1; have h : q = bi := h; omega)
            refine WO.mem rfl rfl rfl (M.append Try.underlying27 Try.el3 rfl (by decide) rfl rfl hoo10 rfl (Cells.add hB10.cells) (by simp; rfl) (by omega) (by omega)) ?_
            rintro vo3 w11 ⟨hown11, hfr11, hk11, _⟩
            refine WO.op rfl rfl rfl (R.assign rfl) ?_
            refine WO.nil (WX.next (WC.region ?_))
            refine WO.op rfl rfl rfl (R.move rfl) ?_
            refine WO.op rfl rfl rfl (R.move rfl) ?_
            refine WO.mem rfl rfl rfl (M.buildSlice (cs := [.int .i64 c]) [(0, _)] Try.runUnderlying27 Try.sizeOf3 Try.zeroValue3 (by decide) rfl (by kernel_rfl)) ?_
            rintro _ w12 ⟨b12, rfl, hb12, hs12, hB12, hk12⟩
            have hos12 := own_keep (own_keep (own_keep hos2 hk810 (fun q hq h => by have := hfs2 q hq; have h : q = bi := h; omega)) hk11 (fun q hq h => (hfo2 q h).2 hq)) hk12 (fun _ _ h => h)
            refine WO.mem rfl rfl rfl (M.append Try.underlying27 Try.el3 rfl (by decide) rfl rfl hos12 rfl (Cells.add hB12.cells) (by simp; rfl) (by omega) (by omega)) ?_
            rintro vs3 w13 ⟨hown13, hfr13, hk13, _⟩
            have hsz8 := hk8.size
            have hsz810 := hk810.size
            have hsz11 := hk11.size
            have hsz12 := hk12.size
            have hfo3 : ∀ q, vo3.ownBlock = some q → w5.heap.size ≤ q ∧ vs2.ownBlock ≠ some q ∧ q < w11.heap.size := by
              intro q hq
              refine ⟨?_, ?_, own_lt hown11 hq⟩
              · rcases hfr11 with h | ⟨q', h, h'⟩
                · exact (hfo2 q (by rw [← h]; exact hq)).1
                · rw [h] at hq; cases hq; omega
              · intro h0
                have := own_lt hos2 h0
                rcases hfr11 with h | ⟨q', h, h'⟩
                · exact (hfo2 q (by rw [← h]; exact hq)).2 h0
                · rw [h] at hq; cases hq; omega
            have hbo2 : vo2.ownBlock ≠ some bi := fun h => by have := (hfo2 bi h).1; omega
            have hbs2 : vs2.ownBlock ≠ some bi := fun h => by have := hfs2 bi h; omega
            refine WO.op rfl rfl rfl (R.assign rfl) ?_
            refine WO.nil (WX.blockN (WX.next (WC.region ?_)))
            refine WO.op rfl rfl rfl (R.add rfl rfl (wrap_i64_in (by omega))) ?_
            refine WO.op rfl rfl rfl (R.move rfl) ?_
            refine WO.nil ?_
            refine WX.back ((j + 1, ins2.set c true, out2 ++ [(c : Int)], op2 ++ [(c : Int)], vs3, vo3)) (Sub.cons rfl (Sub.cons rfl (Sub.cons rfl (Sub.cons rfl (Sub.cons rfl (Sub.cons rfl (Sub.cons rfl Sub.nil))))))) (⟨by omega, hI2.push hcm' hs hva2 hFc (fun y => by simp), ?_, ?_, by simp; omega, hk13.blk (hk12.blk (hk11.blk (hk10.blk hB9 (fun h => h)) hbo2) (fun h => h)) hbs2, ?_, ?_, ?_, ?_, ?_⟩) (by first | omega | (dsimp only; omega))
            · refine hva2.imp id (fun h => ?_)
              by_cases e : a = c
              · subst e; rw [hs] at h; cases h
              · rw [List.getElem?_set_ne (fun h => e h.symm)]; exact h
            · intro b hb
              rcases List.mem_append.1 (by rw [List.take_add_one, hy] at hb; exact hb) with h | h
              · have h1 := hr2 b h
                by_cases e : b = c
                · subst e; rw [hs] at h1; cases h1
                · rw [List.getElem?_set_ne (fun h => e h.symm)]; exact h1
              · simp at h
                have : b = c := by omega
                subst this
                rw [List.getElem?_set_self (by rw [hI2.len]; exact hcm')]
            · rw [List.length_append, List.flatMap_append]
              exact hown13
            · rw [List.length_append, List.flatMap_append]
              exact own_keep (own_keep hown11 hk12 (fun _ _ h => h)) hk13 (fun q hq h => (hfo3 q hq).2.1 h)
            · intro q hq
              rcases hfr13 with h | ⟨q', h, h'⟩
              · exact hfs2 q (by rw [← h]; exact hq)
              · rw [h] at hq; cases hq; omega
            · intro q hq
              refine ⟨(hfo3 q hq).1, fun h0 => ?_⟩
              have h3 := (hfo3 q hq).2
              rcases hfr13 with h | ⟨q', h, h'⟩
              · exact h3.1 (by rw [← h]; exact h0)
              · rw [h] at h0; cases h0; omega
            · exact (((hk8.trans hk810 (fun q hq h => h)).trans hk11 (fun q hq h => by have := (hfo2 q h).1; omega)).ext hk12).trans hk13 (fun q hq h => by have := hfs2 q h; omega)
          · have hst' : s = true := by simpa using hsy
            subst hst'
            refine WC.skip (WX.blockN (WX.next (WC.region ?_)))
            refine WO.op rfl rfl rfl (R.add rfl rfl (wrap_i64_in (by omega))) ?_
            refine WO.op rfl rfl rfl (R.move rfl) ?_
            refine WO.nil ?_
            refine WX.back ((j + 1, ins2, out2, op2, vs2, vo2)) (Sub.cons rfl (Sub.cons rfl (Sub.cons rfl (Sub.cons rfl (Sub.cons rfl (Sub.cons rfl (Sub.cons rfl Sub.nil))))))) (⟨by omega, hI2, hva2, ?_, hc2, hBi2, hos2, hoo2, hfs2, hfo2, hk8⟩) (by first | omega | (dsimp only; omega))
            intro b hb
            rcases List.mem_append.1 (by rw [List.take_add_one, hy] at hb; exact hb) with h | h
            · exact hr2 b h
            · simp at h
              have : b = c := by omega
              subst this; exact hs
        · have hj' : j = r.length := by omega
          subst hj'
          rw [List.take_length] at hr2
          refine WC.exit (WX.thenE (WX.thenE (WX.hit (WX.blockN ?_))))
          refine WX.back ((ins2, out2, op2, vs2, vo2)) (Sub.cons rfl (Sub.cons rfl (Sub.cons rfl (Sub.cons rfl Sub.nil)))) (⟨hI2.close (fun b hb => hr2 b ((hF.mem a r hr _).2 ⟨b, rfl, hb⟩)), by omega, hBi2, hos2, hoo2, hfs2, hfo2, hk8⟩) (by first | omega | (dsimp only; omega))
      · have hop : op = [] := List.eq_nil_of_length_eq_zero (by omega)
        subst hop
        have hol := hI.outlen
        refine WC.exit (WX.thenE (WX.thenE (WX.hit (WX.next (WC.seq (WC.region ?_))))))
        refine WO.op rfl rfl rfl (R.move rfl) ?_
        refine WO.call rfl rfl rfl (F.call (vs := [_]) Try.call41 rfl) (sortI_ok out vo out.length w7 (by rw [mapI]; exact hoo) (by omega)) ?_
        rintro _ w8 ⟨rfl, hown8, hk8⟩
        refine WO.nil (WX.next (WC.seq (WC.region ?_)))
        refine WO.op rfl rfl rfl (R.move rfl) ?_
        refine WO.op rfl rfl rfl (R.assign rfl) ?_
        refine WO.op rfl rfl rfl (R.assign rfl) ?_
        refine WO.nil (WX.next (WC.ret ?_))
        have hsz5 := hE5.size
        have hsz7 := hk7.size
        refine WX.ret2 Try.results27 rfl rfl ⟨_, by rw [hi0], vo, rfl, fun h => absurd hi0 h, fun _ => ⟨Rw, order, pl, T, sortL out, hK, ?_, ?_, ?_⟩, ?_⟩
        · have h1 := sortL_sorted out
          have h2 : (sortL out).Nodup := (List.mergeSort_perm out _).nodup_iff.2 hI.nodup
          exact (h1.and h2).imp (fun h => Int.lt_iff_le_and_ne.2 h)
        · intro y
          rw [sortL_mem, hI.mem]
          constructor
          · rintro ⟨b, h1, h2⟩; exact ⟨b, h1, (hI.fin b).1 h2⟩
          · rintro ⟨b, h1, h2⟩; exact ⟨b, h1, (hI.fin b).2 h2⟩
        · have h1 := sortL_len out
          rw [← h1] at hown8
          exact SlR.ofRow1 (.int .i64) (fun _ _ => rfl) hown8 (fun q hq => by have := (hfo q hq).1; omega)
        · exact (hE5.trans hk7 (fun q hq h => by have h : q = bi := h; have := hE4.size; omega)).trans hk8 (fun q hq h => by have := (hfo q h).1; omega)
end Go.Proofs.Yteilalejfphkgaa
