/-
  digraph: turned, the sorted edges, the lists of successors. Contracts; nothing here is a claim.
-/
import Derived.Test.YteilalejfphkgaaT1
namespace Go.Proofs.Yteilalejfphkgaa
open Go.GL

def encP (e : Int × Int) : List Value := [.int .i64 e.1, .int .i64 e.2]
theorem encP_len (e : Int × Int) : (encP e).length = 2 := rfl
theorem encP_one (e : Int × Int) : ∀ u ∈ encP e, u.oneCell' = true := by simp [encP, Value.oneCell']

theorem take_flat {α β : Type} (f : α → List β) {l : List α} {k : Nat} {x : α} (hx : l[k]? = some x) : (l.take k).flatMap f ++ f x = (l.take (k + 1)).flatMap f := by
  obtain ⟨hk, rfl⟩ := List.getElem?_eq_some_iff.1 hx
  rw [List.take_succ_eq_append_getElem hk, List.flatMap_append, List.flatMap_cons, List.flatMap_nil, List.append_nil]

theorem turned_ok (n : Int) (es : List (Int × Int)) (ev : Value) (D : Nat → Prop) (w : World) (hes : SlR 2 RPair D w ev es) (hlen : es.length ≤ 1048576) : Calls Try.prog 60 #[.agg #[.int .i64 n, ev]] w (Ret fun v w' => SlR 2 RPair (fun b => w.heap.size ≤ b) w' v (es.map fun e => (e.2, e.1)) ∧ Ext w w') := by
  obtain ⟨ao, cap, rfl, hlc, hcm, hel⟩ := hes
  refine calls Try.func60 rfl [(0, .agg #[.int .i64 n, .slice ao es.length cap])] 23 ⟨Nat.le_of_ble_eq_true rfl, Try.ntmps60⟩ (argsOk (Sub.cons rfl Sub.nil)) ?_
  refine WC.seq (WC.region ?_)
  refine WO.mem rfl rfl rfl (M.box rfl rfl) ?_
  rintro _ w1 ⟨b, rfl, hb, hsz, hB, hk⟩
  refine WO.op rfl rfl rfl (R.assign rfl) ?_
  refine WO.nil (WX.next (WC.seq (WC.region ?_)))
  refine WO.op rfl rfl rfl (R.assign rfl) ?_
  refine WO.nil (WX.next (WC.seq (WC.seq (WC.region ?_))))
  refine WO.op rfl rfl rfl (R.fieldAddr Try.runUnderlying24 rfl Try.sizeOf22 rfl) ?_
  refine WO.op rfl rfl rfl (R.load Try.isAgg22 rfl (hB.cells 1 _ rfl)) ?_
  refine WO.op rfl rfl rfl (R.lenS rfl Try.runUnderlying22 rfl) ?_
  refine WO.op rfl rfl rfl (R.move rfl) ?_
  refine WO.nil (WX.next (WC.block ?_))
  refine WC.loop (σ := Nat × Value) (fun ⟨k, v⟩ => [(3, v), (7, .slice ao es.length cap), (8, .int .i64 es.length), (9, .int .i64 k)]) (fun ⟨k, v⟩ => fun w' => k ≤ es.length ∧ w'.ownsRow 0 49 2 v k ((es.take k).flatMap fun e => encP (e.2, e.1)) ∧ (∀ g, v.ownBlock = some g → w1.heap.size ≤ g) ∧ Ext w1 w') (fun ⟨k, v⟩ => es.length - k) ((0, .slice none 0 0)) (Sub.cons rfl (Sub.cons rfl (Sub.cons rfl (Sub.cons rfl Sub.nil)))) (⟨Nat.zero_le _, own_nil _ _ _, by simp [Value.ownBlock], Keep.refl _ _⟩) ?_
  rintro ⟨k, v⟩ w2 ⟨hkn, hown, hfr, hk2⟩
  show WC _ _ _ _ [(3, v), (7, .slice ao es.length cap), (8, .int .i64 es.length), (9, .int .i64 k)] _
  refine WC.seq (WC.region ?_)
  refine WO.op rfl rfl rfl (R.lss rfl rfl) ?_
  refine WO.nil (WX.next (WC.seq ?_))
  refine WC.ite rfl (fun hlt => ?_) (fun hge => ?_)
  ·
    refine WC.skip (WX.next (WC.seq (WC.block (WC.seq (WC.region ?_)))))
    obtain ⟨e, he⟩ : ∃ e, es[k]? = some e := ⟨_, List.getElem?_eq_getElem (by omega)⟩
    obtain ⟨be, oe, ce, hao, _, hcl, hcs, rfl⟩ := hel k e he
    refine WO.op rfl rfl rfl (R.indexS Try.runUnderlying22 Try.sizeOf49 rfl rfl hao (by omega)) ?_
    refine WO.op rfl rfl rfl (R.loadK Try.isAgg49 Try.sizeOf49 rfl (by rfl) ((hk.ext hk2).cells hcs (fun h => h))) ?_
    refine WO.mem rfl rfl rfl (M.alloc (cs := _) Try.zeroValue49 rfl) ?_
    rintro _ w3 ⟨b4, rfl, hb4, hsz3, hB3, hk3⟩
    refine WO.mem0 rfl rfl (M.storeK Try.sizeOf49 rfl rfl rfl rfl (encP_one e) hB3 (by simp)) ?_
    rintro w4 ⟨hs4, hB4, hk4⟩
    refine WO.nil (WX.next (WC.region ?_))
    refine WO.op rfl rfl rfl (R.move rfl) ?_
    refine WO.op rfl rfl rfl (R.indexA Try.runUnderlying49 Try.sizeOf3 rfl rfl (by omega)) ?_
    refine WO.op rfl rfl rfl (R.load Try.isAgg3 rfl (hB4.cells 1 _ rfl)) ?_
    refine WO.op rfl rfl rfl (R.indexA Try.runUnderlying49 Try.sizeOf3 rfl rfl (by omega)) ?_
    refine WO.op rfl rfl rfl (R.load Try.isAgg3 rfl (hB4.cells 0 _ rfl)) ?_
    refine WO.op rfl rfl rfl (R.build (v := .agg #[.int .i64 e.2, .int .i64 e.1]) [(0, _), (1, _)] rfl (fun _ => by kernel_rfl)) ?_
    refine WO.mem rfl rfl rfl (M.buildSlice (cs := encP (e.2, e.1)) [(0, _)] Try.runUnderlying22 Try.sizeOf49 Try.zeroValue49 (by decide) rfl (by kernel_rfl)) ?_
    rintro _ w5 ⟨b5, rfl, hb5, hs5, hB5, hk5⟩
    have hE4 : Ext w2 w4 := hk3.trans hk4 (fun q hq h => by omega)
    have hE5 := hE4.ext hk5
    have hown5 := own_keep hown hE5 (fun _ _ h => h)
    refine WO.mem rfl rfl rfl (M.append Try.underlying22 Try.el49 rfl (by decide) rfl rfl hown5 rfl (Cells.add hB5.cells) (encP_one _) (by omega) (by omega)) ?_
    rintro v' w6 ⟨hown6, hfr6, hk6, _⟩
    rw [take_flat (fun e : Int × Int => encP (e.2, e.1)) he] at hown6
    refine WO.op rfl rfl rfl (R.assign rfl) ?_
    refine WO.nil (WX.blockN (WX.next (WC.region ?_)))
    refine WO.op rfl rfl rfl (R.add rfl rfl (wrap_i64_in (by omega))) ?_
    refine WO.op rfl rfl rfl (R.move rfl) ?_
    refine WO.nil ?_
    have hlt5 : w1.heap.size ≤ w5.heap.size := Nat.le_trans hk2.size hE5.size
    refine WX.back ((k + 1, v')) (Sub.cons rfl (Sub.cons rfl (Sub.cons rfl (Sub.cons rfl Sub.nil)))) (⟨by omega, hown6, ?_, (hk2.ext hE5).trans hk6 (fun q hq h => by have := hfr q h; omega)⟩) (by first | omega | (dsimp only; omega))
    intro g hg
    rcases hfr6 with h | ⟨g', h, h'⟩
    · exact hfr g (by rw [← h]; exact hg)
    · rw [h] at hg; cases hg; omega
  ·
    refine WC.exit (WX.thenE (WX.thenE (WX.hit (WX.next (WC.seq (WC.region ?_))))))
    refine WO.op rfl rfl rfl (R.move rfl) ?_
    refine WO.op rfl rfl rfl (R.assign rfl) ?_
    refine WO.nil (WX.next (WC.ret ?_))
    refine WX.ret1 Try.results60 rfl ⟨_, rfl, ?_, hk.ext hk2⟩
    have : k = es.length := by omega
    subst this
    rw [List.take_length] at hown
    have e1 : (es.flatMap fun e => encP (e.2, e.1)) = (es.map fun e => (e.2, e.1)).flatMap encP := by rw [List.flatMap_map]
    rw [e1] at hown
    exact SlR.ofRowK (by omega) encP encP_len (fun x _ => rfl) hown (fun g hg => by have := hfr g hg; omega)
end Go.Proofs.Yteilalejfphkgaa
