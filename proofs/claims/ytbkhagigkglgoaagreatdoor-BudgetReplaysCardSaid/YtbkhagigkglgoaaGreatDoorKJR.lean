/-
  The law: for every input it returns true, and the arguments read as before. No condition is asked of the input.
-/
import Derived.Test.YtbkhagigkglgoaaGreatDoorKJ1
namespace Go.Proofs.YtbkhagigkglgoaaGreatDoor.budgetReplays
open Go.GL Go.ChangeShapes Go.WideShapes Go.ChangeAt Go.RowKit
set_option maxRecDepth 100000 in
theorem contract (H : Type) (enc : TypeId × Value -> H) (W : World) (base : Nat) (args : Array Value) (ds gs : List (DataW H)) (before : List MemPlace)
  (hval : ∀ (j : Nat) t v, Tryz.f10.params[j]? = some t -> args[j]? = some v -> Value.okWide Tryz.prog W .any base t v)
  (hW : DataW.Whole enc Tryz.prog Tryz.f10.params.toList Rows.budgetReplaysSpec.vars false W args.toList ds gs before)
  (hsz : (DataW.weightsEach Tryz.prog (Tryz.f10.params.toList ++ Rows.budgetReplaysSpec.plain.varTypes Tryz.prog) (ds ++ gs)).all (· <= reachBytes) = true) (ht : Tab W) :
  Calls Tryz.prog 10 args W fun e W' => ∃ v, e = .returned v /\ Rows.budgetReplaysSpec.post enc Tryz.prog Tryz.f10 false true false false W args v W' := by
 have hW' := hW
 obtain ⟨p, q, hA0, hV, rfl, hfz, hnd⟩ := hW
 have hA : DataW.TrodAll enc Tryz.prog W 0 (fun _ => true) true Tryz.f10.params.toList args.toList ds p := hA0
 rw [Tryz.params10] at hA hval hsz
 obtain ⟨v0, vs0, d0, ds0, p0, q0, hargs, rfl, rfl, h0, r0⟩ := trodAll_cons hA
 obtain ⟨v1, vs1, d1, ds1, p1, q1, rfl, rfl, rfl, h1, r1⟩ := trodAll_cons r0
 obtain ⟨v2, vs2, d2, ds2, p2, q2, rfl, rfl, rfl, h2, r2⟩ := trodAll_cons r1
 obtain ⟨rfl, rfl, rfl⟩ := trodAll_nil r2
 obtain rfl : args = #[v0, v1, v2] := by cases args; simp_all
 obtain ⟨rfl, rfl⟩ := trodVars_none hV
 obtain ⟨a0, x0, y0, rfl, ha0, hw0⟩ := zo3 (hval 0 37 v0 rfl rfl) h0
 obtain ⟨l1, hl1⟩ := zha (hval 1 23 v1 rfl rfl) h1
 obtain ⟨l2, hl2⟩ := znZ (hval 2 84 v2 rfl rfl) h2
 clear hA0
 refine (znD a0 l1 l2 _ _ _ _ _ _ _ W ha0 hl1 hl2 ht (hw0 (zoa hsz (j := 0) O O))).mono ?_
 rintro e W' ⟨v, rfl, rfl, hk⟩
 exact ⟨_, rfl, zgj (by kernel_rfl) (by kernel_rfl) (by kernel_rfl) (by rw [Tryz.params10]; decide +kernel) O (by kernel_rfl) tu4 hW' ⟨rfl, rfl, rfl⟩ hk⟩
set_option maxRecDepth 100000 in
theorem lifted (os : Os) (started : os.Started) (H : Type) (enc : TypeId × Value -> H) :
  ReturnsInHanded {} Tryz.checked os 10 .any (fun w args => (Rows.budgetReplaysSpec.pre enc Tryz.prog Tryz.f10 Rows.budgetReplaysRow.domain false w args /\ laidMet Tryz.prog Rows.budgetReplaysRow.laid w) /\ sizedMet enc Tryz.prog Tryz.f10 (OpenSpec.ofChange Rows.budgetReplaysSpec) false w args)
   (Rows.budgetReplaysSpec.post enc Tryz.prog Tryz.f10 false true false false) := by
 refine returnsInHanded_of_change_and (C := Tryz.checked) (X := fun w _ => laidMet Tryz.prog Rows.budgetReplaysRow.laid w) (fun _ _ _ hh h => h.of_heap hh) own started (by kernel_rfl) Tryz.func10
  (ChangeSpec.witness_at (enc := enc) (C := Tryz.checked) (os := os) (X := fun w _ => laidMet Tryz.prog Rows.budgetReplaysRow.laid w) false (zg9 os) #[.agg #[.int .i64 0, .int .i64 0, .int .i64 0, .slice none 0 0, .slice none 0 0], .slice none 0 0, .slice none 0 0] 8 rfl (by kernel_rfl) (by kernel_rfl) (by kernel_rfl) (by kernel_rfl) (by kernel_rfl) (zbV os _)) ?_
 intro W base args ds gs before hval hW _ hsz hL _
 exact contract H enc W base args ds gs before hval hW hsz (ziQ hL)
theorem over : Rows.BudgetReplaysSaid :=
 OpenClaim.holds_of_wide 10 Tryz.f10 rfl rfl rfl rfl rfl rfl rfl ⟨rfl, rfl, rfl, rfl, rfl⟩ rfl rfl rfl rfl rfl (by kernel_rfl) Tryz.func10 (by kernel_rfl)
  (of_decide_eq_true (by kernel_rfl)) (by unfold Func.isWrapper; first | (rw [znb (by decide +kernel)]; kernel_rfl) | (rw [zna (by decide +kernel)]; exact ⟨rfl, rfl⟩))
  (fun os started H enc _ => lifted os started H enc)
set_option maxRecDepth 100000 in
theorem proved : Rows.BudgetReplaysCardSaid :=
 Claim7.holds_tied_plain_at .later [] [.data, .data, .data] true (true, "d89203b94f97b9decfa632b4330483c67d3a6aafb49e30f0436966133fbc85a1") false
  over (fun _ h => by cases h) (by kernel_rfl) (fun _ h => by cases h) budgetReplays_row_tie rfl ⟨rfl, rfl⟩ (by kernel_rfl) rfl
  (fun f fn hf hfn => by
   obtain rfl : f = 10 := (Option.some.inj ((show Tryz.prog.funcNamed "keyhole/keyholelaw51.BudgetReplays" = some 10 by kernel_rfl).symm.trans hf)).symm
   obtain rfl : fn = Tryz.f10 := (Option.some.inj (Tryz.func10.symm.trans hfn)).symm
   exact ⟨by kernel_rfl, fun j t ht => by
    rw [Tryz.params10] at ht
    have hm := Array.mem_of_getElem? ht
    simp only [List.mem_toArray, zng, List.not_mem_nil, or_false] at hm
    rcases hm with rfl | rfl | rfl
    . exact (show Tryz.prog.wantsStandIn 37 = false by kernel_rfl)
    . exact (show Tryz.prog.wantsStandIn 23 = false by kernel_rfl)
    ·
     exact (show Tryz.prog.wantsStandIn 84 = false by kernel_rfl)⟩)
  (by kernel_rfl)
end Go.Proofs.YtbkhagigkglgoaaGreatDoor.budgetReplays
