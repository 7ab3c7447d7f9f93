/-
  The law: for every input it returns true, and the arguments read as before. No condition is asked of the input.
-/
import Derived.Test.YtbkhagigkglgoaaGreatDoorKI1
namespace Go.Proofs.YtbkhagigkglgoaaGreatDoor.budgetAgrees
open Go.GL Go.ChangeShapes Go.WideShapes Go.ChangeAt Go.RowKit
set_option maxRecDepth 100000 in
theorem contract (H : Type) (enc : TypeId × Value -> H) (W : World) (base : Nat) (args : Array Value) (ds gs : List (DataW H)) (before : List MemPlace)
  (hval : ∀ (j : Nat) t v, Tryz.f11.params[j]? = some t -> args[j]? = some v -> Value.okWide Tryz.prog W .any base t v)
  (hW : DataW.Whole enc Tryz.prog Tryz.f11.params.toList Rows.budgetAgreesSpec.vars false W args.toList ds gs before)
  (hsz : (DataW.weightsEach Tryz.prog (Tryz.f11.params.toList ++ Rows.budgetAgreesSpec.plain.varTypes Tryz.prog) (ds ++ gs)).all (· <= reachBytes) = true) (ht : Tab W) :
  Calls Tryz.prog 11 args W fun e W' => ∃ v, e = .returned v /\ Rows.budgetAgreesSpec.post enc Tryz.prog Tryz.f11 false true false false W args v W' := by
 have hW' := hW
 obtain ⟨p, q, hA0, hV, rfl, hfz, hnd⟩ := hW
 have hA : DataW.TrodAll enc Tryz.prog W 0 (fun _ => true) true Tryz.f11.params.toList args.toList ds p := hA0
 rw [Tryz.params11] at hA hval hsz
 obtain ⟨v0, vs0, d0, ds0, p0, q0, hargs, rfl, rfl, h0, r0⟩ := trodAll_cons hA
 obtain ⟨v1, vs1, d1, ds1, p1, q1, rfl, rfl, rfl, h1, r1⟩ := trodAll_cons r0
 obtain ⟨rfl, rfl, rfl⟩ := trodAll_nil r1
 obtain rfl : args = #[v0, v1] := by cases args; simp_all
 obtain ⟨rfl, rfl⟩ := trodVars_none hV
 obtain ⟨m0, b0, l0, k0, x0, y0, rfl, hl0, hk0⟩ := zo3 (hval 0 26 v0 rfl rfl) h0
 obtain ⟨a1, rfl, rfl, rfl, b1⟩ := open_int Tryz.underlying5 (hval 1 5 v1 rfl rfl) h1
 clear hA0
 refine (znL m0 b0 l0 k0 a1 _ _ _ _ W hl0 hk0 (zod b1) ht).mono ?_
 rintro e W' ⟨v, rfl, rfl, hk⟩
 exact ⟨_, rfl, zgj (by kernel_rfl) (by kernel_rfl) (by kernel_rfl) (by rw [Tryz.params11]; decide +kernel) O (by kernel_rfl) tu4 hW' ⟨rfl, rfl, rfl⟩ hk⟩
set_option maxRecDepth 100000 in
theorem lifted (os : Os) (started : os.Started) (H : Type) (enc : TypeId × Value -> H) :
  ReturnsInHanded {} Tryz.checked os 11 .any (fun w args => (Rows.budgetAgreesSpec.pre enc Tryz.prog Tryz.f11 Rows.budgetAgreesRow.domain false w args /\ laidMet Tryz.prog Rows.budgetAgreesRow.laid w) /\ sizedMet enc Tryz.prog Tryz.f11 (OpenSpec.ofChange Rows.budgetAgreesSpec) false w args)
   (Rows.budgetAgreesSpec.post enc Tryz.prog Tryz.f11 false true false false) := by
 refine returnsInHanded_of_change_and (C := Tryz.checked) (X := fun w _ => laidMet Tryz.prog Rows.budgetAgreesRow.laid w) (fun _ _ _ hh h => h.of_heap hh) own started (by kernel_rfl) Tryz.func11
  (ChangeSpec.witness_at (enc := enc) (C := Tryz.checked) (os := os) (X := fun w _ => laidMet Tryz.prog Rows.budgetAgreesRow.laid w) false (zg9 os) #[.agg #[.int .i64 0, .int .i64 0, .slice none 0 0, .slice none 0 0], .int .u8 0] 8 rfl (by kernel_rfl) (by kernel_rfl) (by kernel_rfl) (by kernel_rfl) (by kernel_rfl) (zbV os _)) ?_
 intro W base args ds gs before hval hW _ hsz hL _
 exact contract H enc W base args ds gs before hval hW hsz (ziQ hL)
theorem over : Rows.BudgetAgreesSaid :=
 OpenClaim.holds_of_wide 11 Tryz.f11 rfl rfl rfl rfl rfl rfl rfl ⟨rfl, rfl, rfl, rfl, rfl⟩ rfl rfl rfl rfl rfl (by kernel_rfl) Tryz.func11 (by kernel_rfl)
  (of_decide_eq_true (by kernel_rfl)) (by unfold Func.isWrapper; first | (rw [znb (by decide +kernel)]; kernel_rfl) | (rw [zna (by decide +kernel)]; exact ⟨rfl, rfl⟩))
  (fun os started H enc _ => lifted os started H enc)
set_option maxRecDepth 100000 in
theorem proved : Rows.BudgetAgreesCardSaid :=
 Claim7.holds_tied_plain_at .later [] [.data, .data, .data] true (true, "d89203b94f97b9decfa632b4330483c67d3a6aafb49e30f0436966133fbc85a1") false
  over (fun _ h => by cases h) (by kernel_rfl) (fun _ h => by cases h) budgetAgrees_row_tie rfl ⟨rfl, rfl⟩ (by kernel_rfl) rfl
  (fun f fn hf hfn => by
   obtain rfl : f = 11 := (Option.some.inj ((show Tryz.prog.funcNamed "keyhole/keyholelaw51.BudgetAgrees" = some 11 by kernel_rfl).symm.trans hf)).symm
   obtain rfl : fn = Tryz.f11 := (Option.some.inj (Tryz.func11.symm.trans hfn)).symm
   exact ⟨by kernel_rfl, fun j t ht => by
    rw [Tryz.params11] at ht
    have hm := Array.mem_of_getElem? ht
    simp only [List.mem_toArray, zng, List.not_mem_nil, or_false] at hm
    rcases hm with rfl | rfl
    . exact (show Tryz.prog.wantsStandIn 26 = false by kernel_rfl)
    ·
     exact (show Tryz.prog.wantsStandIn 5 = false by kernel_rfl)⟩)
  (by kernel_rfl)
end Go.Proofs.YtbkhagigkglgoaaGreatDoor.budgetAgrees
