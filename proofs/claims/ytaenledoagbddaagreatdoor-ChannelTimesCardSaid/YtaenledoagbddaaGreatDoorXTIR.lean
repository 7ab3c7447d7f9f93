/-
  The law: for every input it returns true, and the arguments read as before. No condition is asked of the input.
-/
import Derived.Test.YtaenledoagbddaaGreatDoorXTI1
namespace Go.Proofs.YtaenledoagbddaaGreatDoor.channelTimes
open Go.GL Go.ChangeShapes Go.WideShapes Go.ChangeAt Go.RowKit
set_option maxRecDepth 100000 in
theorem contract (H : Type) (enc : TypeId × Value -> H) (W : World) (base : Nat) (args : Array Value) (ds gs : List (DataW H)) (before : List MemPlace)
  (hval : ∀ (j : Nat) t v, Tryz.f6.params[j]? = some t -> args[j]? = some v -> Value.okWide Tryz.prog W .any base t v)
  (hW : DataW.Whole enc Tryz.prog Tryz.f6.params.toList Rows.channelTimesSpec.vars false W args.toList ds gs before)
  (hsz : (DataW.weightsEach Tryz.prog (Tryz.f6.params.toList ++ Rows.channelTimesSpec.plain.varTypes Tryz.prog) (ds ++ gs)).all (· <= reachBytes) = true) (ht : Tab W) :
  Calls Tryz.prog 6 args W fun e W' => ∃ v, e = .returned v /\ Rows.channelTimesSpec.post enc Tryz.prog Tryz.f6 false true false false W args v W' := by
 have hW' := hW
 obtain ⟨p, q, hA0, hV, rfl, hfz, hnd⟩ := hW
 have hA : DataW.TrodAll enc Tryz.prog W 0 (fun _ => true) true Tryz.f6.params.toList args.toList ds p := hA0
 rw [Tryz.params6] at hA hval hsz
 obtain ⟨v0, vs0, d0, ds0, p0, q0, hargs, rfl, rfl, h0, r0⟩ := trodAll_cons hA
 obtain ⟨v1, vs1, d1, ds1, p1, q1, rfl, rfl, rfl, h1, r1⟩ := trodAll_cons r0
 obtain ⟨rfl, rfl, rfl⟩ := trodAll_nil r1
 obtain rfl : args = #[v0, v1] := by cases args; simp_all
 obtain ⟨rfl, rfl⟩ := trodVars_none hV
 obtain ⟨f0, x0, y0, z0, rfl, hf0⟩ := zoU (hval 0 26 v0 rfl rfl) h0
 obtain ⟨a1, rfl, rfl, rfl, b1⟩ := open_int tu3 (hval 1 3 v1 rfl rfl) h1
 clear hA0
 refine (zoI f0 a1 _ _ _ _ W hf0 ht).mono ?_
 rintro e W' ⟨v, rfl, rfl, hk⟩
 exact ⟨_, rfl, zgA (by kernel_rfl) (by kernel_rfl) (by kernel_rfl) (by rw [Tryz.params6]; decide +kernel) O (by kernel_rfl) tu4 hW' ⟨rfl, rfl, rfl⟩ hk⟩
set_option maxRecDepth 100000 in
theorem lifted (os : Os) (started : os.Started) (H : Type) (enc : TypeId × Value -> H) :
  ReturnsInHanded {} Tryz.checked os 6 .any (fun w args => (Rows.channelTimesSpec.pre enc Tryz.prog Tryz.f6 Rows.channelTimesRow.domain false w args /\ laidMet Tryz.prog Rows.channelTimesRow.laid w) /\ sizedMet enc Tryz.prog Tryz.f6 (OpenSpec.ofChange Rows.channelTimesSpec) false w args)
   (Rows.channelTimesSpec.post enc Tryz.prog Tryz.f6 false true false false) := by
 refine returnsInHanded_of_change_and (C := Tryz.checked) (X := fun w _ => laidMet Tryz.prog Rows.channelTimesRow.laid w) (fun _ _ _ hh h => h.of_heap hh) own started (by kernel_rfl) Tryz.func6
  (ChangeSpec.witness_at (enc := enc) (C := Tryz.checked) (os := os) (X := fun w _ => laidMet Tryz.prog Rows.channelTimesRow.laid w) false (zfK os) #[.agg #[.slice none 0 0, .slice none 0 0, .slice none 0 0], .int .i64 0] 8 rfl (by kernel_rfl) (by kernel_rfl) (by kernel_rfl) (by kernel_rfl) (by kernel_rfl) (zbT os _)) ?_
 intro W base args ds gs before hval hW _ hsz hL _
 exact contract H enc W base args ds gs before hval hW hsz (zjb hL)
theorem over : Rows.ChannelTimesSaid :=
 OpenClaim.holds_of_wide 6 Tryz.f6 rfl rfl rfl rfl rfl rfl rfl ⟨rfl, rfl, rfl, rfl, rfl⟩ rfl rfl rfl rfl rfl (by kernel_rfl) Tryz.func6 (by kernel_rfl)
  (of_decide_eq_true (by kernel_rfl)) (by unfold Func.isWrapper; first | (rw [zo4 (by decide +kernel)]; kernel_rfl) | (rw [zo3 (by decide +kernel)]; exact ⟨rfl, rfl⟩))
  (fun os started H enc _ => lifted os started H enc)
set_option maxRecDepth 100000 in
theorem proved : Rows.ChannelTimesCardSaid :=
 Claim7.holds_tied_plain_at .later [] [.data, .data, .data] true (true, "99b139f1e00e925ff34aeca7d0f4c8f4cd6a02b8bf52487979596185c8978961") false
  over (fun _ h => by cases h) (by kernel_rfl) (fun _ h => by cases h) channelTimes_row_tie rfl ⟨rfl, rfl⟩ (by kernel_rfl) rfl
  (fun f fn hf hfn => by
   obtain rfl : f = 6 := (Option.some.inj ((show Tryz.prog.funcNamed "keyhole/keyholelaw38.ChannelTimes" = some 6 by kernel_rfl).symm.trans hf)).symm
   obtain rfl : fn = Tryz.f6 := (Option.some.inj (Tryz.func6.symm.trans hfn)).symm
   exact ⟨by kernel_rfl, fun j t ht => by
    rw [Tryz.params6] at ht
    have hm := Array.mem_of_getElem? ht
    simp only [List.mem_toArray, zo9, List.not_mem_nil, or_false] at hm
    rcases hm with rfl | rfl
    . exact (show Tryz.prog.wantsStandIn 26 = false by kernel_rfl)
    ·
     exact (show Tryz.prog.wantsStandIn 3 = false by kernel_rfl)⟩)
  (by kernel_rfl)
end Go.Proofs.YtaenledoagbddaaGreatDoor.channelTimes
