/-
  The law: for every input it returns true,and the arguments read as before. No condition is asked of the input.
-/
import Derived.Test.YtaenledoagbddaaGreatDoorYDE1
namespace Go.Proofs.YtaenledoagbddaaGreatDoor.channelDeterministic
open Go.GL Go.ChangeShapes Go.WideShapes Go.ChangeAt Go.RowKit
set_option maxRecDepth 100000 in
theorem contract (H:Type) (enc:TypeId × Value->H) (W:World) (base:Nat) (args:Array Value) (ds gs:List (DataW H)) (before:List MemPlace)
  (hval:∀ (j:Nat) t v,Tryz.f7.params[j]?=some t->args[j]?=some v->Value.okWide Tryz.prog W .any base t v)
  (hW:DataW.Whole enc Tryz.prog Tryz.f7.params.toList Rows.channelDeterministicSpec.vars false W args.toList ds gs before)
  (hsz:(DataW.weightsEach Tryz.prog (Tryz.f7.params.toList++Rows.channelDeterministicSpec.plain.varTypes Tryz.prog) (ds++gs)).all (·<=reachBytes)=true) (ht:Tab W) :
  Calls Tryz.prog 7 args W fun e W'=>∃ v,e=.returned v/\Rows.channelDeterministicSpec.post enc Tryz.prog Tryz.f7 false true false false W args v W':=by
 have hW':=hW
 obtain⟨p,q,hA0,hV,rfl,hfz,hnd⟩:=hW
 have hA:DataW.TrodAll enc Tryz.prog W 0 (fun _=>true) true Tryz.f7.params.toList args.toList ds p:=hA0
 rw [Tryz.params7] at hA hval hsz
 obtain⟨v0,vs0,d0,ds0,p0,q0,hargs,rfl,rfl,h0,r0⟩:=trodAll_cons hA
 obtain⟨v1,vs1,d1,ds1,p1,q1,rfl,rfl,rfl,h1,r1⟩:=trodAll_cons r0
 obtain⟨v2,vs2,d2,ds2,p2,q2,rfl,rfl,rfl,h2,r2⟩:=trodAll_cons r1
 obtain⟨rfl,rfl,rfl⟩:=trodAll_nil r2
 obtain rfl:args=#[v0,v1,v2]:=by cases args;simp_all
 obtain⟨rfl,rfl⟩:=trodVars_none hV
 obtain⟨f0,x0,y0,z0,rfl,hf0⟩:=zpg (hval 0 26 v0 rfl rfl) h0
 obtain⟨a1,rfl,rfl,rfl,b1⟩:=open_int tu3 (hval 1 3 v1 rfl rfl) h1
 obtain⟨t2,rfl⟩:=zpk (hval 2 4 v2 rfl rfl) h2
 clear hA0
 refine (zpt f0 a1 t2 _ _ _ _ W hf0 ht).mono ?_
 rintro e W' ⟨v,rfl,rfl,hk⟩
 exact⟨_,rfl,zgA (by kernel_rfl) (by kernel_rfl) (by kernel_rfl) (by rw [Tryz.params7];decide +kernel) O (by kernel_rfl) tu4 hW' ⟨rfl,rfl,rfl⟩ hk⟩
set_option maxRecDepth 100000 in
theorem lifted (os:Os) (started:os.Started) (H:Type) (enc:TypeId × Value->H) :
  ReturnsInHanded {} Tryz.checked os 7 .any (fun w args=>(Rows.channelDeterministicSpec.pre enc Tryz.prog Tryz.f7 Rows.channelDeterministicRow.domain false w args/\laidMet Tryz.prog Rows.channelDeterministicRow.laid w)/\sizedMet enc Tryz.prog Tryz.f7 (OpenSpec.ofChange Rows.channelDeterministicSpec) false w args)
   (Rows.channelDeterministicSpec.post enc Tryz.prog Tryz.f7 false true false false):=by
 refine returnsInHanded_of_change_and (C:=Tryz.checked) (X:=fun w _=>laidMet Tryz.prog Rows.channelDeterministicRow.laid w) (fun _ _ _ hh h=>h.of_heap hh) own started (by kernel_rfl) Tryz.func7
  (ChangeSpec.witness_at (enc:=enc) (C:=Tryz.checked) (os:=os) (X:=fun w _=>laidMet Tryz.prog Rows.channelDeterministicRow.laid w) false (zfK os) #[.agg #[.slice none 0 0,.slice none 0 0,.slice none 0 0],.int .i64 0,.bool false] 8 rfl (by kernel_rfl) (by kernel_rfl) (by kernel_rfl) (by kernel_rfl) (by kernel_rfl) (zbT os _)) ?_
 intro W base args ds gs before hval hW _ hsz hL _
 exact contract H enc W base args ds gs before hval hW hsz (zjb hL)
theorem over:Rows.ChannelDeterministicSaid :=
 OpenClaim.holds_of_wide 7 Tryz.f7 rfl rfl rfl rfl rfl rfl rfl ⟨rfl,rfl,rfl,rfl,rfl⟩ rfl rfl rfl rfl rfl (by kernel_rfl) Tryz.func7 (by kernel_rfl)
  (of_decide_eq_true (by kernel_rfl)) (by unfold Func.isWrapper;first | (rw [zo4 (by decide +kernel)];kernel_rfl) | (rw [zo3 (by decide +kernel)];exact⟨rfl,rfl⟩))
  (fun os started H enc _=>lifted os started H enc)
set_option maxRecDepth 100000 in
theorem proved:Rows.ChannelDeterministicCardSaid :=
 Claim7.holds_tied_plain_at .later [] [.data,.data,.data] true (true, "99b139f1e00e925ff34aeca7d0f4c8f4cd6a02b8bf52487979596185c8978961") false
  over (fun _ h=>by cases h) (by kernel_rfl) (fun _ h=>by cases h) channelDeterministic_row_tie rfl ⟨rfl,rfl⟩ (by kernel_rfl) rfl
  (fun f fn hf hfn=>by
   obtain rfl:f=7:=(Option.some.inj ((show Tryz.prog.funcNamed "keyhole/keyholelaw38.ChannelDeterministic"=some 7 by kernel_rfl).symm.trans hf)).symm
   obtain rfl:fn=Tryz.f7:=(Option.some.inj (Tryz.func7.symm.trans hfn)).symm
   exact⟨by kernel_rfl,fun j t ht=>by
    rw [Tryz.params7] at ht
    have hm:=Array.mem_of_getElem? ht
    simp only [List.mem_toArray,zo9,List.not_mem_nil,or_false] at hm
    rcases hm with rfl | rfl | rfl
    . exact (show Tryz.prog.wantsStandIn 26=false by kernel_rfl)
    . exact (show Tryz.prog.wantsStandIn 3=false by kernel_rfl)
    ·
     exact (show Tryz.prog.wantsStandIn 4=false by kernel_rfl)⟩)
  (by kernel_rfl)
end Go.Proofs.YtaenledoagbddaaGreatDoor.channelDeterministic
