/-
  The law: for every input it returns true,and the arguments read as before. No condition is asked of the input.
-/
import Derived.Test.YtaenledoagbddaaGreatDoorYOF1
namespace Go.Proofs.YtaenledoagbddaaGreatDoor.channelOf
open Go.GL Go.ChangeShapes Go.WideShapes Go.ChangeAt Go.RowKit
set_option maxRecDepth 100000 in
theorem contract (H:Type) (enc:TypeId × Value->H) (W:World) (base:Nat) (args:Array Value) (ds gs:List (DataW H)) (before:List MemPlace)
  (hval:∀ (j:Nat) t v,Tryz.f10.params[j]?=some t->args[j]?=some v->Value.okWide Tryz.prog W .any base t v)
  (hW:DataW.Whole enc Tryz.prog Tryz.f10.params.toList Rows.channelOfSpec.vars false W args.toList ds gs before)
  (hsz:(DataW.weightsEach Tryz.prog (Tryz.f10.params.toList++Rows.channelOfSpec.plain.varTypes Tryz.prog) (ds++gs)).all (·<=reachBytes)=true) (ht:Tab W) :
  Calls Tryz.prog 10 args W fun e W'=>∃ v,e=.returned v/\Rows.channelOfSpec.post enc Tryz.prog Tryz.f10 false true false false W args v W':=by
 have hW':=hW
 obtain⟨p,q,hA0,hV,rfl,hfz,hnd⟩:=hW
 have hA:DataW.TrodAll enc Tryz.prog W 0 (fun _=>true) true Tryz.f10.params.toList args.toList ds p:=hA0
 rw [Tryz.params10] at hA hval hsz
 obtain⟨v0,vs0,d0,ds0,p0,q0,hargs,rfl,rfl,h0,r0⟩:=trodAll_cons hA
 obtain⟨v1,vs1,d1,ds1,p1,q1,rfl,rfl,rfl,h1,r1⟩:=trodAll_cons r0
 obtain⟨rfl,rfl,rfl⟩:=trodAll_nil r1
 obtain rfl:args=#[v0,v1]:=by cases args;simp_all
 obtain⟨rfl,rfl⟩:=trodVars_none hV
 obtain⟨f0,x0,y0,z0,rfl,hf0⟩:=zpB (hval 0 26 v0 rfl rfl) h0
 obtain⟨l1,t1,x1,rfl,hl1⟩:=zpF (hval 1 29 v1 rfl rfl) h1
 clear hA0
 refine (zq7 f0 l1 t1 _ _ _ x1 _ _ W hf0 hl1 ht).mono ?_
 rintro e W' ⟨v,rfl,rfl,hk⟩
 exact⟨_,rfl,zgA (by kernel_rfl) (by kernel_rfl) (by kernel_rfl) (by rw [Tryz.params10];decide +kernel) O (by kernel_rfl) tu4 hW' ⟨rfl,rfl,rfl⟩ hk⟩
set_option maxRecDepth 100000 in
theorem lifted (os:Os) (started:os.Started) (H:Type) (enc:TypeId × Value->H) :
  ReturnsInHanded {} Tryz.checked os 10 .any (fun w args=>(Rows.channelOfSpec.pre enc Tryz.prog Tryz.f10 Rows.channelOfRow.domain false w args/\laidMet Tryz.prog Rows.channelOfRow.laid w)/\sizedMet enc Tryz.prog Tryz.f10 (OpenSpec.ofChange Rows.channelOfSpec) false w args)
   (Rows.channelOfSpec.post enc Tryz.prog Tryz.f10 false true false false):=by
 refine returnsInHanded_of_change_and (C:=Tryz.checked) (X:=fun w _=>laidMet Tryz.prog Rows.channelOfRow.laid w) (fun _ _ _ hh h=>h.of_heap hh) own started (by kernel_rfl) Tryz.func10
  (ChangeSpec.witness_at (enc:=enc) (C:=Tryz.checked) (os:=os) (X:=fun w _=>laidMet Tryz.prog Rows.channelOfRow.laid w) false (zfK os) #[.agg #[.slice none 0 0,.slice none 0 0,.slice none 0 0],.agg #[.slice none 0 0,.bool false]] 8 rfl (by kernel_rfl) (by kernel_rfl) (by kernel_rfl) (by kernel_rfl) (by kernel_rfl) (zbT os _)) ?_
 intro W base args ds gs before hval hW _ hsz hL _
 exact contract H enc W base args ds gs before hval hW hsz (zjb hL)
theorem over:Rows.ChannelOfSaid :=
 OpenClaim.holds_of_wide 10 Tryz.f10 rfl rfl rfl rfl rfl rfl rfl ⟨rfl,rfl,rfl,rfl,rfl⟩ rfl rfl rfl rfl rfl (by kernel_rfl) Tryz.func10 (by kernel_rfl)
  (of_decide_eq_true (by kernel_rfl)) (by unfold Func.isWrapper;first | (rw [zo4 (by decide +kernel)];kernel_rfl) | (rw [zo3 (by decide +kernel)];exact⟨rfl,rfl⟩))
  (fun os started H enc _=>lifted os started H enc)
set_option maxRecDepth 100000 in
theorem proved:Rows.ChannelOfCardSaid :=
 Claim7.holds_tied_plain_at .later [] [.data,.data,.data] true (true, "99b139f1e00e925ff34aeca7d0f4c8f4cd6a02b8bf52487979596185c8978961") false
  over (fun _ h=>by cases h) (by kernel_rfl) (fun _ h=>by cases h) channelOf_row_tie rfl ⟨rfl,rfl⟩ (by kernel_rfl) rfl
  (fun f fn hf hfn=>by
   obtain rfl:f=10:=(Option.some.inj ((show Tryz.prog.funcNamed "keyhole/keyholelaw38.ChannelOf"=some 10 by kernel_rfl).symm.trans hf)).symm
   obtain rfl:fn=Tryz.f10:=(Option.some.inj (Tryz.func10.symm.trans hfn)).symm
   exact⟨by kernel_rfl,fun j t ht=>by
    rw [Tryz.params10] at ht
    have hm:=Array.mem_of_getElem? ht
    simp only [List.mem_toArray,zo9,List.not_mem_nil,or_false] at hm
    rcases hm with rfl | rfl
    . exact (show Tryz.prog.wantsStandIn 26=false by kernel_rfl)
    ·
     exact (show Tryz.prog.wantsStandIn 29=false by kernel_rfl)⟩)
  (by kernel_rfl)
end Go.Proofs.YtaenledoagbddaaGreatDoor.channelOf
