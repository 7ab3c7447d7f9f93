/-
  The law: for every input it returns true,and the arguments read as before. No condition is asked of the input.
-/
import Derived.Test.YtckdhgbepmpgiaaGreatKN1
namespace Go.Proofs.YtckdhgbepmpgiaaGreat.ssaNeeded
open Go.GL Go.ChangeShapes Go.WideShapes Go.ChangeAt Go.RowKit
set_option maxRecDepth 100000 in
theorem contract (H:Type) (enc:TypeId × Value->H) (W:World) (base:Nat) (args:Array Value) (ds gs:List (DataW H)) (before:List MemPlace)
  (hval:∀ (j:Nat) t v,Tryz.f5.params[j]?=some t->args[j]?=some v->Value.okWide Tryz.prog W .any base t v)
  (hW:DataW.Whole enc Tryz.prog Tryz.f5.params.toList Rows.ssaNeededSpec.vars false W args.toList ds gs before)
  (hsz:(DataW.weightsEach Tryz.prog (Tryz.f5.params.toList++Rows.ssaNeededSpec.plain.varTypes Tryz.prog) (ds++gs)).all (·<=reachBytes)=true) :
  Calls Tryz.prog 5 args W fun e W'=>∃ v,e=.returned v/\Rows.ssaNeededSpec.post enc Tryz.prog Tryz.f5 false true false false W args v W':=by
 have hW':=hW
 obtain⟨p,q,hA0,hV,rfl,hfz,hnd⟩:=hW
 have hA:DataW.TrodAll enc Tryz.prog W 0 (fun _=>true) true Tryz.f5.params.toList args.toList ds p:=hA0
 rw[Tryz.params5]at hA hval hsz
 obtain⟨v0,vs0,d0,ds0,p0,q0,hargs,rfl,rfl,h0,r0⟩:=trodAll_cons hA
 obtain⟨v1,vs1,d1,ds1,p1,q1,rfl,rfl,rfl,h1,r1⟩:=trodAll_cons r0
 obtain⟨rfl,rfl,rfl⟩:=trodAll_nil r1
 obtain rfl:args=#[v0,v1]:=by cases args;simp_all
 obtain⟨rfl,rfl⟩:=trodVars_none hV
 obtain⟨f0,x0,y0,z0,rfl,hf0⟩:=zg0 (hval 0 26 v0 rfl rfl) h0
 obtain⟨s1,a1,b1,rfl,hS1,hsm1⟩:=zgT (zl3 hsz (j:=1) rfl rfl) (hval 1 30 v1 rfl rfl) h1
 clear hA0
 refine(zl7 f0 s1 hsm1 _ _ _ _ _ _ W hf0 hS1).mono ?_
 rintro e W' ⟨v,rfl,rfl,hk⟩
 exact⟨_,rfl,zhI (by kernel_rfl) (by kernel_rfl) (by kernel_rfl) (by rw[Tryz.params5];decide +kernel) O (by kernel_rfl) Tryz.underlying4 hW' ⟨rfl,rfl,rfl⟩ hk⟩
set_option maxRecDepth 100000 in
theorem lifted (os:Os) (started:os.Started) (H:Type) (enc:TypeId × Value->H) :
  ReturnsInHanded {} Tryz.checked os 5 .any (Rows.ssaNeededSpec.pre6 enc Tryz.prog Tryz.f5 Rows.ssaNeededRow.domain false) (Rows.ssaNeededSpec.post enc Tryz.prog Tryz.f5 false true false false):=by
 refine returnsInHanded_of_change_sized (C:=Tryz.checked) own started (by kernel_rfl) Tryz.func5
  (ChangeSpec.witness6 (enc:=enc) (C:=Tryz.checked) false ⟨#[],#[.agg #[.slice none 0 0,.slice none 0 0,.slice none 0 0],.agg #[.slice none 0 0,.slice none 0 0]],[]⟩ 8 (by kernel_rfl) (by kernel_rfl) (by kernel_rfl) (by kernel_rfl)) ?_
 intro W base args ds gs before hval hW _ hsz _
 exact contract H enc W base args ds gs before hval hW hsz
theorem over:Rows.ssaNeededRow.holds Tryz.pinned (OpenSpec.ofChange Rows.ssaNeededSpec) :=
 OpenClaim.holds_of_wide 5 Tryz.f5 rfl rfl rfl rfl rfl rfl rfl ⟨rfl,rfl,rfl,rfl,rfl⟩ rfl rfl rfl rfl rfl (by kernel_rfl) Tryz.func5 (by kernel_rfl)
  (of_decide_eq_true (by kernel_rfl)) (by unfold Func.isWrapper;first | (rw[zp4 (by decide +kernel)];kernel_rfl) | (rw[zp3 (by decide +kernel)];exact⟨rfl,rfl⟩))
  (fun os started H enc _=>lifted os started H enc)
theorem proved:Rows.SsaNeededSaid :=
 over
end Go.Proofs.YtckdhgbepmpgiaaGreat.ssaNeeded
