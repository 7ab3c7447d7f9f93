/-
  The law: for every input it returns true,and the arguments read as before. No condition is asked of the input.
-/
import Derived.Test.YtckdhgbepmpgiaaGreatKR1
namespace Go.Proofs.YtckdhgbepmpgiaaGreat.ssaRuns
open Go.GL Go.ChangeShapes Go.WideShapes Go.ChangeAt Go.RowKit
set_option maxRecDepth 100000 in
theorem contract (H:Type) (enc:TypeId × Value->H) (W:World) (base:Nat) (args:Array Value) (ds gs:List (DataW H)) (before:List MemPlace)
  (hg:∀ (j:Nat) t v,Tryz.f4.params[j]?=some t->args[j]?=some v->Value.okWide Tryz.prog W .any base t v)
  (hW:DataW.Whole enc Tryz.prog Tryz.f4.params.toList Rows.ssaRunsSpec.vars false W args.toList ds gs before)
  (hw:(DataW.weightsEach Tryz.prog (Tryz.f4.params.toList++Rows.ssaRunsSpec.plain.varTypes Tryz.prog) (ds++gs)).all (·<=reachBytes)=true) :
  Calls Tryz.prog 4 args W fun e W'=>∃ v,e=.returned v/\Rows.ssaRunsSpec.post enc Tryz.prog Tryz.f4 false true false false W args v W':=by
 have hE:=hW
 obtain⟨p,q,hC,hV,rfl,hH,hJ⟩:=hW
 have hA:DataW.TrodAll enc Tryz.prog W 0 (fun _=>true) true Tryz.f4.params.toList args.toList ds p:=hC
 rw[Tryz.params4]at hA hg hw
 obtain⟨v0,vs0,d0,ds0,p0,q0,hD,rfl,rfl,h0,r0⟩:=trodAll_cons hA
 obtain⟨v1,vs1,d1,ds1,p1,q1,rfl,rfl,rfl,h1,r1⟩:=trodAll_cons r0
 obtain⟨rfl,rfl,rfl⟩:=trodAll_nil r1
 obtain rfl:args=#[v0,v1]:=by cases args;simp_all
 obtain⟨rfl,rfl⟩:=trodVars_none hV
 obtain⟨f0,x0,y0,z0,rfl,hF⟩:=zso (hg 0 26 v0 rfl rfl) h0
 obtain⟨s1,a1,b1,rfl,hG,hh⟩:=zsp (zsx hw (j:=1) rfl rfl) (hg 1 30 v1 rfl rfl) h1
 clear hC
 refine(zsi f0 s1 hh _ _ _ _ _ _ W hF hG).mono ?_
 rintro e W' ⟨v,rfl,rfl,hk⟩
 exact⟨_,rfl,zsq (by kernel_rfl) (by kernel_rfl) (by kernel_rfl) (by rw[Tryz.params4];decide +kernel) O (by kernel_rfl) Tryz.underlying4 hE ⟨rfl,rfl,rfl⟩ hk⟩
set_option maxRecDepth 100000 in
theorem lifted (os:Os) (started:os.Started) (H:Type) (enc:TypeId × Value->H) :
  ReturnsInHanded {} Tryz.checked os 4 .any (Rows.ssaRunsSpec.pre6 enc Tryz.prog Tryz.f4 Rows.ssaRunsRow.domain false) (Rows.ssaRunsSpec.post enc Tryz.prog Tryz.f4 false true false false):=by
 refine returnsInHanded_of_change_sized (C:=Tryz.checked) own started (by kernel_rfl) Tryz.func4
  (ChangeSpec.witness6 (enc:=enc) (C:=Tryz.checked) false ⟨#[],#[.agg #[.slice none 0 0,.slice none 0 0,.slice none 0 0],.agg #[.slice none 0 0,.slice none 0 0]],[]⟩ 8 (by kernel_rfl) (by kernel_rfl) (by kernel_rfl) (by kernel_rfl)) ?_
 intro W base args ds gs before hg hW _ hh _
 exact contract H enc W base args ds gs before hg hW hh
theorem over:Rows.ssaRunsRow.holds Tryz.pinned (OpenSpec.ofChange Rows.ssaRunsSpec) :=
 OpenClaim.holds_of_wide 4 Tryz.f4 rfl rfl rfl rfl rfl rfl rfl ⟨rfl,rfl,rfl,rfl,rfl⟩ rfl rfl rfl rfl rfl (by kernel_rfl) Tryz.func4 (by kernel_rfl)
  (of_decide_eq_true (by kernel_rfl)) (by unfold Func.isWrapper;first | (rw[zpv (by decide +kernel)];kernel_rfl) | (rw[zpu (by decide +kernel)];exact⟨rfl,rfl⟩))
  (fun os started H enc _=>lifted os started H enc)
theorem proved:Rows.SsaRunsSaid :=
 over
end Go.Proofs.YtckdhgbepmpgiaaGreat.ssaRuns
