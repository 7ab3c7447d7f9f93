/-
  The law: for every input it returns true,and the arguments read as before. No condition is asked of the input.
-/
import Derived.Test.YtckdhgbepmpgiaaGreatKS1
namespace Go.Proofs.YtckdhgbepmpgiaaGreat.ssaBuiltRuns
open Go.GL Go.ChangeShapes Go.WideShapes Go.ChangeAt Go.RowKit
set_option maxRecDepth 100000 in
theorem contract (H:Type) (enc:TypeId × Value->H) (W:World) (base:Nat) (args:Array Value) (ds gs:List (DataW H)) (before:List MemPlace)
  (hg:∀ (j:Nat) t v,Tryz.f8.params[j]?=some t->args[j]?=some v->Value.okWide Tryz.prog W .any base t v)
  (hW:DataW.Whole enc Tryz.prog Tryz.f8.params.toList Rows.ssaBuiltRunsSpec.vars false W args.toList ds gs before) :
  Calls Tryz.prog 8 args W fun e W'=>∃ v,e=.returned v/\Rows.ssaBuiltRunsSpec.post enc Tryz.prog Tryz.f8 false true false false W args v W':=by
 have hB:=hW;obtain⟨p,q,hh,hV,rfl,hD,hE⟩:=hW;have hA:DataW.TrodAll enc Tryz.prog W 0 (fun _=>true) true Tryz.f8.params.toList args.toList ds p:=hh;rw[Tryz.params8]at hA hg;obtain⟨v0,vs0,d0,ds0,p0,q0,hw,rfl,rfl,h0,r0⟩:=trodAll_cons hA;obtain⟨rfl,rfl,rfl⟩:=trodAll_nil r0;obtain rfl:args=#[v0]:=by cases args;simp_all
 obtain⟨rfl,rfl⟩:=trodVars_none hV;obtain⟨f0,x0,y0,z0,rfl,hC⟩:=zwO (hg 0 26 v0 rfl rfl) h0;clear hh;refine(zoY f0 _ _ _ _ W hC).mono ?_;rintro e W' ⟨v,rfl,rfl,hk⟩;exact⟨_,rfl,zwP tK tK tK (by rw[Tryz.params8];decide +kernel) O tK tu4 hB ⟨rfl,rfl,rfl⟩ hk⟩
set_option maxRecDepth 100000 in
theorem lifted (os:Os) (started:os.Started) (H:Type) (enc:TypeId × Value->H) :
  ReturnsInHanded {} Tryz.checked os 8 .any (Rows.ssaBuiltRunsSpec.pre6 enc Tryz.prog Tryz.f8 Rows.ssaBuiltRunsRow.domain false) (Rows.ssaBuiltRunsSpec.post enc Tryz.prog Tryz.f8 false true false false):=by
 refine returnsInHanded_of_change (C:=Tryz.checked) own started tK Tryz.func8
  (ChangeSpec.witness6 (enc:=enc) (C:=Tryz.checked) false ⟨#[],#[.agg #[.slice none 0 0,.slice none 0 0,.slice none 0 0]],[]⟩ 8 tK tK tK tK) ?_
 intro W base args ds gs before hg hW _ _;exact contract H enc W base args ds gs before hg hW
theorem over:Rows.ssaBuiltRunsRow.holds Tryz.pinned (OpenSpec.ofChange Rows.ssaBuiltRunsSpec) :=
 OpenClaim.holds_of_wide 8 Tryz.f8 rfl rfl rfl rfl rfl rfl rfl ⟨rfl,rfl,rfl,rfl,rfl⟩ rfl rfl rfl rfl rfl tK Tryz.func8 tK
  (of_decide_eq_true tK) (by unfold Func.isWrapper;first | (rw[zty (by decide +kernel)];kernel_rfl) | (rw[ztx (by decide +kernel)];exact⟨rfl,rfl⟩))
  (fun os started H enc _=>lifted os started H enc)
theorem proved:Rows.SsaBuiltRunsSaid :=
 over
end Go.Proofs.YtckdhgbepmpgiaaGreat.ssaBuiltRuns
