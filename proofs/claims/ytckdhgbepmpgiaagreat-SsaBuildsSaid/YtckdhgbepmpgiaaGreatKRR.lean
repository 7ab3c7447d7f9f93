/-
  The law: for every input it returns true,and the arguments read as before. No condition is asked of the input.
-/
import Derived.Test.YtckdhgbepmpgiaaGreatKR1
namespace Go.Proofs.YtckdhgbepmpgiaaGreat.ssaBuilds
open Go.GL Go.ChangeShapes Go.WideShapes Go.ChangeAt Go.RowKit
set_option maxRecDepth 100000 in
theorem contract (H:Type) (enc:TypeId × Value->H) (W:World) (base:Nat) (args:Array Value) (ds gs:List (DataW H)) (before:List MemPlace)
  (hg:∀ (j:Nat) t v,Tryz.f7.params[j]?=some t->args[j]?=some v->Value.okWide Tryz.prog W .any base t v)
  (hW:DataW.Whole enc Tryz.prog Tryz.f7.params.toList Rows.ssaBuildsSpec.vars false W args.toList ds gs before) :
  Calls Tryz.prog 7 args W fun e W'=>∃ v,e=.returned v/\Rows.ssaBuildsSpec.post enc Tryz.prog Tryz.f7 false true false false W args v W':=by
 have hw:=hW;obtain⟨p,q,hh,hV,rfl,hC,hD⟩:=hW;have hA:DataW.TrodAll enc Tryz.prog W 0 (fun _=>true) true Tryz.f7.params.toList args.toList ds p:=hh;rw[Tryz.params7]at hA hg;obtain⟨v0,vs0,d0,ds0,p0,q0,ho,rfl,rfl,h0,r0⟩:=trodAll_cons hA;obtain⟨rfl,rfl,rfl⟩:=trodAll_nil r0;obtain rfl:args=#[v0]:=by cases args;simp_all
 obtain⟨rfl,rfl⟩:=trodVars_none hV;obtain⟨f0,x0,y0,z0,rfl,hB⟩:=zw8 (hg 0 26 v0 rfl rfl) h0;clear hh;refine(zox f0 _ _ _ _ W hB).mono ?_;rintro e W' ⟨v,rfl,rfl,hk⟩;exact⟨_,rfl,zwa tK tK tK (by rw[Tryz.params7];decide +kernel) O tK tu4 hw ⟨rfl,rfl,rfl⟩ hk⟩
set_option maxRecDepth 100000 in
theorem lifted (os:Os) (started:os.Started) (H:Type) (enc:TypeId × Value->H) :
  ReturnsInHanded {} Tryz.checked os 7 .any (Rows.ssaBuildsSpec.pre6 enc Tryz.prog Tryz.f7 Rows.ssaBuildsRow.domain false) (Rows.ssaBuildsSpec.post enc Tryz.prog Tryz.f7 false true false false):=by
 refine returnsInHanded_of_change (C:=Tryz.checked) own started tK Tryz.func7
  (ChangeSpec.witness6 (enc:=enc) (C:=Tryz.checked) false ⟨#[],#[.agg #[.slice none 0 0,.slice none 0 0,.slice none 0 0]],[]⟩ 8 tK tK tK tK) ?_
 intro W base args ds gs before hg hW _ _;exact contract H enc W base args ds gs before hg hW
theorem over:Rows.ssaBuildsRow.holds Tryz.pinned (OpenSpec.ofChange Rows.ssaBuildsSpec) :=
 OpenClaim.holds_of_wide 7 Tryz.f7 rfl rfl rfl rfl rfl rfl rfl ⟨rfl,rfl,rfl,rfl,rfl⟩ rfl rfl rfl rfl rfl tK Tryz.func7 tK
  (of_decide_eq_true tK) (by unfold Func.isWrapper;first | (rw[zt2 (by decide +kernel)];kernel_rfl) | (rw[zt1 (by decide +kernel)];exact⟨rfl,rfl⟩))
  (fun os started H enc _=>lifted os started H enc)
theorem proved:Rows.SsaBuildsSaid :=
 over
end Go.Proofs.YtckdhgbepmpgiaaGreat.ssaBuilds
