/-
  The law: for every input it returns true,and the arguments read as before. No condition is asked of the input.
-/
import Derived.Test.YtckdhgbepmpgiaaGreatKT1
namespace Go.Proofs.YtckdhgbepmpgiaaGreat.ssaRefuses
open Go.GL Go.ChangeShapes Go.WideShapes Go.ChangeAt Go.RowKit
set_option maxRecDepth 100000 in
theorem contract (H:Type) (enc:TypeId × Value->H) (W:World) (base:Nat) (args:Array Value) (ds gs:List (DataW H)) (before:List MemPlace)
  (ho:∀ (j:Nat) t v,Tryz.f10.params[j]?=some t->args[j]?=some v->Value.okWide Tryz.prog W .any base t v)
  (hW:DataW.Whole enc Tryz.prog Tryz.f10.params.toList Rows.ssaRefusesSpec.vars false W args.toList ds gs before)
  (hE:(DataW.weightsEach Tryz.prog (Tryz.f10.params.toList++Rows.ssaRefusesSpec.plain.varTypes Tryz.prog) (ds++gs)).all (·<=reachBytes)=true) :
  Calls Tryz.prog 10 args W fun e W'=>∃ v,e=.returned v/\Rows.ssaRefusesSpec.post enc Tryz.prog Tryz.f10 false true false false W args v W':=by
 have hH:=hW;obtain⟨p,q,hF,hV,rfl,hO,hT⟩:=hW;have hA:DataW.TrodAll enc Tryz.prog W 0 (fun _=>true) true Tryz.f10.params.toList args.toList ds p:=hF;rw[Tryz.params10]at hA ho hE;obtain⟨v0,vs0,d0,ds0,p0,q0,hG,rfl,rfl,h0,r0⟩:=trodAll_cons hA;obtain⟨v1,vs1,d1,ds1,p1,q1,rfl,rfl,rfl,h1,r1⟩:=trodAll_cons r0;obtain⟨v2,vs2,d2,ds2,p2,q2,rfl,rfl,rfl,h2,r2⟩:=trodAll_cons r1;obtain⟨rfl,rfl,rfl⟩:=trodAll_nil r2;obtain rfl:args=#[v0,v1,v2]:=by cases args;simp_all
 obtain⟨rfl,rfl⟩:=trodVars_none hV;obtain⟨f0,x0,y0,z0,rfl,hJ⟩:=zwj (ho 0 26 v0 rfl rfl) h0;obtain⟨g1,gv1,rfl,hK⟩:=zwn (ho 1 36 v1 rfl rfl) h1;obtain⟨i2,s2,t2,u2,rfl,hL,hM,hN,hw,hC,hD⟩:=zwk (zwu hE (j:=2) rfl rfl) (ho 2 45 v2 rfl rfl) h2;clear hF;refine(zw8 f0 g1 i2 _ _ _ _ _ _ _ _ _ _ _ _ W hJ hK hL hM hN hw hC hD).mono ?_;rintro e W' ⟨v,rfl,rfl,hk⟩;exact⟨_,rfl,zwm tK tK tK (by rw[Tryz.params10];decide +kernel) O tK tu4 hH ⟨rfl,rfl,rfl⟩ hk⟩
set_option maxRecDepth 100000 in
theorem lifted (os:Os) (started:os.Started) (H:Type) (enc:TypeId × Value->H) :
  ReturnsInHanded {} Tryz.checked os 10 .any (Rows.ssaRefusesSpec.pre6 enc Tryz.prog Tryz.f10 Rows.ssaRefusesRow.domain false) (Rows.ssaRefusesSpec.post enc Tryz.prog Tryz.f10 false true false false):=by
 refine returnsInHanded_of_change_sized (C:=Tryz.checked) own started tK Tryz.func10
  (ChangeSpec.witness6 (enc:=enc) (C:=Tryz.checked) false ⟨#[],#[.agg #[.slice none 0 0,.slice none 0 0,.slice none 0 0],.agg #[.slice none 0 0],.agg #[.slice none 0 0,.slice none 0 0,.slice none 0 0]],[]⟩ 8 tK tK tK tK) ?_
 intro W base args ds gs before ho hW _ hw _;exact contract H enc W base args ds gs before ho hW hw
theorem over:Rows.ssaRefusesRow.holds Tryz.pinned (OpenSpec.ofChange Rows.ssaRefusesSpec) :=
 OpenClaim.holds_of_wide 10 Tryz.f10 rfl rfl rfl rfl rfl rfl rfl ⟨rfl,rfl,rfl,rfl,rfl⟩ rfl rfl rfl rfl rfl tK Tryz.func10 tK
  (of_decide_eq_true tK) (by unfold Func.isWrapper;first | (rw[zt1 (by decide +kernel)];kernel_rfl) | (rw[zt0 (by decide +kernel)];exact⟨rfl,rfl⟩))
  (fun os started H enc _=>lifted os started H enc)
theorem proved:Rows.SsaRefusesSaid :=
 over
end Go.Proofs.YtckdhgbepmpgiaaGreat.ssaRefuses
