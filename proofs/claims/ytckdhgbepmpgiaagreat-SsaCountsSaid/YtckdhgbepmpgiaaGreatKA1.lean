/-
  Contracts and the mathematics that the proof needs. Nothing here is a claim.
-/
import Derived.Test.YtckdhgbepmpgiaaGreatKV6
import Derived.WalkKit
import Derived.Deep.Quiet
import Derived.Deep.LoopGhost
import Derived.Below
import Derived.OrdersHeld
import Derived.KernelRfl
import Derived.WalkSpells
import Derived.ChangeKeysEq
import Derived.Lib.SliceRun
import Derived.Test.YtckdhgbepmpgiaaGreatRows
import Derived.ProofKit
import Derived.OpenShut
import Derived.ReadAgain
import Derived.ChangeBears
import Derived.Laws.Strings
import Derived.Test.YtckdhgbepmpgiaaGreatProg
import Derived.Maps.RangeRun
import Derived.MapKept
import Derived.Shelf.Sort.Plain
import Derived.Ground.Names2Prog
import Derived.Shelf.Slices.In.SortNone
import Derived.Lib.AppendStr
import Derived.Lib.SmallJoins
import Derived.SizedLaws
import Derived.WideKeyMaps
import Derived.Laws.CopyRow
import Derived.Laws.IdiomCopy
import Derived.Lib.ItoaNum
import Derived.Lib.ItoaMem
namespace Go.GL
abbrev G.sb:=@zmi
end Go.GL
namespace Go.Proofs.YtckdhgbepmpgiaaGreat
open Go.GL
theorem zkA (f:Fl) (s:Sf) (hsm:zku s) (v1 v2 v3 ofv nodv:Value) (D:Nat->Prop) (W:World) (hf:RFl D W f v1 v2 v3) (hS:RSf D W s ofv nodv) :
  Calls Tryz.prog 6 #[.agg #[v1,v2,v3],.agg #[ofv,nodv]] W (Ret fun r w'=>r=.bool true/\Ext W w'):=by
 have hf0:=hf
 have hS0:=hS
 obtain⟨a1,c1,rfl⟩:=hf.vars.form
 obtain⟨a2,c2,rfl⟩:=hf.hatches.form
 obtain⟨a3,c3,rfl⟩:=hf.body.form
 obtain⟨ao,co,rfl⟩:=hS.of_.form
 obtain⟨am,cm,rfl⟩:=hS.nodes.form
 have hom:=hS.of_.max
 have hnm:=hS.nodes.max
 refine zmv Tryz.func6 O Tryz.ntmps6 O (zmE ?_)
 refine Vs 2 O ?_
 refine V.box 2 O O (fun b2=>?_)
 refine V.box 3 O O (fun b3=>?_)
 refine Vs 6 O ?_
 refine zmZ Tryz.call11 O (fun w hI=>zfh w) ?_
 refine zml O (fun w hI=>zlV O (by first | exact za | rfl)) ?_
 refine Vs 2 O ?_
 refine V.bool O (fun k0=>?_) (fun k0=>?_)
 . cases k0
 ·
  refine Vs 6 O ?_
  refine zn1 Tryz.call12 O (fun w hI=>ziw f _ _ _ D w (Tr1 hI.k0 hf)) ?_
  rintro rr w1 w2 hI1 hk12 ⟨q,rfl,hq⟩ hlow
  refine zml O (fun w hI=>zlV O (by first | exact za | rfl)) ?_
  refine Vs 1 O ?_
  refine V.sb 14 O (fun q0=>?_) (fun q0=>?_)
  ·
   refine Vs 14 O ?_
   refine zkW Tryz.results6 O (fun w hI=>⟨_,rfl,rfl,hI.k1⟩)
  ·
   have hfit:FitC f 16 4 4:=hq (by simpa using q0)
   refine Vs 1 O ?_
   refine zn1 Tryz.call13 O (fun w hI=>zkh s hsm _ _ D w (Tr1 hI.k1 hS)) ?_
   rintro rr w3 w4 hI3 hk34 ⟨q2,rfl,hq2⟩ hlow2
   refine zml O (fun w hI=>zlV O (by first | exact za | rfl)) ?_
   refine Vs 3 O ?_
   refine V.bool O (fun q1=>?_) (fun q1=>?_)
   ·
    refine Vs 7 O ?_
    refine zkW Tryz.results6 O (fun w hI=>⟨_,rfl,rfl,hI.k2⟩)
   ·
    have hfew:FewS s:=hq2 (by simpa using q1)
    have vd:=hfit.vd
    have hlens:=vd.lens
    have hss:=vd.ssize
    have hcl:=yz f vd.plain
    have hwl:=yU f.body
    have hbig:=hfew.big (zh f).length
    have hbig2:=hfew.big s.nodes.length
    have hk:GOk f (zh f):=vd.gOk
    refine Vs 5 O ?_
    refine zn1 Tryz.call14 O (fun w hI=>zgM f _ _ _ D w (Tr1 hI.k2 hf) (by omega)) ?_
    rintro rr w5 w6 hI5 hk56 ⟨nv,rfl,hnv⟩ hlow3
    obtain⟨an,cn,rfl⟩:=hnv.form
    refine V.alloc 5 tz36 O O (fun b5=>?_)
    refine Vs 9 O ?_
    refine zmZ Tryz.call16 O (fun w hI=>jZ f (zh f) s vd.size vd.bulk hbig _ _ _ _ _ _ (fun q=>q<w.heap.size) w (RFl.now (Tr1 hI.k3 hf0)) (hnv.now zI jV hI.k0 (fun b hb hs=>by have:=hlow3 b hs;omega)) (RSf.now (Tr1 hI.k3 hS0)) (fun q h=>h)) ?_
    refine Vs 3 O ?_
    refine zkG O (fun c0=>?_) (fun c0=>?_)
    ·
     refine Vs 7 O ?_
     refine zkW Tryz.results6 O (fun w hI=>⟨_,rfl,rfl,hI.k3⟩)
    ·
     obtain⟨_,hR⟩:=zgA (zos.1 c0)
     have hF:=hR.toFormF
     have hlen:=hF.len
     have hct:=zks hF
     refine Vs 22 O ?_
     refine zkG O (fun n0=>?_) (fun n0=>?_)
     . omega
     ·
      have hof:=hfew.of_
      refine Vs 12 O ?_
      refine znd (σ:=Nat × Nat) [2,3,5,37,38] [2,3,5] [2,3,5] O (fun e ⟨i,m⟩=>(39,.int .i64 i)::(6,.int .i64 m)::e) (fun e ⟨i,m⟩=>e) (fun⟨i,m⟩=>i<=s.nodes.length/\m=f.vars.length+((List.range i).flatMap (dfL f (zh f) s)).length) (fun⟨i,m⟩=>s.nodes.length - i) ((0,f.vars.length)) (Sub.of O) (Has.of O) (fun _=>rfl) (fun _=>rfl) (fun _=>rfl) (⟨zoy _,by simp⟩) ?_
      rintro⟨i,m⟩ ⟨hi,hm⟩
      show V _ _ _ _ _ ((39,.int .i64 i)::(6,.int .i64 m)::_) _ (_) _
      have hle:((List.range i).flatMap (dfL f (zh f) s)).length<=(xG f (zh f) s).length:=zky (by omega)
      refine Vs 6 O ?_
      refine zkG O (fun li=>?_) (fun li=>?_)
      ·
       refine Vs 7 O ?_
       obtain⟨x,he_x,hm_x⟩:=gE_ s.nodes (i) (by omega)
       obtain⟨b_x,o_x,c_x,ha_x,_,hc_x,hR_x⟩:=hS.nodes.at he_x
       obtain⟨v1_x,v2_x,rfl,hp_x,hu_x⟩:=hR_x
       obtain⟨a1_x,n1_x,rfl⟩:=hp_x.form
       obtain⟨a2_x,n2_x,rfl⟩:=hu_x.form
       refine zna 1000 3 O O hc_x ?_
       refine zmN 1000 tR28 ts59 O ha_x (by omega) (_) (rfl) O ?_
       have hxn:=yO he_x
       have hpx:=hp_x.max
       have hnx:((List.range (i+1)).flatMap (dfL f (zh f) s)).length=((List.range i).flatMap (dfL f (zh f) s)).length+(x.phis.length+if 0<=jp f (zh f) i then 1 else 0):=by
        rw [List.range_succ,List.flatMap_append,List.flatMap_singleton,zor]
        unfold dfL
        rw [hxn,zor,zoD]
        split <;> rfl
       have hle2:((List.range (i+1)).flatMap (dfL f (zh f) s)).length<=(xG f (zh f) s).length:=zky (by omega)
       refine Vs 1 O ?_
       refine V.alloc 8 tz59 O O (fun b8=>?_)
       refine Va 19 O (by omega) ?_
       refine zmZ Tryz.call23 O (fun w hI=>zjb f (zh f) hk (by omega) i (by omega) _ _ _ _ D (fun b=>w5.heap.size<=b) w (Tr1 hI.k3 hf0) (hnv.keep zI hI.k0 fun b hb _ hs=>by have:=hlow3 b hs;omega)) ?_
       refine Vs 3 O ?_
       refine zkG O (fun d0=>?_) (fun d0=>?_)
       ·
        rw [zou d0] at hnx
        refine Va 11 O (by omega) ?_
        refine V.back (⟨i+1,m+x.phis.length+1⟩) (Sub.of O) (Has.of O) (⟨by omega,by omega⟩) (by first | omega | (dsimp only;omega)) 0 O O
       ·
        rw [zot d0] at hnx
        refine Va 7 O (by omega) ?_
        refine V.back (⟨i+1,m+x.phis.length⟩) (Sub.of O) (Has.of O) (⟨by omega,by omega⟩) (by first | omega | (dsimp only;omega)) 0 O O
      ·
       obtain rfl:i=s.nodes.length:=by omega
       have e:((List.range s.nodes.length).flatMap (dfL f (zh f) s))=xG f (zh f) s:=by unfold xG;rw [hlen]
       rw [e] at hm
       refine Vs 16 O ?_
       refine zkW Tryz.results6 O (fun w hI=>⟨_,rfl,congrArg Value.bool (zov (by omega)),hI.k3⟩)
end Go.Proofs.YtckdhgbepmpgiaaGreat
