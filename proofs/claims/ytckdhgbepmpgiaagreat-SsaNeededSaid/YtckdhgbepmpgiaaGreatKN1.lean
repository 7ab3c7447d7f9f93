/-
  Contracts and the mathematics that the proof needs. Nothing here is a claim.
-/
import Derived.Test.YtckdhgbepmpgiaaGreatKW7
import Derived.WalkKit
import Derived.Deep.Quiet
import Derived.Deep.LoopGhost
import Derived.Below
import Derived.OrdersHeld
import Derived.KernelRfl
import Derived.WalkSpells
import Derived.ChangeKeysEq
import Derived.Lib.SliceRun
import Derived.Test.YtckdhgbepmpgiaaGreatRows
import Derived.ProofKit
import Derived.OpenShut
import Derived.ReadAgain
import Derived.ChangeBears
import Derived.Laws.Strings
import Derived.Test.YtckdhgbepmpgiaaGreatProg
import Derived.Maps.RangeRun
import Derived.MapKept
import Derived.Shelf.Sort.Plain
import Derived.Ground.Names2Prog
import Derived.Shelf.Slices.In.SortNone
import Derived.Lib.AppendStr
import Derived.Lib.SmallJoins
import Derived.SizedLaws
import Derived.WideKeyMaps
import Derived.Laws.CopyRow
import Derived.Laws.IdiomCopy
import Derived.Lib.ItoaNum
import Derived.Lib.ItoaMem
namespace Go.GL
abbrev G.sb:=@zmP
end Go.GL
namespace Go.Proofs.YtckdhgbepmpgiaaGreat
open Go.GL
def zl8 (t:List (List Int)):Nat:=(t.map List.length).sum
theorem zry (t:List (List Int)) (k:Nat) (v:List Int):zl8 (t.set k v)<=zl8 t+v.length:=by
 induction t generalizing k with
 | nil=>simp[zl8]
 | cons x t ih =>
  cases k with
  | zero=>simp[zl8];omega
  | succ k=>have:=ih k;simp[zl8]at *;omega
theorem zrz (l:List (Int × List Int)):∀ t,zl8 (zhF t l)<=zl8 t+(l.map fun z=>z.2.length).sum:=by
 induction l with
 | nil=>intro t;exact zpi _
 | cons z l ih =>
  intro t
  have h1:=ih (t.set z.1.toNat z.2)
  have h2:=zry t z.1.toNat z.2
  rw[zqy,zr4]
  exact zoZ h1 (by omega)
theorem zl9 (x:Sn):((zbx x).map fun z=>z.2.length).sum<=wSn x:=by
 unfold zbx wSn wPs
 rw[zqw,zr3,zqz]
 have h1:∀ l:List Phn,(l.map ((fun z:Int × List Int=>z.2.length) ∘ fun p=>(p.ver,p.args))).sum<=(l.map wPh).sum:=fun l=>by
  induction l with
  | nil=>simp
  | cons p l ih=>simp only[zqy,zr4,Function.comp]at *;unfold wPh at *;omega
 have:=h1 x.phis
 split
 . simp;omega
 simp;omega
theorem zrx (s:Sf) (m:Nat):((zby s m).map fun z=>z.2.length).sum<=wNs s.nodes:=by
 have h1:∀ (l:List Sn) (m:Nat),(((l.take m).flatMap zbx).map fun z=>z.2.length).sum<=(l.map wSn).sum:=fun l=>by
  induction l with
  | nil=>intro m;simp
  | cons x l ih =>
   intro m
   cases m with
   | zero=>simp
   | succ m =>
    have:=ih m
    have:=zl9 x
    rw[List.take_succ_cons,zqj,zqw,zr3,zqy,zr4]
    omega
 exact h1 s.nodes m
theorem zrB (s:Sf) (m:Nat) (nl:List Bool):muN s m nl<=s.of_.length+zl8 (xi s m):=by
 have h1:zl8 (xi s m)=((List.range s.of_.length).map fun k=>((xi s m)[k]?.getD []).length).sum:=by
  have e:(xi s m).map List.length=(List.range s.of_.length).map fun k=>((xi s m)[k]?.getD []).length:=by
   apply zqe
   intro k
   rw[zpa,zpa]
   by_cases hk:k<s.of_.length
   .
    rw[List.getElem?_range hk]
    have e:=zoT (show k<(xi s m).length by rw[zdF];exact hk)
    rw[e]
    simp only[zrw]
    rw[e];rfl
   rw[zph (by rw[zdF];omega),zph (by simp;omega)];rfl
  unfold zl8
  rw[e]
 rw[h1]
 unfold muN
 generalize s.of_.length=n
 induction n with
 | zero=>simp
 | succ n ih =>
  rw[zqU,zqw,zqw,zr3,zr3]
  simp only[zqy,zqA,zr4,List.sum_nil]
  split<;>omega
theorem FewS.mu {f:Fl} {g:List Nd} {s:Sf} (h:FewS s) (m:Nat) (nl:List Bool):(yi f g s m).length+muN s m nl<=1000000000:=by
 have h1:=zhl (f:=f) (g:=g) (s:=s) m
 have h2:∀ (l:List Sn) (m:Nat),((l.take m).map fun x=>x.uses.length).sum<=(l.map wSn).sum:=fun l=>by
  induction l with
  | nil=>intro m;simp
  | cons x l ih =>
   intro m
   cases m with
   | zero=>simp
   | succ m =>
    have:=ih m
    rw[List.take_succ_cons,zqy,zqy,zr4,zr4]
    unfold wSn at *
    omega
 have h3:=h2 s.nodes m
 have h4:=zrB s m nl
 have h5:=zrz (zby s m) (List.replicate s.of_.length [])
 have h6:=zrx s m
 have h7:zl8 (List.replicate s.of_.length ([]:List Int))=0:=by unfold zl8;rw[zqB];simp
 have h8:=h.all
 have h9:=h.of_
 have e:zhF (List.replicate s.of_.length []) (zby s m)=xi s m:=rfl
 rw[e]at h5
 unfold wNs at *
 omega
theorem zrA {l:List Nat} {x:Nat} (h:x ∈ l):x<=l.sum:=by
 induction l with
 | nil=>cases h
 | cons y l ih =>
  rw[zr4]
  rcases zp9.1 h with rfl | h
  . omega
  have:=ih h;omega
theorem FewS.uses {s:Sf} (h:FewS s):∀ x ∈ s.nodes,x.uses.length<=1000000:=fun x hx=>by
 have h1:wSn x<=(s.nodes.map wSn).sum:=zrA (zqI.2 ⟨x,hx,rfl⟩)
 have h2:=h.all
 unfold wNs at h2
 unfold wSn at h1 h2
 omega
theorem zl7 (f:Fl) (s:Sf) (hsm:zl2 s) (v1 v2 v3 ofv nodv:Value) (D:Nat->Prop) (W:World) (hf:RFl D W f v1 v2 v3) (hS:RSf D W s ofv nodv) :
  Calls Tryz.prog 5 #[.agg #[v1,v2,v3],.agg #[ofv,nodv]] W (Ret fun r w'=>r=.bool true/\Ext W w'):=by
 have hf0:=hf
 have hS0:=hS
 obtain⟨a1,c1,rfl⟩:=hf.vars.form
 obtain⟨a2,c2,rfl⟩:=hf.hatches.form
 obtain⟨a3,c3,rfl⟩:=hf.body.form
 obtain⟨ao,co,rfl⟩:=hS.of_.form
 obtain⟨am,cm,rfl⟩:=hS.nodes.form
 have hom:=hS.of_.max
 have hnm:=hS.nodes.max
 refine zn2 Tryz.func5 O Tryz.ntmps5 O (znb ?_)
 refine Vs 2 O ?_
 refine V.box 2 O O (fun b2=>?_)
 refine V.box 3 O O (fun b3=>?_)
 refine Vs 6 O ?_
 refine znw Tryz.call11 O (fun w hI=>zfS w) ?_
 refine zmS O (fun w hI=>zms O (by first | exact za | rfl)) ?_
 refine Vs 2 O ?_
 refine V.bool O (fun k0=>?_) (fun k0=>?_)
 . cases k0
 refine Vs 6 O ?_
 refine zny Tryz.call12 O (fun w hI=>zj6 f _ _ _ D w (Tr1 hI.k0 hf)) ?_
 rintro rr w1 w2 hI1 hk12 ⟨q,rfl,hq⟩ hlow
 refine zmS O (fun w hI=>zms O (by first | exact za | rfl)) ?_
 refine Vs 1 O ?_
 refine V.sb 15 O (fun q0=>?_) (fun q0=>?_)
 .
  refine Vs 14 O ?_
  refine zlt Tryz.results5 O (fun w hI=>⟨_,rfl,rfl,hI.k1⟩)
 have hfit:FitC f 16 4 4:=hq (by simpa using q0)
 refine Vs 1 O ?_
 refine zny Tryz.call13 O (fun w hI=>zkS s hsm _ _ D w (Tr1 hI.k1 hS)) ?_
 rintro rr w3 w4 hI3 hk34 ⟨q2,rfl,hq2⟩ hlow2
 refine zmS O (fun w hI=>zms O (by first | exact za | rfl)) ?_
 refine Vs 3 O ?_
 refine V.bool O (fun q1=>?_) (fun q1=>?_)
 .
  refine Vs 7 O ?_
  refine zlt Tryz.results5 O (fun w hI=>⟨_,rfl,rfl,hI.k2⟩)
 have hfew:FewS s:=hq2 (by simpa using q1)
 have vd:=hfit.vd
 have hlens:=vd.lens
 have hss:=vd.ssize
 have hcl:=yH f vd.plain
 have hwl:=xd f.body
 have hbig:=hfew.big (zi f).length
 have hbig2:=hfew.big s.nodes.length
 have hk:GOk f (zi f):=vd.gOk
 refine Vs 5 O ?_
 refine zny Tryz.call14 O (fun w hI=>zhp f _ _ _ D w (Tr1 hI.k2 hf) (by omega)) ?_
 rintro rr w5 w6 hI5 hk56 ⟨nv,rfl,hnv⟩ hlow3
 obtain⟨an,cn,rfl⟩:=hnv.form
 refine V.alloc 5 tz36 O O (fun b5=>?_)
 refine Vs 8 O ?_
 refine zny Tryz.call21 O (fun w hI=>zfR f (zi f) s vd.size vd.bulk hbig (hfew.mu _ _) hfew.uses _ _ _ _ _ _ (fun q=>q<w.heap.size) w (RFl.now (Tr1 hI.k3 hf0)) (hnv.now zI kE hI.k0 (fun b hb hs=>by have:=hlow3 b hs;omega)) (RSf.now (Tr1 hI.k3 hS0)) (fun q h=>h)) ?_
 rintro rr w7 w8 hI7 hk78 ⟨u,rfl,hu0,hu1⟩ hlow4
 refine Vs 13 O ?_
 refine zny Tryz.call15 O (fun w hI=>zkG f (zi f) s hk (by omega) (by omega) (by omega) (by omega) hbig2 _ _ _ _ _ _ (fun q=>q<w.heap.size) w (RFl.now (Tr1 hI.k4 hf0)) (hnv.now zI kE hI.k1 (fun b hb hs=>by have:=hlow3 b hs;omega)) (RSf.now (Tr1 hI.k4 hS0))) ?_
 rintro rr w9 wa hI9 hk9a ⟨z,rfl,hz⟩ hlow5
 refine zmS O (fun w hI=>zms O (by first | exact za | rfl)) ?_
 refine Vs 2 O ?_
 refine V.bool O (fun z0=>?_) (fun z0=>?_)
 .
  have hR:¬ RightF f (zi f) s (rdV f (zi f)):=fun h=>by rw[hz.2 h]at z0;cases z0
  have hc:yq f (zi f) s=13:=zfA (zkc vd) hR
  obtain rfl:=hu0 (by rw[hc];decide)
  rw[hc]
  refine Vs 5 O ?_
  refine V.sp 36 O (fun y0=>?_) (fun y0=>?_)
  .
   refine Vs 9 O ?_
   refine zlt Tryz.results5 O (fun w hI=>⟨_,rfl,rfl,hI.k5⟩)
  exact absurd O y0
 have hR:=hz.1 (by simpa using z0)
 have hc:yq f (zi f) s=0:=zje (zkc vd) hR
 have hul:=hu1 hc
 generalize hNN:kM f (zi f) s=N at hul
 rw[hc]
 obtain⟨au,cu,rfl⟩:=hul.form
 refine Vs 7 O ?_
 refine zny Tryz.call22 O (fun w hI=>hNN ▸ zkb f (zi f) s hk hR.1 (by omega) (by omega) (by omega) _ _ _ _ _ _ _ _ _ w (Tr1 hI.k5 hf) (hnv.keep zI hI.k2 (fun b hb _ hs=>by have:=hlow3 b hs;omega)) (Tr1 hI.k5 hS)) ?_
 rintro rr wb wc hIb hkbc hrl hlow6
 obtain⟨av,cv,rfl⟩:=hrl.form
 have hlm:=hrl.max
 refine Vs 9 O ?_
 refine V.sp 47 O (fun y0=>?_) (fun y0=>?_)
 . exact absurd O y0
 refine Vs 8 O ?_
 refine V.bool O (fun y1=>?_) (fun y1=>?_)
 . simp at y1
 refine Vs 11 O ?_
 refine znK (σ:=Nat) [6,8,55] [] [] O (fun e i=>(56,.int .i64 i)::e) (fun e i=>e) (fun i=>i<=N.length) (fun i=>N.length - i) (0) (Sub.of O) (Has.of O) (fun _=>rfl) (fun _=>rfl) (fun _=>rfl) (zp8 _) ?_
 rintro i hi
 refine Vs 6 O ?_
 refine zld O (fun hlt=>?_) (fun hlt=>?_)
 .
  obtain⟨x,he_x,hm_x⟩:=gE_ N (i) (by omega)
  obtain⟨b_x,o_x,c_x,ha_x,hd_x,hc_x,hR_x⟩:=hul.atD he_x
  obtain rfl:=hR_x
  refine znI 1000 2 O O (fun h_=>by have h1_:=hlow4 _ h_;have h2_:=hd_x;first | omega | exact h1_ h2_) hc_x ?_
  obtain⟨y,he_y,hm_y⟩:=gE_ N (i) (by omega)
  obtain⟨b_y,o_y,c_y,ha_y,hd_y,hc_y,hR_y⟩:=hrl.atD he_y
  obtain rfl:=hR_y
  refine znI 2000 0 O O (fun h_=>by have h1_:=hlow6 _ h_;have h2_:=hd_y;first | omega | exact h1_ h2_) hc_y ?_
  obtain rfl:x=y:=Option.some.inj (he_x.symm.trans he_y)
  refine Vs 11 O ?_
  refine Vq (by kernel_rfl) ?_
  refine Vs 2 O ?_
  refine znn 1000 tR52 ts4 O ha_x (by omega) (_) (rfl) O ?_
  refine Vs 3 O ?_
  refine znn 2000 tR52 ts4 O ha_y (by omega) (_) (rfl) O ?_
  refine Vs 4 O ?_
  refine V.bool O (fun e0=>?_) (fun e0=>?_)
  . simp at e0
  refine Va 7 O (by omega) ?_
  refine V.back (i+1) (Sub.of O) (Has.of O) (by omega) (by first | omega | (dsimp only;omega)) 0 O O
 refine Vs 11 O ?_
 refine zlt Tryz.results5 O (fun w hI=>⟨_,rfl,rfl,hI.k6⟩)
end Go.Proofs.YtckdhgbepmpgiaaGreat
